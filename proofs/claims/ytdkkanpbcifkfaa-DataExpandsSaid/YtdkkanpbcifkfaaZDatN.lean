/- Data that stand alone: whether they have their type's shape, their names, what they are in small letters: program and reference tell the same. Conditions: on sizes alone. -/
import Derived.Test.YtdkkanpbcifkfaaZDatX
import Derived.Test.YtdkkanpbcifkfaaZQ11
import Derived.Test.YtdkkanpbcifkfaaZQ10
import Derived.Test.YtdkkanpbcifkfaaZQ6
import Derived.Test.YtdkkanpbcifkfaaZQ7
set_option linter.unusedVariables false
set_option linter.unusedSimpArgs false
namespace Go.Proofs.Ytdkkanpbcifkfaa.ZQ
open Go.RowKit Go.Proofs.YtdkkanpbcifkfaaW.PrintWords Go.Proofs.YtdkkanpbcifkfaaW.PrintLast Go.Proofs.YtdkkanpbcifkfaaW.PrintMore Go.Proofs.Ytdkkanpbcifkfaa.B

def chk (kind : Int) (d : ByteArray) : Bool := decide (d.size ≤ 65535) && (decide ((expd d 0 d.size kind).2 = 0) && decide ((expd d 0 d.size kind).1 = d))
theorem chk_iff {kind : Int} {d : ByteArray} : chk kind d = true ↔ d.size ≤ 65535 ∧ expd d 0 d.size kind = (d, 0) := by
  unfold chk
  simp only [Bool.and_eq_true, decide_eq_true_eq]
  constructor
  · rintro ⟨h1, h2, h3⟩; exact ⟨h1, Prod.ext h3 h2⟩
  · rintro ⟨h1, h2⟩; rw [h2]; exact ⟨h1, rfl, rfl⟩
theorem dcheck_eq (k : Nat) (hk : K0 + 10 ≤ k) (kind : Int) (d : ByteArray) : data_Check.f k kind d = some (chk kind d) := by
  unfold data_Check.f chk
  by_cases h : (d.size : Int) > 65535
  · rw [if_pos h, decide_eq_false (by omega)]; rfl
  · rw [if_neg h, exp_eq k hk d 0 _ kind (by omega), decide_eq_true (by omega), Bool.true_and]
    simp only [Option.bind_some]
    by_cases h0 : (expd d 0 d.size kind).2 = 0
    · rw [if_pos h0, decide_eq_true h0, toList_beq, Bool.true_and]
    · rw [if_neg h0, decide_eq_false h0, Bool.false_and]
theorem ref_dcheck_eq (k : Nat) (hk : K0 + 10 ≤ k) (kind : Int) (d : ByteArray) : wellspringref05_Check.f k kind d = some (chk kind d) := by
  unfold wellspringref05_Check.f chk
  by_cases h : (d.size : Int) > 65535
  · rw [if_pos h, decide_eq_false (by omega)]; rfl
  · rw [if_neg h, ref_exp_eq k hk d 0 _ kind (by omega), decide_eq_true (by omega), Bool.true_and]
    simp only [Option.bind_some]
    by_cases h0 : (expd d 0 d.size kind).2 = 0
    · rw [if_pos h0, decide_eq_true h0, toList_beq, Bool.true_and]
    · rw [if_neg h0, decide_eq_false h0, Bool.false_and]
theorem take_whole (d : ByteArray) : okTake d 0 d.size := ⟨Int.le_refl _, by omega, by omega⟩
theorem fin2_zero {x d : ByteArray} (h : fin2 x = (d, 0)) : x = d ∧ x.size ≤ 65535 := by
  unfold fin2 at h
  split at h
  · have := congrArg Prod.snd h; cases this
  · exact ⟨congrArg Prod.fst h, by omega⟩
theorem fin2_ok {d : ByteArray} (h : d.size ≤ 65535) : fin2 d = (d, 0) := by unfold fin2; rw [if_neg (by omega)]
/-- What has a shape is what stands ahead, names, and what stands behind. -/
theorem chk_some {kind : Int} {d : ByteArray} {s : Int × Int × Int} (h : chk kind d = true) (hs : data_Expand.shp kind = some s) :
    ∃ R, s.1 ≤ (d.size : Int) ∧ rdL d d.size s.2.1.toNat s.1 [] = some R ∧ R.2 + s.2.2 = d.size ∧ d = d.extract 0 s.1.toNat ++ strings_Join.cat R.1 ++ d.extract R.2.toNat d.size ∧ s.1 ≤ R.2 ∧ R.2 ≤ (d.size : Int) ∧ R.1.length = s.2.1.toNat ∧ (∀ x ∈ R.1, isN x = true) ∧ R.2 = s.1 + (strings_Join.cat R.1).size := by
  obtain ⟨h0, h1⟩ := chk_iff.mp h
  unfold expd expS at h1
  rw [if_pos (take_whole d), hs] at h1
  simp only [Int.zero_add, Int.toNat_natCast] at h1
  obtain ⟨a1, a2, a3, a4, a5, a6, a7, a8⟩ := shp_cases hs
  by_cases c : s.1 ≤ (d.size : Int)
  · rw [if_pos c] at h1
    cases hr : rdL d d.size s.2.1.toNat s.1 [] with
    | none => rw [hr] at h1; have := congrArg Prod.snd h1; cases this
    | some R =>
      rw [hr] at h1
      simp only at h1
      by_cases e : R.2 + s.2.2 = d.size
      · rw [if_pos e] at h1
        obtain ⟨h2, _⟩ := fin2_zero h1
        obtain ⟨b1, b2, b3, l', b4, b5⟩ := rdL_range d _ (by omega) _ _ _ R hr c
        rw [List.nil_append] at b4
        rw [← b4] at b5
        have hz := congrArg ByteArray.size h2
        simp only [ByteArray.size_append, ByteArray.size_extract] at hz
        refine ⟨R, c, rfl, e, h2.symm, b1, b2, by rw [b3]; simp, b5, ?_⟩
        simp only [show (0 : Int).toNat = 0 from rfl] at hz
        omega
      · rw [if_neg e] at h1; have := congrArg Prod.snd h1; cases this
  · rw [if_neg c] at h1; have := congrArg Prod.snd h1; cases this
/-- What it consists of. -/
def prt (kind : Int) (d : ByteArray) : ByteArray × ByteArray × List ByteArray × Bool :=
  if chk kind d = true then (match data_Expand.shp kind with
    | some s => (match rdL d d.size s.2.1.toNat s.1 [] with
      | some R => (d.extract 0 s.1.toNat, d.extract R.2.toNat d.size, R.1, true)
      | none => (⟨#[]⟩, ⟨#[]⟩, [], false))
    | none => (d, ⟨#[]⟩, [], true)) else (⟨#[]⟩, ⟨#[]⟩, [], false)
theorem size_mk0' : (⟨#[]⟩ : ByteArray).size = 0 := rfl
theorem read_whole_data (k : Nat) (hk : K0 + 20 ≤ k) (d : ByteArray) (hd : d.size ≤ 65535) (s0 s1 s2 : Int) (a1 : 0 ≤ s0) (a3 : 0 ≤ s1) (a4 : s1 ≤ 2) (a5 : 0 ≤ s2) (a6 : s2 ≤ 20) (R : List ByteArray × Int) (c1 : s0 ≤ (d.size : Int)) (c2 : rdL d d.size s1.toNat s0 [] = some R) (c3 : R.2 + s2 = d.size) :
    data_read.f k d 0 (d.size : Int) s0 s1 s2 = some (d.extract 0 s0.toNat, d.extract R.2.toNat d.size, R.1, true) := by
  unfold data_read.f
  have e2 : wrap64 ((d.size : Int) - 0) = d.size := by rw [w64 (by omega) (by omega)]; omega
  have e3 : wrap64 (0 + s0) = s0 := by rw [w64 (by omega) (by omega)]; omega
  obtain ⟨b1, b2, _⟩ := rdL_range d _ (by omega) _ _ _ R c2 c1
  have hz : ((d.extract R.2.toNat d.size).size : Int) = s2 := by rw [ByteArray.size_extract]; omega
  obtain ⟨k, rfl⟩ : ∃ j, k = j + 1 := ⟨k - 1, by omega⟩
  have h := read_l0 d d.size s0 s1 s2 (d.extract 0 s0.toNat) ⟨#[]⟩ (by omega) (Int.le_refl _) ⟨a5, by omega⟩ s1 (by omega) s1.toNat k s0 0 [] (by omega) (by omega) (Int.le_refl _) a1 c1 (by simp only [List.length_nil]; omega)
  rw [c2] at h
  simp only [Int.toNat_natCast] at h
  rw [show (((d.extract R.2.toNat d.size).size : Int) == s2) = true from beq_iff_eq.mpr hz] at h
  rw [e2, if_pos c1, if_pos (Int.le_refl _), e3, if_pos a1, if_pos c1]
  exact h
theorem split_eq' (k : Nat) (hk : K0 + 20 ≤ k) (kind : Int) (d : ByteArray) : data_split.f k kind d = some (prt kind d) := by
  unfold data_split.f prt
  rw [dcheck_eq k (by omega)]
  simp only [Option.bind_some]
  by_cases h : chk kind d = true
  · rw [if_pos h, if_pos h]
    cases hs : data_Expand.shp kind with
    | none => rfl
    | some s =>
      obtain ⟨R, c1, c2, c3, c4, c5, c6, c7, c8, c9⟩ := chk_some h hs
      obtain ⟨a1, a2, a3, a4, a5, a6, a7, a8⟩ := shp_cases hs
      obtain ⟨h0, _⟩ := chk_iff.mp h
      obtain ⟨s0, s1, s2⟩ := s
      simp only at a1 a2 a3 a4 a5 a6 c1 c2 c3 c5
      simp only [c2]
      exact read_whole_data k hk d h0 s0 s1 s2 a1 a3 a4 a5 a6 R c1 c2 c3
  · rw [if_neg h, if_neg h]
theorem names_eq (k : Nat) (hk : K0 + 20 ≤ k) (kind : Int) (d : ByteArray) : data_Names.f k kind d = some (prt kind d).2.2.1 := by
  unfold data_Names.f; rw [split_eq' k hk]; rfl
theorem prt_names {kind : Int} {d : ByteArray} : (∀ x ∈ (prt kind d).2.2.1, isN x = true) ∧ (prt kind d).2.2.1.length ≤ 2 := by
  unfold prt
  by_cases h : chk kind d = true
  · rw [if_pos h]
    cases hs : data_Expand.shp kind with
    | none => exact ⟨by simp, by simp⟩
    | some s =>
      obtain ⟨R, c1, c2, c3, c4, c5, c6, c7, c8, c9⟩ := chk_some h hs
      obtain ⟨a1, a2, a3, a4, a5, a6, a7, a8⟩ := shp_cases hs
      simp only [c2]
      exact ⟨c8, by omega⟩
  · rw [if_neg h]; exact ⟨by simp, by simp⟩
theorem name_Low_eq (k : Nat) (hk : 600 ≤ k) (n : ByteArray) (hs : n.size ≤ 1000000000) : name_Low.f k n = some (if isN n = true then lowB n else ⟨#[]⟩) := by
  unfold name_Low.f
  rw [check_eq k hk n hs, low_eq n hs]
  simp only [Option.bind_some]
  split <;> rfl
theorem ref_Low_eq (k : Nat) (hk : 600 ≤ k) (n : ByteArray) (hs : n.size ≤ 1000000000) : wellspringref02_Low.f k n = some (if isN n = true then lowB n else ⟨#[]⟩) := by
  unfold wellspringref02_Low.f
  rw [ref_check_eq k hk n hs, small_eq n hs]
  simp only [Option.bind_some]
  split <;> rfl
theorem all_eq (k : Nat) (hk : 600 ≤ k) : ∀ l : List ByteArray, (∀ x ∈ l, isN x = true) → data_Low.all k l = some (l.map lowB)
  | [], _ => rfl
  | x :: l, h => by
    have hx := h x (by simp)
    have hz := isN_size hx
    rw [data_Low.all, name_Low_eq k hk x (by omega), if_pos hx]
    simp only [Option.bind_some]
    rw [all_eq k hk l (fun y hy => h y (by simp [hy]))]
    rfl
theorem cat_low_size : ∀ l : List ByteArray, (strings_Join.cat (l.map lowB)).size = (strings_Join.cat l).size
  | [] => rfl
  | x :: l => by rw [List.map_cons, strings_Join.cat, strings_Join.cat, ByteArray.size_append, ByteArray.size_append, lowB_size, cat_low_size l]
/-- In small letters. -/
def lw (kind : Int) (d : ByteArray) : ByteArray := (prt kind d).1 ++ strings_Join.cat ((prt kind d).2.2.1.map lowB) ++ (prt kind d).2.1
theorem prt_sizes {kind : Int} {d : ByteArray} : (prt kind d).1.size ≤ 65535 ∧ (prt kind d).2.1.size ≤ 65535 := by
  unfold prt
  by_cases h : chk kind d = true
  · obtain ⟨h0, _⟩ := chk_iff.mp h
    rw [if_pos h]
    cases hs : data_Expand.shp kind with
    | none => exact ⟨h0, by show (⟨#[]⟩ : ByteArray).size ≤ 65535; decide⟩
    | some s =>
      obtain ⟨R, c1, c2, _⟩ := chk_some h hs
      simp only [c2]
      simp only [ByteArray.size_extract]
      omega
  · rw [if_neg h]; exact ⟨by decide, by decide⟩
theorem low_eq' (k : Nat) (hk : K0 + 20 ≤ k) (kind : Int) (d : ByteArray) : data_Low.f k kind d = some (lw kind d) := by
  obtain ⟨p1, p2⟩ := @prt_names kind d
  obtain ⟨p3, p4⟩ := @prt_sizes kind d
  have hcz := cat_size p1
  unfold data_Low.f
  rw [split_eq' k hk]
  simp only [Option.bind_some]
  rw [all_eq k (by unfold K0 at hk; omega) _ p1]
  simp only [Option.bind_some]
  unfold data_Low.fin lw
  rw [if_pos (by rw [cat_low_size]; omega), if_pos (by rw [List.length_map]; omega)]
/-! The reference. -/
theorem ref_names_l0 (d : ByteArray) (e s0 s1 s2 : Int) (hm : d.size ≤ 100000) (he : e ≤ (d.size : Int)) (hs : s1 ≤ 100) : ∀ (n k : Nat) (l : List ByteArray) (i x : Int) (R : List ByteArray × Int), K0 + n ≤ k → x + n = s1 → 0 ≤ x → i ≤ e → l.length + n ≤ 1000 → rdL d e n i l = some R →
    wellspringref05_Names.l0 (k + 1) d l i x s0 s1 s2 = some R.1
  | 0, k, l, i, x, R, hk, hx, hx0, hi, hl, h => by
    cases h
    rw [wellspringref05_Names.l0, if_neg (by omega)]
  | n + 1, k, l, i, x, R, hk, hx, hx0, hi, hl, h => by
    obtain ⟨k, rfl⟩ : ∃ m, k = m + 1 := ⟨k - 1, by omega⟩
    rw [rdL] at h
    rw [wellspringref05_Names.l0, if_pos (by omega), ref_rd_eq (k + 1) d i hm (rounds_le hm (by omega) (by omega))]
    simp only [Option.bind_some]
    by_cases h0 : (rdR d i).2.2 = 0
    · rw [if_pos h0] at h
      by_cases h1 : (rdR d i).2.1 > e
      · rw [if_pos h1] at h; cases h
      · rw [if_neg h1] at h
        rw [if_pos (by omega), w64 (by omega) (by omega)]
        exact ref_names_l0 d e s0 s1 s2 hm he hs n k _ _ _ R (by omega) (by omega) (by omega) (by omega) (by rw [List.length_append, List.length_singleton]; omega) h
    · rw [if_neg h0] at h; cases h
theorem ref_names_eq (k : Nat) (hk : K0 + 20 ≤ k) (kind : Int) (d : ByteArray) : wellspringref05_Names.f k kind d = some (prt kind d).2.2.1 := by
  unfold wellspringref05_Names.f prt
  rw [ref_dcheck_eq k (by omega), ref_shape_eq k (by omega)]
  simp only [Option.bind_some]
  obtain ⟨k, rfl⟩ : ∃ j, k = j + 1 := ⟨k - 1, by omega⟩
  by_cases h : chk kind d = true
  · rw [if_pos h, if_pos h]
    obtain ⟨h0, _⟩ := chk_iff.mp h
    cases hs : data_Expand.shp kind with
    | none =>
      rw [Option.getD_none, wellspringref05_Names.l0, if_neg (by decide)]
    | some s =>
      obtain ⟨R, c1, c2, c3, c4, c5, c6, c7, c8, c9⟩ := chk_some h hs
      obtain ⟨a1, a2, a3, a4, a5, a6, a7, a8⟩ := shp_cases hs
      simp only [c2, Option.getD_some]
      exact ref_names_l0 d d.size _ _ _ (by omega) (Int.le_refl _) (by omega) s.2.1.toNat k [] s.1 0 R (by omega) (by omega) (Int.le_refl _) c1 (by simp only [List.length_nil]; omega) c2
  · rw [if_neg h, if_neg h]
theorem texts_same (l : List ByteArray) (hl : l.length ≤ 1000) (d : Nat) : ∀ (k i : Nat), l.length - i ≤ d → d + 1 ≤ k → wellspringref02_Texts.l0 k l l i = some true := by
  induction d with
  | zero =>
    intro k i h1 h2
    obtain ⟨k, rfl⟩ : ∃ j, k = j + 1 := ⟨k - 1, by omega⟩
    rw [wellspringref02_Texts.l0, if_neg (by omega)]
  | succ d ih =>
    intro k i h1 h2
    obtain ⟨k, rfl⟩ : ∃ j, k = j + 1 := ⟨k - 1, by omega⟩
    rw [wellspringref02_Texts.l0]
    by_cases c : (i : Int) < l.length
    · rw [if_pos c, if_pos (by omega), if_pos c, if_pos rfl, w64 (by omega) (by omega), show ((i : Int) + 1) = ((i + 1 : Nat) : Int) from by omega]
      exact ih k (i + 1) (by omega) (by omega)
    · rw [if_neg c]
theorem texts_refl (k : Nat) (hk : 1100 ≤ k) (l : List ByteArray) (hl : l.length ≤ 1000) : wellspringref02_Texts.f k l l = some true := by
  unfold wellspringref02_Texts.f
  rw [if_pos rfl, show (0 : Int) = ((0 : Nat) : Int) from rfl]
  exact texts_same l hl l.length k 0 (by omega) (by omega)
theorem rd_mid' {α} (d : α) (p : List α) (x : α) (s : List α) : rdOf d (p ++ x :: s) (p.length : Int) = x := by
  unfold rdOf; simp
theorem ref_low_l0 (d : ByteArray) (hd : d.size ≤ 65535) (xs : List ByteArray) (hxs : xs.length ≤ 1000) : ∀ (suf pre : List ByteArray) (k : Nat) (out : ByteArray) (i : Int), xs = pre ++ suf → (∀ x ∈ suf, isN x = true) → 700 + suf.length ≤ k → 0 ≤ i → i + (strings_Join.cat suf).size ≤ d.size → out.size + (strings_Join.cat suf).size ≤ 1000000 →
    wellspringref05_Low.l0 (k + 1) d xs out i (pre.length : Int) = some (out ++ strings_Join.cat (suf.map lowB) ++ d.extract (i + (strings_Join.cat suf).size).toNat d.size)
  | [], pre, k, out, i, hx, hn, hk, hi, hs, ho => by
    rw [List.append_nil] at hx
    subst hx
    have hz : (d.extract i.toNat d.size).size ≤ 65535 := by rw [ByteArray.size_extract]; omega
    simp only [strings_Join.cat, List.map_nil, size_mk0, append_empty] at hs ho ⊢
    rw [wellspringref05_Low.l0, if_neg (by omega), if_pos hi, if_pos (by omega), if_pos (by omega)]
    congr 3
    omega
  | x :: suf, pre, k, out, i, hx, hn, hk, hi, hs, ho => by
    obtain ⟨k, rfl⟩ : ∃ j, k = j + 1 := ⟨k - 1, by simp only [List.length_cons] at hk; omega⟩
    have hxn := hn x (by simp)
    have hz := isN_size hxn
    have hrd : rdOf ByteArray.empty xs (pre.length : Int) = x := by rw [hx]; exact rd_mid' _ _ _ _
    have hl : (xs.length : Int) = pre.length + suf.length + 1 := by rw [hx]; simp; omega
    simp only [List.length_cons, strings_Join.cat, ByteArray.size_append] at hk hs ho
    have hlz := lowB_size x
    rw [wellspringref05_Low.l0, if_pos (by omega), if_pos (by omega), hrd, ref_Low_eq (k + 1) (by omega) x (by omega), if_pos hxn]
    simp only [Option.bind_some]
    rw [if_pos (by omega), w64 (n := i + (x.size : Int)) (by omega) (by omega), w64 (by omega) (by omega), show ((pre.length : Int) + 1) = ((pre ++ [x]).length : Int) from by simp]
    have := ref_low_l0 d hd xs hxs suf (pre ++ [x]) k (out ++ lowB x) (i + x.size) (by rw [hx]; simp) (fun y hy => hn y (by simp [hy])) (by omega) (by omega) (by omega) (by rw [ByteArray.size_append]; omega)
    rw [this]
    have e : i + (x.size : Int) + ((strings_Join.cat suf).size : Int) = i + ((x.size + (strings_Join.cat suf).size : Nat) : Int) := by omega
    rw [e]
    simp only [List.map_cons, strings_Join.cat, ByteArray.size_append, ByteArray.append_assoc]
theorem ref_low_eq (k : Nat) (hk : K0 + 20 ≤ k) (kind : Int) (d : ByteArray) : wellspringref05_Low.f k kind d = some (lw kind d) := by
  obtain ⟨p1, p2⟩ := @prt_names kind d
  unfold wellspringref05_Low.f
  rw [ref_dcheck_eq k (by omega), ref_names_eq k hk, ref_shape_eq k (by omega)]
  simp only [Option.bind_some]
  unfold lw prt
  unfold prt at p1 p2
  unfold K0 at hk
  obtain ⟨k, rfl⟩ : ∃ j, k = j + 1 := ⟨k - 1, by omega⟩
  by_cases h : chk kind d = true
  · simp only [if_pos h] at p1 p2 ⊢
    obtain ⟨h0, _⟩ := chk_iff.mp h
    cases hs : data_Expand.shp kind with
    | none =>
      simp only [Option.getD_none]
      rw [if_pos (Int.le_refl _), if_pos (by omega)]
      have := ref_low_l0 d h0 [] (by simp) [] [] k (d.extract 0 0) 0 rfl (by simp) (by simp only [List.length_nil]; omega) (Int.le_refl _) (by simp only [strings_Join.cat, size_mk0']; omega) (by simp only [strings_Join.cat, size_mk0', ByteArray.size_extract]; omega)
      simp only [List.length_nil] at this
      rw [show ((0 : Int).toNat) = 0 from rfl, show ((0 : Nat) : Int) = 0 from rfl] at *
      rw [this]
      have e0 : d.extract 0 0 = ⟨#[]⟩ := eq_empty (by rw [ByteArray.size_extract]; omega)
      simp [strings_Join.cat, e0, empty_append, append_empty, size_mk0', ByteArray.extract_zero_size]
    | some s =>
      obtain ⟨R, c1, c2, c3, c4, c5, c6, c7, c8, c9⟩ := chk_some h hs
      obtain ⟨a1, a2, a3, a4, a5, a6, a7, a8⟩ := shp_cases hs
      simp only [hs, c2, Option.getD_some] at p1 p2 ⊢
      have hcz := cat_size p1
      rw [if_pos a1, if_pos c1]
      have := ref_low_l0 d h0 R.1 (by omega) R.1 [] k (d.extract 0 s.1.toNat) s.1 rfl p1 (by omega) a1 (by omega) (by rw [ByteArray.size_extract]; omega)
      rw [show ((([] : List ByteArray).length : Nat) : Int) = 0 from rfl] at this
      rw [this, c9]
  · simp only [if_neg h]
    rfl
end Go.Proofs.Ytdkkanpbcifkfaa.ZQ

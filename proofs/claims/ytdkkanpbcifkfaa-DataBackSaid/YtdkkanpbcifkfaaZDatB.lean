/- What has its type's shape, told by its parts: names one behind the other are read as they stand. -/
import Derived.Test.YtdkkanpbcifkfaaZDatN
import Derived.Test.YtdkkanpbcifkfaaZLowB
set_option linter.unusedVariables false
set_option linter.unusedSimpArgs false
namespace Go.Proofs.Ytdkkanpbcifkfaa.ZQ
open Go.RowKit Go.Proofs.YtdkkanpbcifkfaaW.PrintWords Go.Proofs.YtdkkanpbcifkfaaW.PrintLast Go.Proofs.YtdkkanpbcifkfaaW.PrintMore Go.Proofs.Ytdkkanpbcifkfaa.B

/-- A name that stands whole at a place. -/
theorem rd_name (A C n : ByteArray) (hn : isN n = true) (hm : (A ++ (n ++ C)).size ≤ 100000) : rdR (A ++ (n ++ C)) A.size = (n, (A.size : Int) + n.size, 0) := by
  obtain ⟨ls, rfl, hok, hz⟩ := isN_iff.mp hn
  have hl := len_le_enc ls
  have hpe := enc_size ls
  have h : comp_Read.f (200000 + 1 + ls.length) (A ++ (enc ls ++ C)) A.size = some (enc ls, (A.size : Int) + (enc ls).size, 0) := by
    refine (read_f hm).mpr ?_
    have := read_whole ls 200000 A C ⟨#[]⟩ A.size (-1) hok (by rw [empty_append]; omega)
    rw [empty_append, if_pos rfl] at this
    exact this
  have hA : A.size ≤ 100000 := by rw [ByteArray.size_append] at hm; omega
  have h2 := rd_eq (200000 + 1 + ls.length) _ _ hm (by unfold rounds; omega : rounds (A.size : Int) ≤ _)
  rw [h] at h2
  exact (Option.some.inj h2).symm
/-- A pointer to the name at the very beginning. -/
theorem rd_pointer (ls : List ByteArray) (hok : ∀ x ∈ ls, okL x) (hz : (enc ls).size ≤ 255) (M C : ByteArray) (hm : (enc ls ++ M ++ ((⟨#[192, 0]⟩ : ByteArray) ++ C)).size ≤ 100000) :
    rdR (enc ls ++ M ++ ((⟨#[192, 0]⟩ : ByteArray) ++ C)) ((enc ls ++ M).size : Int) = (enc ls, ((enc ls ++ M).size : Int) + 2, 0) := by
  have hp := enc_size_pos ls
  have hl := len_le_enc ls
  have hpe := enc_size ls
  have e0 : (⟨#[192, 0]⟩ : ByteArray) = putB (49152 + 0) 2 := by decide
  have hA : (enc ls ++ M).size = (enc ls).size + M.size := ByteArray.size_append
  have hz3 : ((⟨#[192, 0]⟩ : ByteArray)).size = 2 := rfl
  have hsz : (enc ls ++ M ++ ((⟨#[192, 0]⟩ : ByteArray) ++ C)).size = (enc ls).size + M.size + (2 + C.size) := by simp only [ByteArray.size_append, hz3]
  have h : comp_Read.f (200000 + 1 + ls.length + 1) (enc ls ++ M ++ ((⟨#[192, 0]⟩ : ByteArray) ++ C)) ((enc ls ++ M).size : Int) = some (enc ls, ((enc ls ++ M).size : Int) + 2, 0) := by
    refine (read_f hm).mpr ?_
    rw [e0]
    rw [read_pointer (200000 + 1 + ls.length) (enc ls ++ M) C ⟨#[]⟩ _ (-1) 0 (Int.le_refl _) (by omega) (by omega), if_pos rfl]
    have e1 : enc ls ++ M ++ (putB (49152 + 0) 2 ++ C) = (⟨#[]⟩ : ByteArray) ++ (enc ls ++ (M ++ (putB (49152 + 0) 2 ++ C))) := by rw [empty_append]; simp only [ByteArray.append_assoc]
    rw [e1]
    have := read_whole ls 200000 ⟨#[]⟩ (M ++ (putB (49152 + 0) 2 ++ C)) ⟨#[]⟩ 0 (((enc ls ++ M).size : Int) + 2) hok (by rw [empty_append]; omega)
    rw [empty_append, if_neg (by omega)] at this
    rw [empty_append]
    exact this
  have h2 := rd_eq (200000 + 1 + ls.length + 1) _ _ hm (by unfold rounds; omega : rounds ((enc ls ++ M).size : Int) ≤ _)
  rw [h] at h2
  exact (Option.some.inj h2).symm
theorem rdL_cat (C : ByteArray) (e : Int) : ∀ (l : List ByteArray) (A : ByteArray) (acc : List ByteArray), (∀ x ∈ l, isN x = true) → (A ++ (strings_Join.cat l ++ C)).size ≤ 100000 → (A.size : Int) + (strings_Join.cat l).size ≤ e →
    rdL (A ++ (strings_Join.cat l ++ C)) e l.length A.size acc = some (acc ++ l, (A.size : Int) + (strings_Join.cat l).size)
  | [], A, acc, _, _, _ => by
    rw [List.length_nil, rdL, List.append_nil]
    have : (strings_Join.cat ([] : List ByteArray)).size = 0 := rfl
    rw [this, show (A.size : Int) + ((0 : Nat) : Int) = A.size from by omega]
  | x :: l, A, acc, h, hm, he => by
    have hx := h x (by simp)
    have ec : strings_Join.cat (x :: l) = x ++ strings_Join.cat l := rfl
    have e1 : A ++ (strings_Join.cat (x :: l) ++ C) = A ++ (x ++ (strings_Join.cat l ++ C)) := by rw [ec]; simp only [ByteArray.append_assoc]
    have e2 : A ++ (x ++ (strings_Join.cat l ++ C)) = (A ++ x) ++ (strings_Join.cat l ++ C) := by simp only [ByteArray.append_assoc]
    have hcz : (strings_Join.cat (x :: l)).size = x.size + (strings_Join.cat l).size := by rw [ec, ByteArray.size_append]
    have hAx : (A ++ x).size = A.size + x.size := ByteArray.size_append
    rw [e1] at hm ⊢
    have hr := rd_name A (strings_Join.cat l ++ C) x hx hm
    rw [List.length_cons, rdL, hr]
    simp only [if_true]
    rw [if_neg (by omega)]
    have ih := rdL_cat C e l (A ++ x) (acc ++ [x]) (fun y hy => h y (by simp [hy])) (by rw [← e2]; exact hm) (by omega)
    rw [e2, show (A.size : Int) + (x.size : Int) = (((A ++ x).size : Nat) : Int) from by omega, ih, hcz, hAx]
    refine congrArg some (Prod.ext ?_ ?_)
    · simp
    · simp only; omega
/-- The parts of a shape. -/
def okP (s : Int × Int × Int) (a : ByteArray) (l : List ByteArray) (b : ByteArray) : Prop :=
  (a.size : Int) = s.1 ∧ l.length = s.2.1.toNat ∧ (∀ x ∈ l, isN x = true) ∧ (b.size : Int) = s.2.2 ∧ (a ++ strings_Join.cat l ++ b).size ≤ 65535
theorem expd_parts {kind : Int} {s : Int × Int × Int} (hs : data_Expand.shp kind = some s) {a b : ByteArray} {l : List ByteArray} (h : okP s a l b) :
    rdL (a ++ strings_Join.cat l ++ b) ((a ++ strings_Join.cat l ++ b).size : Nat) s.2.1.toNat s.1 [] = some (l, s.1 + (strings_Join.cat l).size) ∧ chk kind (a ++ strings_Join.cat l ++ b) = true := by
  obtain ⟨h1, h2, h3, h4, h5⟩ := h
  have ea : a ++ strings_Join.cat l ++ b = a ++ (strings_Join.cat l ++ b) := ByteArray.append_assoc
  have hsz : (a ++ strings_Join.cat l ++ b).size = a.size + (strings_Join.cat l).size + b.size := by simp only [ByteArray.size_append]
  have hr : rdL (a ++ strings_Join.cat l ++ b) ((a ++ strings_Join.cat l ++ b).size : Nat) s.2.1.toNat s.1 [] = some (l, s.1 + (strings_Join.cat l).size) := by
    rw [← h1, ← h2, hsz, ea]
    have := rdL_cat b ((a.size + (strings_Join.cat l).size + b.size : Nat) : Int) l a [] h3 (by rw [← ea]; omega) (by omega)
    rw [List.nil_append] at this
    exact this
  refine ⟨hr, chk_iff.mpr ⟨h5, ?_⟩⟩
  unfold expd expS
  rw [if_pos (take_whole _), hs]
  simp only [Int.zero_add, Int.toNat_natCast]
  rw [if_pos (by omega), hr]
  simp only
  rw [if_pos (by omega)]
  have e1 : (a ++ strings_Join.cat l ++ b).extract (0 : Int).toNat s.1.toNat = a := by
    rw [ea, show s.1.toNat = a.size from by omega, show (0 : Int).toNat = 0 from rfl]; exact extract_app_left _ _
  have e2 : (a ++ strings_Join.cat l ++ b).extract (s.1 + ((strings_Join.cat l).size : Int)).toNat (a ++ strings_Join.cat l ++ b).size = b := by
    rw [show (s.1 + ((strings_Join.cat l).size : Int)).toNat = (a ++ strings_Join.cat l).size from by rw [ByteArray.size_append]; omega]; exact extract_app_right _ _
  rw [e1, e2, fin2_ok h5]
theorem prt_parts {kind : Int} {s : Int × Int × Int} (hs : data_Expand.shp kind = some s) {a b : ByteArray} {l : List ByteArray} (h : okP s a l b) : prt kind (a ++ strings_Join.cat l ++ b) = (a, b, l, true) := by
  obtain ⟨hr, hc⟩ := expd_parts hs h
  obtain ⟨h1, h2, h3, h4, h5⟩ := h
  have ea : a ++ strings_Join.cat l ++ b = a ++ (strings_Join.cat l ++ b) := ByteArray.append_assoc
  unfold prt
  rw [if_pos hc, hs]
  simp only
  rw [hr]
  have e1 : (a ++ strings_Join.cat l ++ b).extract 0 s.1.toNat = a := by
    rw [ea, show s.1.toNat = a.size from by omega]; exact extract_app_left _ _
  have e2 : (a ++ strings_Join.cat l ++ b).extract (s.1 + ((strings_Join.cat l).size : Int)).toNat (a ++ strings_Join.cat l ++ b).size = b := by
    rw [show (s.1 + ((strings_Join.cat l).size : Int)).toNat = (a ++ strings_Join.cat l).size from by rw [ByteArray.size_append]; omega]; exact extract_app_right _ _
  simp only
  rw [e1, e2]
/-- What is told of a place, with no error, has its parts. -/
theorem expS_parts {msg : ByteArray} (hm : msg.size ≤ 100000) {i size kind : Int} {s : Int × Int × Int} (ht : okTake msg i size) (hs : data_Expand.shp kind = some s) {d : ByteArray} (h : expS msg i size s = (d, 0)) :
    ∃ a l b, okP s a l b ∧ d = a ++ strings_Join.cat l ++ b := by
  obtain ⟨h0, h1, h2⟩ := ht
  obtain ⟨a1, a2, a3, a4, a5, a6, a7, a8⟩ := shp_cases hs
  unfold expS at h
  by_cases c : s.1 ≤ size
  · rw [if_pos c] at h
    cases hr : rdL msg (i + size) s.2.1.toNat (i + s.1) [] with
    | none => rw [hr] at h; have := congrArg Prod.snd h; cases this
    | some R =>
      obtain ⟨b1, b2, b3, l', b4, b5⟩ := rdL_range msg _ hm _ _ _ R hr (by omega)
      rw [List.nil_append] at b4
      rw [List.length_nil, Nat.zero_add] at b3
      rw [hr] at h
      simp only at h
      by_cases c2 : R.2 + s.2.2 = i + size
      · rw [if_pos c2] at h
        obtain ⟨e1, e2⟩ := fin2_zero h
        refine ⟨_, R.1, _, ⟨?_, b3, by rw [b4]; exact b5, ?_, e2⟩, e1.symm⟩
        · rw [ByteArray.size_extract]; omega
        · rw [ByteArray.size_extract]; omega
      · rw [if_neg c2] at h; have := congrArg Prod.snd h; cases this
  · rw [if_neg c] at h; have := congrArg Prod.snd h; cases this
theorem chk_parts {kind : Int} {s : Int × Int × Int} (hs : data_Expand.shp kind = some s) {d : ByteArray} (h : chk kind d = true) : ∃ a l b, okP s a l b ∧ d = a ++ strings_Join.cat l ++ b := by
  obtain ⟨h0, h1⟩ := chk_iff.mp h
  unfold expd at h1
  rw [if_pos (take_whole d), hs] at h1
  exact expS_parts (by omega) (take_whole d) hs h1
/-- What is expanded has its type's shape. -/
theorem expd_chk {msg : ByteArray} (hm : msg.size ≤ 100000) {i size kind : Int} (h : (expd msg i size kind).2 = 0) : chk kind (expd msg i size kind).1 = true := by
  unfold expd at h ⊢
  by_cases ht : okTake msg i size
  · rw [if_pos ht] at h ⊢
    cases hs : data_Expand.shp kind with
    | some s =>
      rw [hs] at h
      simp only at h ⊢
      obtain ⟨a, l, b, hp, hd⟩ := expS_parts hm ht hs (d := (expS msg i size s).1) (by rw [← h])
      rw [hd]
      exact (expd_parts hs hp).2
    | none =>
      rw [hs] at h
      simp only at h ⊢
      generalize msg.extract i.toNat (i + size).toNat = t at *
      have key : ∀ d : ByteArray, (fin2 d).2 = 0 → fin2 d = (d, 0) ∧ d.size ≤ 65535 := by
        intro d hd; unfold fin2 at hd ⊢; by_cases c : (d.size : Int) > 65535
        · rw [if_pos c] at hd; cases hd
        · rw [if_neg c]; exact ⟨rfl, by omega⟩
      by_cases h16 : kind = 16
      · rw [if_pos h16] at h ⊢
        by_cases hx : txts t = true
        · rw [if_pos hx] at h ⊢
          obtain ⟨q1, q2⟩ := key t h
          rw [q1]
          refine chk_iff.mpr ⟨q2, ?_⟩
          unfold expd
          rw [if_pos (take_whole t), hs]
          simp only [Int.zero_add, Int.toNat_natCast]
          rw [if_pos h16, show (0 : Int).toNat = 0 from rfl, ext_full, if_pos hx, q1]
        · rw [if_neg hx] at h; cases h
      · rw [if_neg h16] at h ⊢
        obtain ⟨q1, q2⟩ := key t h
        rw [q1]
        refine chk_iff.mpr ⟨q2, ?_⟩
        unfold expd
        rw [if_pos (take_whole t), hs]
        simp only [Int.zero_add, Int.toNat_natCast]
        rw [if_neg h16, show (0 : Int).toNat = 0 from rfl, ext_full, q1]
  · rw [if_neg ht] at h; cases h
theorem expd_cut (msg : ByteArray) (i size kind : Int) : (expd msg i size kind).2 = 2 ↔ ¬ okTake msg i size := by
  unfold expd
  by_cases ht : okTake msg i size
  · rw [if_pos ht]
    refine ⟨fun h => absurd h ?_, fun h => absurd ht h⟩
    have f2 : ∀ d : ByteArray, (fin2 d).2 ≠ 2 := by intro d; unfold fin2; split <;> simp
    have n4 : ((⟨#[]⟩, 4) : ByteArray × Int).2 ≠ 2 := by decide
    cases data_Expand.shp kind with
    | some s =>
      simp only
      unfold expS
      split
      · split
        · split
          · exact f2 _
          · exact n4
        · exact n4
      · exact n4
    | none =>
      simp only
      split
      · split
        · exact f2 _
        · exact n4
      · exact f2 _
  · rw [if_neg ht]; exact ⟨fun _ => ht, fun _ => rfl⟩
/-- Small letters of what has its type's shape. -/
theorem lw_parts {kind : Int} {s : Int × Int × Int} (hs : data_Expand.shp kind = some s) {a b : ByteArray} {l : List ByteArray} (h : okP s a l b) : lw kind (a ++ strings_Join.cat l ++ b) = a ++ strings_Join.cat (l.map lowB) ++ b ∧ okP s a (l.map lowB) b := by
  refine ⟨by unfold lw; rw [prt_parts hs h], ?_⟩
  obtain ⟨h1, h2, h3, h4, h5⟩ := h
  refine ⟨h1, by rw [List.length_map]; exact h2, ?_, h4, ?_⟩
  · intro x hx
    obtain ⟨y, hy, rfl⟩ := List.mem_map.mp hx
    exact isN_low (h3 y hy)
  · simp only [ByteArray.size_append] at h5 ⊢; rw [cat_low_size]; exact h5
theorem prt_plain {kind : Int} {d : ByteArray} (hs : data_Expand.shp kind = none) (h : chk kind d = true) : prt kind d = (d, ⟨#[]⟩, [], true) := by unfold prt; rw [if_pos h, hs]
theorem lw_plain {kind : Int} {d : ByteArray} (hs : data_Expand.shp kind = none) (h : chk kind d = true) : lw kind d = d := by
  unfold lw; rw [prt_plain hs h]; show d ++ ⟨#[]⟩ ++ ⟨#[]⟩ = d; rw [append_empty, append_empty]
theorem low_map_idem (l : List ByteArray) : (l.map lowB).map lowB = l.map lowB := by
  rw [List.map_map]; exact List.map_congr_left fun x _ => lowB_idem x
/-- All that is told of data in small letters. -/
theorem lw_all {kind : Int} {d : ByteArray} (h : chk kind d = true) : chk kind (lw kind d) = true ∧ lw kind (lw kind d) = lw kind d ∧ (lw kind d).size = d.size ∧ (prt kind (lw kind d)).2.2.1 = (prt kind d).2.2.1.map lowB := by
  cases hs : data_Expand.shp kind with
  | some s =>
    obtain ⟨a, l, b, hp, rfl⟩ := chk_parts hs h
    obtain ⟨e, hp2⟩ := lw_parts hs hp
    obtain ⟨e2, hp3⟩ := lw_parts hs hp2
    rw [e, prt_parts hs hp2, prt_parts hs hp]
    refine ⟨(expd_parts hs hp2).2, by rw [e2, low_map_idem], ?_, rfl⟩
    simp only [ByteArray.size_append]; rw [cat_low_size]
  | none =>
    rw [lw_plain hs h]
    exact ⟨h, lw_plain hs h, rfl, by rw [prt_plain hs h]; rfl⟩
end Go.Proofs.Ytdkkanpbcifkfaa.ZQ

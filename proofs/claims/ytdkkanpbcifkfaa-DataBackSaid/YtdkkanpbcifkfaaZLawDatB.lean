/- The statements DataPointers and DataBack, over numbers and bytes. -/
import Derived.Test.YtdkkanpbcifkfaaZLawDatA
import Derived.Test.YtdkkanpbcifkfaaZDatB
import Derived.Test.YtdkkanpbcifkfaaZQ18
import Derived.Test.YtdkkanpbcifkfaaZQ17
set_option linter.unusedVariables false
set_option linter.unusedSimpArgs false
namespace Go.Proofs.Ytdkkanpbcifkfaa.ZQ
open Go.RowKit Go.Proofs.YtdkkanpbcifkfaaW.PrintWords Go.Proofs.YtdkkanpbcifkfaaW.PrintLast Go.Proofs.YtdkkanpbcifkfaaW.PrintMore Go.Proofs.Ytdkkanpbcifkfaa.B

theorem bt_name {n : ByteArray} (h : isN n = true) : 1 ≤ n.size ∧ bt n 0 ≤ 63 := by
  obtain ⟨l, rfl, hok, hz⟩ := isN_iff.mp h
  refine ⟨enc_size_pos l, ?_⟩
  cases l with
  | nil => rw [enc_nil, root_bt]; decide
  | cons x l =>
    have hx := hok x (by simp)
    rw [enc_cons, cut_bt ⟨by omega, by have := hx.2; omega⟩]
    have := hx.2; omega
/-- A byte that no name begins with. -/
theorem not_chk {kind : Int} {s : Int × Int × Int} (hs : data_Expand.shp kind = some s) (h1 : 1 ≤ s.2.1) {d : ByteArray} (h : 63 < bt d s.1) : chk kind d = false := by
  cases hc : chk kind d with
  | false => rfl
  | true =>
    obtain ⟨a, l, b, ⟨p1, p2, p3, p4, p5⟩, rfl⟩ := chk_parts hs hc
    exfalso
    cases l with
    | nil => simp only [List.length_nil] at p2; omega
    | cons n l =>
      obtain ⟨q1, q2⟩ := bt_name (p3 n (by simp))
      have e : a ++ strings_Join.cat (n :: l) ++ b = a ++ (n ++ (strings_Join.cat l ++ b)) := by
        show a ++ (n ++ strings_Join.cat l) ++ b = _
        simp only [ByteArray.append_assoc]
      rw [e, ← p1, bt_append_right (Int.le_refl _), Int.sub_self, bt_append_left (Int.le_refl _) (by omega)] at h
      omega
theorem extract_mid (A B C : ByteArray) : (A ++ (B ++ C)).extract A.size (A.size + B.size) = B := by
  have hz : ((A ++ (B ++ C)).extract A.size (A.size + B.size)).size = B.size := by simp only [ByteArray.size_extract, ByteArray.size_append]; omega
  refine ext_bt hz fun i h0 hi => ?_
  rw [bt_extract h0 hi, bt_append_right (by omega), bt_append_left (by omega) (by omega)]
  congr 1; omega
def ptr : ByteArray := ⟨#[192, 0]⟩
theorem ptr_size : ptr.size = 2 := rfl
theorem ptr_bt (a c : ByteArray) : bt ((a ++ ptr) ++ c) a.size = 192 := by
  rw [ByteArray.append_assoc, bt_append_right (Int.le_refl _), Int.sub_self, bt_append_left (Int.le_refl _) (by rw [ptr_size]; decide)]
  decide
/-- One name, by a pointer. -/
theorem exp_one {kind s0 : Int} (hs : data_Expand.shp kind = some (s0, 1, 0)) {base a : ByteArray} (hb : isN base = true) (ha : (a.size : Int) = s0) :
    expd (base ++ ((a ++ ptr) ++ ⟨#[]⟩)) base.size (((a ++ ptr) ++ (⟨#[]⟩ : ByteArray)).size : Nat) kind = (a ++ base, 0) ∧ chk kind (a ++ base) = true := by
  have hbz := isN_size hb
  obtain ⟨a1, a2, a3, a4, a5, a6, a7, a8⟩ := shp_cases hs
  simp only at a1 a2
  have ho : okP (s0, 1, 0) a [base] ⟨#[]⟩ := ⟨ha, rfl, fun x hx => by simp only [List.mem_singleton] at hx; rw [hx]; exact hb, rfl, by rw [cat_one]; simp only [ByteArray.size_append, size_mk0]; omega⟩
  have hc := (expd_parts hs ho).2
  rw [cat_one, append_empty] at hc
  refine ⟨?_, hc⟩
  rw [append_empty]
  have hz : (a ++ ptr).size = a.size + 2 := by rw [ByteArray.size_append, ptr_size]
  have hm : (base ++ (a ++ ptr)).size = base.size + (a.size + 2) := by rw [ByteArray.size_append, hz]
  have ht : okTake (base ++ (a ++ ptr)) base.size ((a ++ ptr).size : Nat) := ⟨by omega, by omega, by omega⟩
  obtain ⟨ls, hls, hok, hlz⟩ := isN_iff.mp hb
  have hr := rd_pointer ls hok (by rw [← hls]; exact hlz) a ⟨#[]⟩ (by rw [← hls]; simp only [ByteArray.size_append, size_mk0]; have : (⟨#[192, 0]⟩ : ByteArray).size = 2 := rfl; omega)
  rw [← hls, append_empty, ByteArray.append_assoc] at hr
  replace hr : rdR (base ++ (a ++ ptr)) ((base ++ a).size : Nat) = (base, (((base ++ a).size : Nat) : Int) + 2, 0) := hr
  have hba : (base ++ a).size = base.size + a.size := ByteArray.size_append
  unfold expd expS
  rw [if_pos ht, hs]
  simp only
  rw [if_pos (by omega), show ((1 : Int)).toNat = 0 + 1 from rfl, rdL, show (base.size : Int) + s0 = ((base ++ a).size : Nat) from by omega, hr]
  simp only [if_true]
  rw [if_neg (by omega), rdL]
  simp only
  rw [if_pos (by omega)]
  have e1 : (base ++ (a ++ ptr)).extract (base.size : Int).toNat (((base ++ a).size : Nat) : Int).toNat = a := by
    rw [show (base.size : Int).toNat = base.size from rfl, show (((base ++ a).size : Nat) : Int).toNat = base.size + a.size from by omega]
    exact extract_mid base a ptr
  have e2 : (base ++ (a ++ ptr)).extract ((((base ++ a).size : Nat) : Int) + 2).toNat ((base.size : Int) + ((a ++ ptr).size : Nat)).toNat = ⟨#[]⟩ := eq_empty (by rw [ByteArray.size_extract]; omega)
  rw [e1, e2, List.nil_append, cat_one, append_empty, fin2_ok]
  rw [ByteArray.size_append]; omega
def tail : ByteArray := ⟨#[49, 50, 51, 52, 53, 54, 55, 56, 57, 48, 49, 50, 51, 52, 53, 54, 55, 56, 57, 48]⟩
theorem tail_size : tail.size = 20 := rfl
/-- Two names, by two pointers. -/
theorem exp_two {base : ByteArray} (hb : isN base = true) :
    expd (base ++ (ptr ++ (ptr ++ tail))) base.size ((ptr ++ (ptr ++ tail)).size : Nat) 6 = (base ++ base ++ tail, 0) ∧ chk 6 (base ++ base ++ tail) = true := by
  have hbz := isN_size hb
  have hs : data_Expand.shp 6 = some (0, 2, 20) := rfl
  have hcat : strings_Join.cat [base, base] = base ++ base := by
    show base ++ (base ++ (strings_Join.cat [])) = base ++ base
    rw [show strings_Join.cat [] = (⟨#[]⟩ : ByteArray) from rfl, append_empty]
  have ho : okP (0, 2, 20) ⟨#[]⟩ [base, base] tail := ⟨rfl, rfl, fun x hx => by simp at hx; rw [hx]; exact hb, rfl, by rw [hcat]; simp only [ByteArray.size_append, size_mk0, tail_size]; omega⟩
  have hc := (expd_parts hs ho).2
  rw [hcat, empty_append] at hc
  refine ⟨?_, hc⟩
  have hz : (ptr ++ (ptr ++ tail)).size = 24 := rfl
  have hm : (base ++ (ptr ++ (ptr ++ tail))).size = base.size + 24 := by rw [ByteArray.size_append, hz]
  have ht : okTake (base ++ (ptr ++ (ptr ++ tail))) base.size ((ptr ++ (ptr ++ tail)).size : Nat) := ⟨by omega, by omega, by omega⟩
  obtain ⟨ls, hls, hok, hlz⟩ := isN_iff.mp hb
  have hp2 : (⟨#[192, 0]⟩ : ByteArray).size = 2 := rfl
  have hr := rd_pointer ls hok (by rw [← hls]; exact hlz) ⟨#[]⟩ (ptr ++ tail) (by rw [← hls]; simp only [ByteArray.size_append, size_mk0, tail_size, ptr_size]; omega)
  rw [← hls, append_empty] at hr
  replace hr : rdR (base ++ (ptr ++ (ptr ++ tail))) (base.size : Nat) = (base, ((base.size : Nat) : Int) + 2, 0) := hr
  have hr2 := rd_pointer ls hok (by rw [← hls]; exact hlz) ptr tail (by rw [← hls]; simp only [ByteArray.size_append, tail_size, ptr_size]; omega)
  rw [← hls, ByteArray.append_assoc] at hr2
  have hbp : (base ++ ptr).size = base.size + 2 := by rw [ByteArray.size_append, ptr_size]
  replace hr2 : rdR (base ++ (ptr ++ (ptr ++ tail))) ((base ++ ptr).size : Nat) = (base, (((base ++ ptr).size : Nat) : Int) + 2, 0) := hr2
  unfold expd expS
  rw [if_pos ht, hs]
  simp only
  rw [if_pos (by omega), show ((2 : Int)).toNat = 0 + 1 + 1 from rfl, rdL, Int.add_zero, hr]
  simp only [if_true]
  rw [if_neg (by omega), rdL, show (base.size : Int) + 2 = ((base ++ ptr).size : Nat) from by omega, hr2]
  simp only [if_true]
  rw [if_neg (by omega), rdL]
  simp only
  rw [if_pos (by omega)]
  have e1 : (base ++ (ptr ++ (ptr ++ tail))).extract (base.size : Int).toNat (base.size : Int).toNat = ⟨#[]⟩ := eq_empty (by rw [ByteArray.size_extract]; omega)
  have e2 : (base ++ (ptr ++ (ptr ++ tail))).extract ((((base ++ ptr).size : Nat) : Int) + 2).toNat ((base.size : Int) + ((ptr ++ (ptr ++ tail)).size : Nat)).toNat = tail := by
    rw [show ((((base ++ ptr).size : Nat) : Int) + 2).toNat = (base ++ ptr ++ ptr).size from by rw [ByteArray.size_append (a := base ++ ptr), ptr_size]; omega, show ((base.size : Int) + ((ptr ++ (ptr ++ tail)).size : Nat)).toNat = (base ++ ptr ++ ptr ++ tail).size from by simp only [ByteArray.size_append, ptr_size, tail_size]; omega]
    rw [show base ++ (ptr ++ (ptr ++ tail)) = (base ++ ptr ++ ptr) ++ tail from by simp only [ByteArray.append_assoc]]
    exact extract_app_right _ _
  have ec : strings_Join.cat (([] ++ [base]) ++ [base]) = base ++ base := hcat
  rw [e1, e2, ec, empty_append, fin2_ok]
  simp only [ByteArray.size_append, tail_size]; omega
theorem pointers_one (k : Nat) (hk : K0 + 20 ≤ k) {kind s0 : Int} (hs : data_Expand.shp kind = some (s0, 1, 0)) (h6 : kind ≠ 6) {base a : ByteArray} (hb : isN base = true) (ha : (a.size : Int) = s0) :
    wellspringlaw05_DataPointers.j2 (k + 1) base kind a ⟨#[]⟩ = some true := by
  have hbz := isN_size hb
  obtain ⟨a1, a2, a3, a4, a5, a6, a7, a8⟩ := shp_cases hs
  simp only at a1 a2
  obtain ⟨he, hc⟩ := exp_one hs hb ha
  have hn : chk kind ((a ++ ptr) ++ ⟨#[]⟩) = false := not_chk hs (Int.le_refl _) (by rw [← ha, ptr_bt]; decide)
  have hz : ((a ++ ptr) ++ (⟨#[]⟩ : ByteArray)).size = a.size + 2 := by simp only [ByteArray.size_append, ptr_size, size_mk0]
  rw [wellspringlaw05_DataPointers.j2]
  replace hp : (⟨#[192, 0]⟩ : ByteArray) = ptr := rfl
  rw [hp, if_pos (by omega), if_pos (by simp only [ByteArray.size_append, ptr_size, size_mk0]; omega), if_pos (by rw [hz]; omega)]
  rw [exp_eq k (by omega) _ _ _ _ (by rw [ByteArray.size_append, hz]; omega), he]
  simp only [Option.bind_some]
  rw [if_pos (by omega), if_neg h6]
  simp only [if_true]
  rw [dcheck_eq k (by omega), hc]
  simp only [Option.bind_some, if_true]
  rw [dcheck_eq k (by omega), hn]
  simp only [Option.bind_some, Bool.false_eq_true, if_false]
  rw [dlive k (by unfold K0 at hk; omega)]
  rfl
theorem pointers_two (k : Nat) (hk : K0 + 20 ≤ k) {base : ByteArray} (hb : isN base = true) :
    wellspringlaw05_DataPointers.j2 (k + 1) base 6 ⟨#[]⟩ ⟨#[192, 0, 49, 50, 51, 52, 53, 54, 55, 56, 57, 48, 49, 50, 51, 52, 53, 54, 55, 56, 57, 48]⟩ = some true := by
  have hbz := isN_size hb
  have hs : data_Expand.shp 6 = some (0, 2, 20) := rfl
  obtain ⟨he, hc⟩ := exp_two hb
  have e0 : ((⟨#[]⟩ : ByteArray) ++ (⟨#[192, 0]⟩ : ByteArray)) ++ (⟨#[192, 0, 49, 50, 51, 52, 53, 54, 55, 56, 57, 48, 49, 50, 51, 52, 53, 54, 55, 56, 57, 48]⟩ : ByteArray) = ptr ++ (ptr ++ tail) := by decide
  have hn : chk 6 (ptr ++ (ptr ++ tail)) = false := not_chk hs (by decide) (by decide)
  have hz : (ptr ++ (ptr ++ tail)).size = 24 := rfl
  rw [wellspringlaw05_DataPointers.j2, e0]
  rw [if_pos (by decide), if_pos (by decide), if_pos (by rw [hz]; omega)]
  rw [exp_eq k (by omega) _ _ _ _ (by rw [ByteArray.size_append, hz]; omega), he]
  simp only [Option.bind_some]
  simp only [if_true]
  rw [if_pos (by rw [size_mk0]; omega), if_pos (by omega), if_pos (by rw [ByteArray.size_append]; omega)]
  have et : (⟨#[49, 50, 51, 52, 53, 54, 55, 56, 57, 48, 49, 50, 51, 52, 53, 54, 55, 56, 57, 48]⟩ : ByteArray) = tail := rfl
  rw [et]
  simp only [if_true]
  rw [dcheck_eq k (by omega), hc]
  simp only [Option.bind_some, if_true]
  rw [dcheck_eq k (by omega), hn]
  simp only [Option.bind_some, Bool.false_eq_true, if_false]
  rw [dlive k (by unfold K0 at hk; omega)]
  rfl
theorem DataPointers : wellspringlaw05_DataPointers.Pure := by
  intro base kind wb wk
  refine ⟨K0 + 20 + 1 + 1 + 1, ?_⟩
  have hk : 60 ≤ K0 + 20 + 1 + 1 := by decide
  have hj : wellspringlaw05_DataPointers.j0 (K0 + 20 + 1 + 1 + 1) base kind true = some true := by
    rw [wellspringlaw05_DataPointers.j0, if_pos rfl, dlive _ hk]; rfl
  unfold wellspringlaw05_DataPointers.f
  by_cases hs : (base.size : Int) > 300
  · rw [if_pos hs]; exact hj
  · rw [if_neg hs, ref_check_eq _ (by decide) base (by omega)]
    simp only [Option.bind_some]
    cases hb : isN base with
    | false => exact hj
    | true =>
      rw [wellspringlaw05_DataPointers.j0, if_neg (by decide)]
      by_cases h2 : kind = 2
      · subst h2
        rw [if_pos rfl, show ((2 : Int) == 2) = true from rfl, wellspringlaw05_DataPointers.j1, if_pos rfl]
        exact pointers_one _ (by decide) (s0 := 0) rfl (by decide) hb rfl
      rw [if_neg h2]
      by_cases h5 : kind = 5
      · subst h5
        rw [if_pos rfl, show ((5 : Int) == 5) = true from rfl, wellspringlaw05_DataPointers.j1, if_pos rfl]
        exact pointers_one _ (by decide) (s0 := 0) rfl (by decide) hb rfl
      rw [if_neg h5, wellspringlaw05_DataPointers.j1]
      by_cases h12 : kind = 12
      · subst h12
        rw [show ((12 : Int) == 12) = true from rfl, if_pos rfl]
        exact pointers_one _ (by decide) (s0 := 0) rfl (by decide) hb rfl
      rw [beq_eq_false_iff_ne.mpr h12, if_neg Bool.false_ne_true]
      by_cases h15 : kind = 15
      · subst h15
        rw [if_pos rfl]
        exact pointers_one _ (by decide) (s0 := 2) rfl (by decide) hb rfl
      rw [if_neg h15]
      by_cases h33 : kind = 33
      · subst h33
        rw [if_pos rfl]
        exact pointers_one _ (by decide) (s0 := 6) rfl (by decide) hb rfl
      rw [if_neg h33]
      by_cases h6 : kind = 6
      · subst h6
        rw [if_pos rfl]
        exact pointers_two _ (by decide) hb
      rw [if_neg h6, dlive _ (by decide)]; rfl
theorem rdOf_map (l : List ByteArray) (i : Int) (h0 : 0 ≤ i) (h : i < (l.length : Int)) : rdOf ByteArray.empty (l.map lowB) i = lowB (rdOf ByteArray.empty l i) ∧ rdOf ByteArray.empty l i ∈ l := by
  have hi : i.toNat < l.length := by omega
  unfold rdOf
  rw [List.getD_eq_getElem?_getD, List.getD_eq_getElem?_getD, List.getElem?_map, List.getElem?_eq_getElem hi]
  exact ⟨rfl, List.getElem_mem hi⟩
theorem back_l0 (l : List ByteArray) (hl : l.length ≤ 1000) (hn : ∀ x ∈ l, isN x = true) (d : Nat) : ∀ (k : Nat) (i : Int), 0 ≤ i → (l.length : Int) - i ≤ d → 700 + d ≤ k → wellspringlaw05_DataBack.l0 (k + 1) l (l.map lowB) i = some true := by
  induction d with
  | zero =>
    intro k i h0 h1 hk
    rw [wellspringlaw05_DataBack.l0, if_neg (by omega), dlive k (by omega)]; rfl
  | succ d ih =>
    intro k i h0 h1 hk
    rw [wellspringlaw05_DataBack.l0]
    by_cases h : i < (l.length : Int)
    · obtain ⟨e1, e2⟩ := rdOf_map l i h0 h
      have hx := hn _ e2
      have hz := isN_size hx
      rw [if_pos h, if_pos h0, if_pos (by rw [List.length_map]; exact h), e1, ref_same_eq k (by omega) _ _ (by omega) (by rw [lowB_size]; omega), same_iff.mpr ⟨hx, isN_low hx, (lowB_idem _).symm⟩]
      simp only [Option.bind_some, if_true]
      rw [ref_Low_eq k (by omega) _ (by omega), if_pos hx]
      simp only [Option.bind_some, if_true]
      rw [w64 (by omega) (by omega)]
      obtain ⟨m, rfl⟩ : ∃ m, k = m + 1 := ⟨k - 1, by omega⟩
      exact ih m (i + 1) (by omega) (by omega) (by omega)
    · rw [if_neg h, dlive k (by omega)]; rfl
theorem DataBack : wellspringlaw05_DataBack.Pure := by
  intro msg i size kind wm wi ws wk
  refine ⟨K0 + 20 + 1 + 1 + 1, ?_⟩
  have hk : 60 ≤ K0 + 20 + 1 + 1 := by decide
  unfold wellspringlaw05_DataBack.f
  by_cases hs : (msg.size : Int) > 2000
  · rw [if_pos hs, dlive _ (by decide)]; rfl
  · rw [if_neg hs, exp_eq _ (by decide) msg i size kind (by omega)]
    simp only [Option.bind_some]
    have key : wellspringlaw05_DataBack.j0 (K0 + 20 + 1 + 1 + 1) msg kind (expd msg i size kind).2 false i size = some true := by
      rw [wellspringlaw05_DataBack.j0, if_neg Bool.false_ne_true, ref_take_eq msg i size (by omega)]
      simp only [Option.bind_some]
      have e1 : ((if okTake msg i size then (msg.extract i.toNat (i + size).toNat, true) else ((⟨#[]⟩ : ByteArray), false)).2 != ((expd msg i size kind).2 != 2)) = false := by
        have := expd_cut msg i size kind
        by_cases ht : okTake msg i size
        · rw [if_pos ht]
          have h2 : ((expd msg i size kind).2 != 2) = true := bne_iff_ne.mpr fun h => this.mp h ht
          rw [h2]; rfl
        · rw [if_neg ht]
          have h2 : ((expd msg i size kind).2 != 2) = false := bne_eq_false_iff_eq.mpr (this.mpr ht)
          rw [h2]; rfl
      rw [e1, if_neg Bool.false_ne_true, dcheck_eq _ (by decide)]
      simp only [Option.bind_some]
      by_cases hc : chk kind msg = true
      · rw [if_pos hc, exp_eq _ (by decide) msg 0 _ kind (by omega), (chk_iff.mp hc).2, low_eq' _ (by decide), names_eq _ (by decide)]
        simp only [Option.bind_some]
        obtain ⟨q1, q2, q3, q4⟩ := lw_all hc
        rw [names_eq _ (by decide), q4]
        simp only [Option.bind_some, if_true]
        rw [if_pos (by omega), dcheck_eq _ (by decide), q1]
        simp only [Option.bind_some, if_true]
        rw [low_eq' _ (by decide), q2]
        simp only [Option.bind_some, if_true]
        have hl := @prt_names kind msg
        rw [List.length_map, wellspringlaw05_DataBack.j1, bne_self_eq_false, if_neg Bool.false_ne_true]
        exact back_l0 _ (by have := hl.2; omega) hl.1 2 (K0 + 20) 0 (Int.le_refl _) (by have := hl.2; omega) (by decide)
      · rw [if_neg hc, dlive _ (by decide)]; rfl
    by_cases h0 : (expd msg i size kind).2 = 0
    · rw [if_pos h0, dcheck_eq _ (by decide), expd_chk (by omega) h0]
      exact key
    · rw [if_neg h0]; exact key
end Go.Proofs.Ytdkkanpbcifkfaa.ZQ

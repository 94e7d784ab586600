/- The statements DataExpands, DataTells and DataKinds, over numbers and bytes. -/
import Derived.Test.YtdkkanpbcifkfaaZDatN
import Derived.Test.YtdkkanpbcifkfaaZQ15
import Derived.Test.YtdkkanpbcifkfaaZQ16
import Derived.Test.YtdkkanpbcifkfaaZQ19
set_option linter.unusedVariables false
set_option linter.unusedSimpArgs false
namespace Go.Proofs.Ytdkkanpbcifkfaa.ZQ
open Go.RowKit Go.Proofs.YtdkkanpbcifkfaaW.PrintWords Go.Proofs.YtdkkanpbcifkfaaW.PrintLast Go.Proofs.YtdkkanpbcifkfaaW.PrintMore Go.Proofs.Ytdkkanpbcifkfaa.B

theorem dlive (k : Nat) (hk : 60 ≤ k) : wellspringlaw05_live.f k = some true := by
  refine at_rounds (fun k => wellspringlaw05_live.mono k) hk ?_
  decide +kernel
theorem DataExpands : wellspringlaw05_DataExpands.Pure := by
  intro msg i size kind wm wi ws wk
  refine ⟨K0 + 20, ?_⟩
  have hk : 60 ≤ K0 + 20 := by decide
  unfold wellspringlaw05_DataExpands.f
  rw [dlive _ hk]
  by_cases hs : (msg.size : Int) > 2000
  · rw [if_pos hs]; rfl
  · rw [if_neg hs, exp_eq _ (by omega) msg i size kind (by omega), ref_exp_eq _ (by omega) msg i size kind (by omega)]
    simp
theorem DataTells : wellspringlaw05_DataTells.Pure := by
  intro kind d wk wd
  refine ⟨K0 + 20, ?_⟩
  have hk : 60 ≤ K0 + 20 := by decide
  have hk2 : 1100 ≤ K0 + 20 := by decide
  unfold wellspringlaw05_DataTells.f
  rw [dlive _ hk, dcheck_eq _ (by omega), ref_dcheck_eq _ (by omega), names_eq _ (by omega), ref_names_eq _ (by omega), low_eq' _ (by omega), ref_low_eq _ (by omega)]
  by_cases hs : (d.size : Int) > 70000
  · rw [if_pos hs]; rfl
  · rw [if_neg hs]
    simp only [Option.bind_some, beq_self_eq_true, if_true]
    rw [texts_refl _ hk2 _ (by have := (@prt_names kind d).2; omega)]
    simp
theorem chk_plain {kind : Int} {d : ByteArray} (hs : data_Expand.shp kind = none) (h16 : kind ≠ 16) (hd : d.size ≤ 65535) : chk kind d = true := by
  refine chk_iff.mpr ⟨hd, ?_⟩
  unfold expd
  rw [if_pos (take_whole d), hs]
  simp only
  rw [if_neg h16, Int.zero_add, Int.toNat_natCast, show (0 : Int).toNat = 0 from rfl, ext_full, fin2_ok hd]
theorem chk_size {kind : Int} {d : ByteArray} {n : Int} (hs : data_Expand.shp kind = some (n, 0, 0)) (hn : 0 ≤ n) (hd : d.size ≤ 65535) : chk kind d = ((d.size : Int) == n) := by
  have e : expd d 0 d.size kind = if (d.size : Int) = n then (d, 0) else (⟨#[]⟩, 4) := by
    unfold expd expS
    rw [if_pos (take_whole d), hs]
    simp only [Int.zero_add, rdL, show (0 : Int).toNat = 0 from rfl, Int.add_zero, Int.toNat_natCast]
    by_cases h : (d.size : Int) = n
    · rw [if_pos (by omega), if_pos (by omega), if_pos h]
      have e2 : d.extract 0 n.toNat ++ strings_Join.cat [] ++ d.extract n.toNat d.size = d := by
        rw [← h, Int.toNat_natCast, ext_full]
        have e0 : d.extract d.size d.size = ⟨#[]⟩ := eq_empty (by rw [ByteArray.size_extract]; omega)
        rw [e0, append_empty]; exact append_empty d
      rw [e2, fin2_ok hd]
    · rw [if_neg h]
      by_cases c : n ≤ (d.size : Int)
      · rw [if_pos c, if_neg (by omega)]
      · rw [if_neg c]
  unfold chk
  rw [e, decide_eq_true hd, Bool.true_and]
  by_cases h : (d.size : Int) = n
  · rw [if_pos h, beq_iff_eq.mpr h]; simp
  · rw [if_neg h, beq_eq_false_iff_ne.mpr h]; simp
theorem DataKinds : wellspringlaw05_DataKinds.Pure := by
  intro d kind wd wk
  refine ⟨K0 + 20 + 2, ?_⟩
  unfold wellspringlaw05_DataKinds.f
  by_cases hs : (d.size : Int) > 65535
  · rw [if_pos hs, dlive _ (by unfold K0; omega)]; rfl
  · rw [if_neg hs, dcheck_eq _ (by omega), dcheck_eq _ (by omega), chk_size (n := 4) (by decide) (by decide) (by omega), chk_size (n := 16) (by decide) (by decide) (by omega)]
    simp only [Option.bind_some, bne_self_eq_false, Bool.false_eq_true, if_false]
    rw [wellspringlaw05_DataKinds.j0, if_neg Bool.false_ne_true]
    have ht : wellspringlaw05_DataKinds.j1 (K0 + 20 + 1) d kind true = some true := by rw [wellspringlaw05_DataKinds.j1, if_pos rfl, dlive _ (by unfold K0; omega)]; rfl
    by_cases h1 : kind = 1
    · rw [if_pos h1]; exact ht
    rw [if_neg h1]
    by_cases h2 : kind = 2
    · rw [if_pos h2]; exact ht
    rw [if_neg h2]
    by_cases h3 : kind = 5
    · rw [if_pos h3]; exact ht
    rw [if_neg h3]
    by_cases h4 : kind = 6
    · rw [if_pos h4]; exact ht
    rw [if_neg h4]
    by_cases h5 : kind = 12
    · rw [if_pos h5]; exact ht
    rw [if_neg h5]
    by_cases h6 : kind = 15
    · rw [if_pos h6]; exact ht
    rw [if_neg h6]
    by_cases h7 : kind = 16
    · rw [if_pos h7]; exact ht
    rw [if_neg h7]
    by_cases h8 : kind = 28
    · rw [if_pos h8]; exact ht
    rw [if_neg h8]
    by_cases h9 : kind = 33
    · rw [beq_iff_eq.mpr h9]; exact ht
    rw [beq_eq_false_iff_ne.mpr h9, wellspringlaw05_DataKinds.j1, if_neg Bool.false_ne_true]
    have hsh : data_Expand.shp kind = none := by unfold data_Expand.shp; rw [if_neg h1, if_neg h8, if_neg h2, if_neg h3, if_neg h5, if_neg h4, if_neg h6, if_neg h9]
    have hc := chk_plain hsh h7 (show d.size ≤ 65535 by omega)
    have hp : prt kind d = (d, ⟨#[]⟩, [], true) := by unfold prt; rw [if_pos hc, hsh]
    have hl : lw kind d = d := by unfold lw; rw [hp]; show d ++ ⟨#[]⟩ ++ ⟨#[]⟩ = d; rw [append_empty, append_empty]
    rw [dcheck_eq _ (by omega), hc, low_eq' _ (by omega), hl, names_eq _ (by omega), hp, dlive _ (by unfold K0; omega)]
    simp
end Go.Proofs.Ytdkkanpbcifkfaa.ZQ

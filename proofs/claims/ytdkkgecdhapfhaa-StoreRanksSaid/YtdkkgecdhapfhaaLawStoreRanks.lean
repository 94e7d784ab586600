/- The row of StoreRanks. No condition. -/
import Derived.Test.YtdkkgecdhapfhaaRows
import Derived.Test.YtdkkgecdhapfhaaZMay
import Derived.Test.YtdkkgecdhapfhaaZLft
import Derived.Test.YtdkkgecdhapfhaaZMak
import Derived.Test.YtdkkgecdhapfhaaPSRksi
import Derived.Test.YtdkkgecdhapfhaaPSRksn
import Derived.WalkKit
import Derived.ProofKit
import Derived.OpenShut
import Derived.ShutString
import Derived.ChangeOld
import Derived.SizedLaws
set_option linter.unusedSectionVars false
set_option linter.unusedSimpArgs false
set_option linter.unusedVariables false
namespace Go.Proofs.Ytdkkgecdhapfhaa.storeRanks
open Go.ChangeShapes Go.WideShapes Go.ChangeAt Go.RowKit Ev Ka
open Go.ChangeMaps (open_string shut_string)
theorem own : ownKnob Try.prog.godebug = none := by kernel_rfl
theorem laidOut : laidOutB Try.prog = true := by kernel_rfl
set_option maxRecDepth 100000 in
theorem lifted (os : Os) (started : os.Started) (H : Type) (enc : TypeId × Value → H) :
    ReturnsInHanded {} Try.checked os 5 .any (Rows.storeRanksSpec.pre6 enc Try.prog Try.f5 Rows.storeRanksRow.domain false) (Rows.storeRanksSpec.post enc Try.prog Try.f5 false true false false) := by
  refine returnsInHanded_of_change_sized (C := Try.checked) own started (by kernel_rfl) Try.func5
    (ChangeSpec.witness6 (enc := enc) (C := Try.checked) false ⟨#[], #[.agg #[.int .i64 0, .int .i64 0, .string ByteArray.empty, .int .i64 0, .int .i64 0, .slice none 0 0, .int .i64 0, .int .i64 0], .agg #[.int .i64 0, .int .i64 0, .string ByteArray.empty, .int .i64 0, .int .i64 0, .slice none 0 0, .int .i64 0, .int .i64 0]], []⟩ 8 (by kernel_rfl) (by kernel_rfl) (by kernel_rfl) (by kernel_rfl)) ?_
  intro W base args ds gs before hval0 hW hcnd hsz0 _
  have hsz : (DataW.weightsEach Try.prog (Try.f5.params.toList ++ Rows.storeRanksSpec.plain.varTypes Try.prog) (ds ++ gs)).all (· ≤ reachBytes) = true := hsz0
  have hval : ∀ (j : Nat) t v, Try.f5.params[j]? = some t → args[j]? = some v → Value.okWide Try.prog W .any base t v := hval0
  have hW' := hW
  obtain ⟨p, q, hA0, hV, rfl, hfz, hnd⟩ := hW
  have hA : DataW.TrodAll enc Try.prog W 0 (fun _ => true) true Try.f5.params.toList args.toList ds p := hA0
  rw [Try.params5] at hA hval hsz
  obtain ⟨v0, vs0, d0, ds0, p0, q0, hargs, rfl, rfl, h0, r0⟩ := trodAll_cons hA
  obtain ⟨v1, vs1, d1, ds1, p1, q1, rfl, rfl, rfl, h1, r1⟩ := trodAll_cons r0
  obtain ⟨rfl, rfl, rfl⟩ := trodAll_nil r1
  obtain rfl : args = #[v0, v1] := by cases args; simp_all
  obtain ⟨rfl, rfl⟩ := trodVars_none hV
  have k0 := h0
  have lt0 : ∀ x ∈ p0, x.block < W.heap.size := by obtain ⟨m, hm⟩ := k0; exact DataW.trod_lt m _ _ _ hm
  have hz0 := vE hsz (j := 0) (t := 37) (d := d0) rfl rfl
  obtain ⟨cs0, rfl⟩ := pE Try.underlying37 (hval 0 37 v0 rfl rfl)
  obtain ⟨Zx, hf0⟩ := h0
  obtain ⟨x0, hr0, hg0⟩ := opO enc W _ _ Zx _ _ hf0 hz0
  have k1 := h1
  have lt1 : ∀ x ∈ p1, x.block < W.heap.size := by obtain ⟨m, hm⟩ := k1; exact DataW.trod_lt m _ _ _ hm
  have hz1 := vE hsz (j := 1) (t := 37) (d := d1) rfl rfl
  obtain ⟨cs1, rfl⟩ := pE Try.underlying37 (hval 1 37 v1 rfl rfl)
  obtain ⟨fuel1, hf1⟩ := h1
  obtain ⟨x1, hr1, hg1⟩ := opO enc W _ _ fuel1 _ _ hf1 hz1
  clear hA0 hval0 hsz0 hsz
  refine (IZ (J9 mixed ents Px IY _).1 (KA (n := 0) Py Uq Pz (Nat.le_refl 200000000000001) x0 x1 (Nat.le_trans hg0 (by decide)) (Nat.le_trans hg1 (by decide))) (yC (Ea (cs := cs0) hr0) (yC (Ea (cs := cs1) hr1) I7))).mono fun e W' ⟨he, LA⟩ => ?_
  subst he
  exact ⟨_, rfl, _, _, _, [], _, [], hW', trodAll_mk1 (shut_bool Try.underlying4 _), (trodAll_cons_mk (Old.trod laidOut (by kernel_rfl) (of_decide_eq_true (by kernel_rfl)) k0 LA lt0) (trodAll_cons_mk (Old.trod laidOut (by kernel_rfl) (of_decide_eq_true (by kernel_rfl)) k1 LA lt1) trodAll_mk0)), rfl, LA.frame _, fun h => by cases h⟩
theorem over : Rows.storeRanksRow.holds Try.pinned (OpenSpec.ofChange Rows.storeRanksSpec) :=
  OpenClaim.holds_of_wide 5 Try.f5 rfl rfl rfl rfl rfl rfl rfl ⟨rfl, rfl, rfl, rfl, rfl⟩ rfl rfl rfl rfl rfl (by kernel_rfl) Try.func5 (by unfold joinedFacts; rw [show Try.pinned.checked.prog.mayEnter = true from May.enters, show Try.pinned.checked.prog.liftsFinal = false from May.lifts, show Try.pinned.checked.prog.make = some .cut from May.makes]; kernel_rfl)
    (of_decide_eq_true (by kernel_rfl)) (by unfold Func.isWrapper; first | (rw [if_pos (by decide +kernel)]; kernel_rfl) | (rw [if_neg (by decide +kernel)]; exact ⟨rfl, rfl⟩))
    (fun os started H enc _ => lifted os started H enc)
theorem proved : Rows.StoreRanksSaid := over
#print axioms proved
end Go.Proofs.Ytdkkgecdhapfhaa.storeRanks
namespace Go.Proofs.Ytdkkgecdhapfhaa
theorem storeRanks_holds : Rows.StoreRanksSaid := storeRanks.proved
end Go.Proofs.Ytdkkgecdhapfhaa

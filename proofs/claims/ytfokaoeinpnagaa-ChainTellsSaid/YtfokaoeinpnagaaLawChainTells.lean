/- The row of ChainTells. No condition. -/
import Derived.Test.YtfokaoeinpnagaaRows
import Derived.Test.YtfokaoeinpnagaaZMay
import Derived.Test.YtfokaoeinpnagaaZLft
import Derived.Test.YtfokaoeinpnagaaZMak
import Derived.Test.YtfokaoeinpnagaaPCTlsi
import Derived.Test.YtfokaoeinpnagaaPCTlsm
import Derived.WalkKit
import Derived.ProofKit
import Derived.OpenShut
import Derived.ShutString
import Derived.ChangeOld
import Derived.SizedLaws
set_option linter.unusedSectionVars false
set_option linter.unusedSimpArgs false
set_option linter.unusedVariables false
namespace Go.Proofs.Ytfokaoeinpnagaa.chainTells
open Go.ChangeShapes Go.WideShapes Go.ChangeAt Go.RowKit Ev Kc
open Go.ChangeMaps (open_string shut_string)
theorem own : ownKnob Try.prog.godebug = none := by kernel_rfl
theorem laidOut : laidOutB Try.prog = true := by kernel_rfl
set_option maxRecDepth 100000 in
theorem lifted (os : Os) (started : os.Started) (H : Type) (enc : TypeId × Value → H) :
    ReturnsInHanded {} Try.checked os 3 .any (Rows.chainTellsSpec.pre6 enc Try.prog Try.f3 Rows.chainTellsRow.domain false) (Rows.chainTellsSpec.post enc Try.prog Try.f3 false true false false) := by
  refine returnsInHanded_of_change_sized (C := Try.checked) own started (by kernel_rfl) Try.func3
    (ChangeSpec.witness6 (enc := enc) (C := Try.checked) false ⟨#[], #[.agg #[.slice none 0 0, .int .i64 0, .string ByteArray.empty, .string ByteArray.empty, .int .i64 0, .int .i64 0, .slice none 0 0, .int .i64 0, .int .i64 0], .agg #[.string ByteArray.empty, .int .i64 0, .int .i64 0, .slice none 0 0, .int .i64 0]], []⟩ 8 (by kernel_rfl) (by kernel_rfl) (by kernel_rfl) (by kernel_rfl)) ?_
  intro W base args ds gs before hval0 hW hcnd hsz0 _
  have hsz : (DataW.weightsEach Try.prog (Try.f3.params.toList ++ Rows.chainTellsSpec.plain.varTypes Try.prog) (ds ++ gs)).all (· ≤ reachBytes) = true := hsz0
  have hval : ∀ (j : Nat) t v, Try.f3.params[j]? = some t → args[j]? = some v → Value.okWide Try.prog W .any base t v := hval0
  have hW' := hW
  obtain ⟨p, q, hA0, hV, rfl, hfz, hnd⟩ := hW
  have hA : DataW.TrodAll enc Try.prog W 0 (fun _ => true) true Try.f3.params.toList args.toList ds p := hA0
  rw [Try.params3] at hA hval hsz
  obtain ⟨v0, vs0, d0, ds0, p0, q0, hargs, rfl, rfl, h0, r0⟩ := trodAll_cons hA
  obtain ⟨v1, vs1, d1, ds1, p1, q1, rfl, rfl, rfl, h1, r1⟩ := trodAll_cons r0
  obtain ⟨rfl, rfl, rfl⟩ := trodAll_nil r1
  obtain rfl : args = #[v0, v1] := by cases args; simp_all
  obtain ⟨rfl, rfl⟩ := trodVars_none hV
  have k0 := h0
  have lt0 : ∀ x ∈ p0, x.block < W.heap.size := by obtain ⟨m, hm⟩ := k0; exact DataW.trod_lt m _ _ _ hm
  have hz0 := vX hsz (j := 0) (t := 31) (d := d0) rfl rfl
  obtain ⟨cs0, rfl⟩ := pR Try.underlying31 (hval 0 31 v0 rfl rfl)
  obtain ⟨abf, hf0⟩ := h0
  obtain ⟨x0, hr0, hg0⟩ := afr enc W _ _ abf _ _ hf0 hz0
  have k1 := h1
  have lt1 : ∀ x ∈ p1, x.block < W.heap.size := by obtain ⟨m, hm⟩ := k1; exact DataW.trod_lt m _ _ _ hm
  have hz1 := vX hsz (j := 1) (t := 27) (d := d1) rfl rfl
  obtain ⟨cs1, rfl⟩ := pR Try.underlying27 (hval 1 27 v1 rfl rfl)
  obtain ⟨fuel1, hf1⟩ := h1
  obtain ⟨x1, hr1, hg1⟩ := opS enc W _ _ fuel1 _ _ hf1 hz1
  clear hA0 hval0 hsz0 hsz
  refine (J5 (Lh mixed ents Rh J4 _).1 (zC (n := 0) V3 V5 V4 Ri V6 Rj (Nat.le_refl 200000000000001) x0 x1 (Nat.le_trans hg0.1 (by decide)) (Nat.le_trans hg1 (by decide))) (ze (EN (cs := cs0) hr0) (ze (EN (cs := cs1) hr1) J7))).mono fun e W' ⟨he, Nc⟩ => ?_
  subst he
  exact ⟨_, rfl, _, _, _, [], _, [], hW', trodAll_mk1 (shut_bool Try.underlying4 _), (trodAll_cons_mk (Old.trod laidOut (by kernel_rfl) (of_decide_eq_true (by kernel_rfl)) k0 Nc lt0) (trodAll_cons_mk (Old.trod laidOut (by kernel_rfl) (of_decide_eq_true (by kernel_rfl)) k1 Nc lt1) trodAll_mk0)), rfl, Nc.frame _, fun h => by cases h⟩
theorem over : Rows.chainTellsRow.holds Try.pinned (OpenSpec.ofChange Rows.chainTellsSpec) :=
  OpenClaim.holds_of_wide 3 Try.f3 rfl rfl rfl rfl rfl rfl rfl ⟨rfl, rfl, rfl, rfl, rfl⟩ rfl rfl rfl rfl rfl (by kernel_rfl) Try.func3 (by unfold joinedFacts; rw [show Try.pinned.checked.prog.mayEnter = true from May.enters, show Try.pinned.checked.prog.liftsFinal = false from May.lifts, show Try.pinned.checked.prog.make = some .cut from May.makes]; kernel_rfl)
    (of_decide_eq_true (by kernel_rfl)) (by unfold Func.isWrapper; first | (rw [if_pos (by decide +kernel)]; kernel_rfl) | (rw [if_neg (by decide +kernel)]; exact ⟨rfl, rfl⟩))
    (fun os started H enc _ => lifted os started H enc)
theorem proved : Rows.ChainTellsSaid := over
#print axioms proved
end Go.Proofs.Ytfokaoeinpnagaa.chainTells
namespace Go.Proofs.Ytfokaoeinpnagaa
theorem chainTells_holds : Rows.ChainTellsSaid := chainTells.proved
end Go.Proofs.Ytfokaoeinpnagaa

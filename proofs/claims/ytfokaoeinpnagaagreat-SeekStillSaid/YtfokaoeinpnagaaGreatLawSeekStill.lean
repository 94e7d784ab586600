/- The row of SeekStill. No condition. -/
import Derived.Test.YtfokaoeinpnagaaGreatRows
import Derived.Test.YtfokaoeinpnagaaGreatZMay
import Derived.Test.YtfokaoeinpnagaaGreatZLft
import Derived.Test.YtfokaoeinpnagaaGreatZMak
import Derived.Test.YtfokaoeinpnagaaGreatPSSllk
import Derived.Test.YtfokaoeinpnagaaGreatPSSllj
import Derived.WalkKit
import Derived.ProofKit
import Derived.OpenShut
import Derived.ShutString
import Derived.ChangeOld
import Derived.SizedLaws
set_option linter.unusedSectionVars false
set_option linter.unusedSimpArgs false
set_option linter.unusedVariables false
namespace Go.Proofs.YtfokaoeinpnagaaGreat.seekStill
open Go.ChangeShapes Go.WideShapes Go.ChangeAt Go.RowKit Ev Kd Kc
open Go.ChangeMaps (open_string shut_string)
theorem own : ownKnob Tryz.prog.godebug = none := by kernel_rfl
theorem laidOut : laidOutB Tryz.prog = true := by kernel_rfl
set_option maxRecDepth 100000 in
theorem lifted (os : Os) (started : os.Started) (H : Type) (enc : TypeId × Value → H) :
    ReturnsInHanded {} Tryz.checked os 9 .any (Rows.seekStillSpec.pre6 enc Tryz.prog Tryz.f9 Rows.seekStillRow.domain false) (Rows.seekStillSpec.post enc Tryz.prog Tryz.f9 false true false false) := by
  refine returnsInHanded_of_change_sized (C := Tryz.checked) own started (by kernel_rfl) Tryz.func9
    (ChangeSpec.witness6 (enc := enc) (C := Tryz.checked) false ⟨#[], #[.agg #[.slice none 0 0, .int .i64 0, .slice none 0 0, .int .i64 0], .agg #[.string ByteArray.empty, .int .i64 0, .int .i64 0]], []⟩ 8 (by kernel_rfl) (by kernel_rfl) (by kernel_rfl) (by kernel_rfl)) ?_
  intro W base args ds gs before hval0 hW hcnd hsz0 _
  have hsz : (DataW.weightsEach Tryz.prog (Tryz.f9.params.toList ++ Rows.seekStillSpec.plain.varTypes Tryz.prog) (ds ++ gs)).all (· ≤ reachBytes) = true := hsz0
  have hval : ∀ (j : Nat) t v, Tryz.f9.params[j]? = some t → args[j]? = some v → Value.okWide Tryz.prog W .any base t v := hval0
  have hW' := hW
  obtain ⟨p, q, hA0, hV, rfl, hfz, hnd⟩ := hW
  have hA : DataW.TrodAll enc Tryz.prog W 0 (fun _ => true) true Tryz.f9.params.toList args.toList ds p := hA0
  rw [Tryz.params9] at hA hval hsz
  obtain ⟨v0, vs0, d0, ds0, p0, q0, hargs, rfl, rfl, h0, r0⟩ := trodAll_cons hA
  obtain ⟨v1, vs1, d1, ds1, p1, q1, rfl, rfl, rfl, h1, r1⟩ := trodAll_cons r0
  obtain ⟨rfl, rfl, rfl⟩ := trodAll_nil r1
  obtain rfl : args = #[v0, v1] := by cases args; simp_all
  obtain ⟨rfl, rfl⟩ := trodVars_none hV
  have k0 := h0
  have lt0 : ∀ x ∈ p0, x.block < W.heap.size := by obtain ⟨m, hm⟩ := k0; exact DataW.trod_lt m _ _ _ hm
  have hz0 := vL hsz (j := 0) (t := 63) (d := d0) rfl rfl
  obtain ⟨cs0, rfl⟩ := pK Tryz.underlying63 (hval 0 63 v0 rfl rfl)
  obtain ⟨aby, hf0⟩ := h0
  obtain ⟨x0, hr0, hg0⟩ := opC enc W _ _ aby _ _ hf0 hz0
  have k1 := h1
  have lt1 : ∀ x ∈ p1, x.block < W.heap.size := by obtain ⟨m, hm⟩ := k1; exact DataW.trod_lt m _ _ _ hm
  have hz1 := vL hsz (j := 1) (t := 24) (d := d1) rfl rfl
  obtain ⟨cs1, rfl⟩ := pK Tryz.underlying24 (hval 1 24 v1 rfl rfl)
  obtain ⟨fuel1, hf1⟩ := h1
  obtain ⟨x1, hr1, hg1⟩ := opQ enc W _ _ fuel1 _ _ hf1 hz1
  clear hA0 hval0 hsz0 hsz
  refine (J3 (zY mixed Kd.ents RO JQ _).1 (CK (n := 0) TN hv2 exT (Nat.le_refl 200000000000001) x0 x1 (Nat.le_trans hg0.1.1 (by decide)) (fun x hx => Nat.le_trans (hg0.1.2 x hx) (by decide)) (Nat.le_trans hg0.2.1 (by decide)) (abx hg0.2.2).2) (yS (EP (cs := cs0) hr0) (yS (EP (cs := cs1) hr1) J5))).mono fun e W' ⟨he, ND⟩ => ?_
  subst he
  exact ⟨_, rfl, _, _, _, [], _, [], hW', trodAll_mk1 (shut_bool Tryz.underlying4 _), (trodAll_cons_mk (Old.trod laidOut (by kernel_rfl) (of_decide_eq_true (by kernel_rfl)) k0 ND lt0) (trodAll_cons_mk (Old.trod laidOut (by kernel_rfl) (of_decide_eq_true (by kernel_rfl)) k1 ND lt1) trodAll_mk0)), rfl, ND.frame _, fun h => by cases h⟩
theorem over : Rows.seekStillRow.holds Tryz.pinned (OpenSpec.ofChange Rows.seekStillSpec) :=
  OpenClaim.holds_of_wide 9 Tryz.f9 rfl rfl rfl rfl rfl rfl rfl ⟨rfl, rfl, rfl, rfl, rfl⟩ rfl rfl rfl rfl rfl (by kernel_rfl) Tryz.func9 (by unfold joinedFacts; rw [show Tryz.pinned.checked.prog.mayEnter = true from May.enters, show Tryz.pinned.checked.prog.liftsFinal = false from May.lifts, show Tryz.pinned.checked.prog.make = some .cut from May.makes]; kernel_rfl)
    (of_decide_eq_true (by kernel_rfl)) (by unfold Func.isWrapper; first | (rw [if_pos (by decide +kernel)]; kernel_rfl) | (rw [if_neg (by decide +kernel)]; exact ⟨rfl, rfl⟩))
    (fun os started H enc _ => lifted os started H enc)
theorem proved : Rows.SeekStillSaid := over
#print axioms proved
end Go.Proofs.YtfokaoeinpnagaaGreat.seekStill
namespace Go.Proofs.YtfokaoeinpnagaaGreat
theorem seekStill_holds : Rows.SeekStillSaid := seekStill.proved
end Go.Proofs.YtfokaoeinpnagaaGreat

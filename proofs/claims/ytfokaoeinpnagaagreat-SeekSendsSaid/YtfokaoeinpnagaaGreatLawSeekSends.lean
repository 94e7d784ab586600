/- The row of SeekSends. No condition. -/
import Derived.Test.YtfokaoeinpnagaaGreatRows
import Derived.Test.YtfokaoeinpnagaaGreatZMay
import Derived.Test.YtfokaoeinpnagaaGreatZLft
import Derived.Test.YtfokaoeinpnagaaGreatZMak
import Derived.Test.YtfokaoeinpnagaaGreatPSSdsl
import Derived.Test.YtfokaoeinpnagaaGreatPSSdsk
import Derived.WalkKit
import Derived.ProofKit
import Derived.OpenShut
import Derived.ShutString
import Derived.ChangeOld
import Derived.SizedLaws
set_option linter.unusedSectionVars false
set_option linter.unusedSimpArgs false
set_option linter.unusedVariables false
namespace Go.Proofs.YtfokaoeinpnagaaGreat.seekSends
open Go.ChangeShapes Go.WideShapes Go.ChangeAt Go.RowKit Ev Kd Kc
open Go.ChangeMaps (open_string shut_string)
theorem own : ownKnob Tryz.prog.godebug = none := by kernel_rfl
theorem laidOut : laidOutB Tryz.prog = true := by kernel_rfl
set_option maxRecDepth 100000 in
theorem lifted (os : Os) (started : os.Started) (H : Type) (enc : TypeId × Value → H) :
    ReturnsInHanded {} Tryz.checked os 6 .any (Rows.seekSendsSpec.pre6 enc Tryz.prog Tryz.f6 Rows.seekSendsRow.domain false) (Rows.seekSendsSpec.post enc Tryz.prog Tryz.f6 false true false false) := by
  refine returnsInHanded_of_change_sized (C := Tryz.checked) own started (by kernel_rfl) Tryz.func6
    (ChangeSpec.witness6 (enc := enc) (C := Tryz.checked) false ⟨#[], #[.agg #[.slice none 0 0, .int .i64 0, .slice none 0 0, .int .i64 0], .agg #[.string ByteArray.empty, .int .i64 0, .int .i64 0]], []⟩ 8 (by kernel_rfl) (by kernel_rfl) (by kernel_rfl) (by kernel_rfl)) ?_
  intro W base args ds gs before hval0 hW hcnd hsz0 _
  have hsz : (DataW.weightsEach Tryz.prog (Tryz.f6.params.toList ++ Rows.seekSendsSpec.plain.varTypes Tryz.prog) (ds ++ gs)).all (· ≤ reachBytes) = true := hsz0
  have hval : ∀ (j : Nat) t v, Tryz.f6.params[j]? = some t → args[j]? = some v → Value.okWide Tryz.prog W .any base t v := hval0
  have hW' := hW
  obtain ⟨p, q, hA0, hV, rfl, hfz, hnd⟩ := hW
  have hA : DataW.TrodAll enc Tryz.prog W 0 (fun _ => true) true Tryz.f6.params.toList args.toList ds p := hA0
  rw [Tryz.params6] at hA hval hsz
  obtain ⟨v0, vs0, d0, ds0, p0, q0, hargs, rfl, rfl, h0, r0⟩ := trodAll_cons hA
  obtain ⟨v1, vs1, d1, ds1, p1, q1, rfl, rfl, rfl, h1, r1⟩ := trodAll_cons r0
  obtain ⟨rfl, rfl, rfl⟩ := trodAll_nil r1
  obtain rfl : args = #[v0, v1] := by cases args; simp_all
  obtain ⟨rfl, rfl⟩ := trodVars_none hV
  have k0 := h0
  have lt0 : ∀ x ∈ p0, x.block < W.heap.size := by obtain ⟨m, hm⟩ := k0; exact DataW.trod_lt m _ _ _ hm
  have hz0 := wJ hsz (j := 0) (t := 63) (d := d0) rfl rfl
  obtain ⟨cs0, rfl⟩ := qz Tryz.underlying63 (hval 0 63 v0 rfl rfl)
  obtain ⟨acG, hf0⟩ := h0
  obtain ⟨x0, hr0, hg0⟩ := opC enc W _ _ acG _ _ hf0 hz0
  have k1 := h1
  have lt1 : ∀ x ∈ p1, x.block < W.heap.size := by obtain ⟨m, hm⟩ := k1; exact DataW.trod_lt m _ _ _ hm
  have hz1 := wJ hsz (j := 1) (t := 24) (d := d1) rfl rfl
  obtain ⟨cs1, rfl⟩ := qz Tryz.underlying24 (hval 1 24 v1 rfl rfl)
  obtain ⟨fuel1, hf1⟩ := h1
  obtain ⟨x1, hr1, hg1⟩ := opQ enc W _ _ fuel1 _ _ hf1 hz1
  clear hA0 hval0 hsz0 hsz
  refine (Lj (A9 mixed Kd.ents Tt Lb _).1 (DV (n := 0) U7 hv2 exS (Nat.le_refl 200000000000001) x0 x1 (Nat.le_trans hg0.1.1 (by decide)) (fun x hx => Nat.le_trans (hg0.1.2 x hx) (by decide)) (Nat.le_trans hg0.2.1 (by decide)) (acF hg0.2.2).2) (zM (Gf (cs := cs0) hr0) (zM (Gf (cs := cs1) hr1) Lm))).mono fun e W' ⟨he, O6⟩ => ?_
  subst he
  exact ⟨_, rfl, _, _, _, [], _, [], hW', trodAll_mk1 (shut_bool Tryz.underlying4 _), (trodAll_cons_mk (Old.trod laidOut (by kernel_rfl) (of_decide_eq_true (by kernel_rfl)) k0 O6 lt0) (trodAll_cons_mk (Old.trod laidOut (by kernel_rfl) (of_decide_eq_true (by kernel_rfl)) k1 O6 lt1) trodAll_mk0)), rfl, O6.frame _, fun h => by cases h⟩
theorem over : Rows.seekSendsRow.holds Tryz.pinned (OpenSpec.ofChange Rows.seekSendsSpec) :=
  OpenClaim.holds_of_wide 6 Tryz.f6 rfl rfl rfl rfl rfl rfl rfl ⟨rfl, rfl, rfl, rfl, rfl⟩ rfl rfl rfl rfl rfl (by kernel_rfl) Tryz.func6 (by unfold joinedFacts; rw [show Tryz.pinned.checked.prog.mayEnter = true from May.enters, show Tryz.pinned.checked.prog.liftsFinal = false from May.lifts, show Tryz.pinned.checked.prog.make = some .cut from May.makes]; kernel_rfl)
    (of_decide_eq_true (by kernel_rfl)) (by unfold Func.isWrapper; first | (rw [if_pos (by decide +kernel)]; kernel_rfl) | (rw [if_neg (by decide +kernel)]; exact ⟨rfl, rfl⟩))
    (fun os started H enc _ => lifted os started H enc)
theorem proved : Rows.SeekSendsSaid := over
#print axioms proved
end Go.Proofs.YtfokaoeinpnagaaGreat.seekSends
namespace Go.Proofs.YtfokaoeinpnagaaGreat
theorem seekSends_holds : Rows.SeekSendsSaid := seekSends.proved
end Go.Proofs.YtfokaoeinpnagaaGreat

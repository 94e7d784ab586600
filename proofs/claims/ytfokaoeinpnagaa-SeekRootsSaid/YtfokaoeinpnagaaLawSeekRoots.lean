/- The row of SeekRoots. No condition. -/
import Derived.Test.YtfokaoeinpnagaaRows
import Derived.Test.YtfokaoeinpnagaaZMay
import Derived.Test.YtfokaoeinpnagaaZLft
import Derived.Test.YtfokaoeinpnagaaZMak
import Derived.Test.YtfokaoeinpnagaaPSRtsl
import Derived.Test.YtfokaoeinpnagaaPSRtsk
import Derived.WalkKit
import Derived.ProofKit
import Derived.OpenShut
import Derived.ShutString
import Derived.ChangeOld
import Derived.SizedLaws
set_option linter.unusedSectionVars false
set_option linter.unusedSimpArgs false
set_option linter.unusedVariables false
namespace Go.Proofs.Ytfokaoeinpnagaa.seekRoots
open Go.ChangeShapes Go.WideShapes Go.ChangeAt Go.RowKit Ev Kd Kc
open Go.ChangeMaps (open_string shut_string)
theorem own : ownKnob Try.prog.godebug = none := by kernel_rfl
theorem laidOut : laidOutB Try.prog = true := by kernel_rfl
set_option maxRecDepth 100000 in
theorem lifted (os : Os) (started : os.Started) (H : Type) (enc : TypeId × Value → H) :
    ReturnsInHanded {} Try.checked os 7 .any (Rows.seekRootsSpec.pre6 enc Try.prog Try.f7 Rows.seekRootsRow.domain false) (Rows.seekRootsSpec.post enc Try.prog Try.f7 false true false false) := by
  refine returnsInHanded_of_change_sized (C := Try.checked) own started (by kernel_rfl) Try.func7
    (ChangeSpec.witness6 (enc := enc) (C := Try.checked) false ⟨#[], #[.slice none 0 0, .int .i64 0, .agg #[.string ByteArray.empty, .int .i64 0, .int .i64 0]], []⟩ 8 (by kernel_rfl) (by kernel_rfl) (by kernel_rfl) (by kernel_rfl)) ?_
  intro W base args ds gs before hval0 hW hcnd hsz0 _
  have hsz : (DataW.weightsEach Try.prog (Try.f7.params.toList ++ Rows.seekRootsSpec.plain.varTypes Try.prog) (ds ++ gs)).all (· ≤ reachBytes) = true := hsz0
  have hval : ∀ (j : Nat) t v, Try.f7.params[j]? = some t → args[j]? = some v → Value.okWide Try.prog W .any base t v := hval0
  have hW' := hW
  obtain ⟨p, q, hA0, hV, rfl, hfz, hnd⟩ := hW
  have hA : DataW.TrodAll enc Try.prog W 0 (fun _ => true) true Try.f7.params.toList args.toList ds p := hA0
  rw [Try.params7] at hA hval hsz
  obtain ⟨v0, vs0, d0, ds0, p0, q0, hargs, rfl, rfl, h0, r0⟩ := trodAll_cons hA
  obtain ⟨v1, vs1, d1, ds1, p1, q1, rfl, rfl, rfl, h1, r1⟩ := trodAll_cons r0
  obtain ⟨v2, vs2, d2, ds2, p2, q2, rfl, rfl, rfl, h2, r2⟩ := trodAll_cons r1
  obtain ⟨rfl, rfl, rfl⟩ := trodAll_nil r2
  obtain rfl : args = #[v0, v1, v2] := by cases args; simp_all
  obtain ⟨rfl, rfl⟩ := trodVars_none hV
  have k0 := h0
  have lt0 : ∀ x ∈ p0, x.block < W.heap.size := by obtain ⟨m, hm⟩ := k0; exact DataW.trod_lt m _ _ _ hm
  have hz0 := vF hsz (j := 0) (t := 25) (d := d0) rfl rfl
  obtain ⟨a0, ahA, cap0, rfl⟩ := okWide_slice Try.underlying25 (hval 0 25 v0 rfl rfl)
  obtain ⟨abe, hf0⟩ := h0
  obtain ⟨x0, hr0, hg0⟩ := opD enc W _ _ abe _ _ hf0 hz0
  obtain ⟨a1, rfl, rfl, rfl, w1⟩ := open_int Try.underlying3 (hval 1 3 v1 rfl rfl) h1
  have k2 := h2
  have lt2 : ∀ x ∈ p2, x.block < W.heap.size := by obtain ⟨m, hm⟩ := k2; exact DataW.trod_lt m _ _ _ hm
  have hz2 := vF hsz (j := 2) (t := 24) (d := d2) rfl rfl
  obtain ⟨cs2, rfl⟩ := yJ Try.underlying24 (hval 2 24 v2 rfl rfl)
  obtain ⟨fuel2, hf2⟩ := h2
  obtain ⟨x2, hr2, hg2⟩ := opQ enc W _ _ fuel2 _ _ hf2 hz2
  clear hA0 hval0 hsz0 hsz
  refine (J6 (zS mixed Kd.ents Rk J2 _).1 (Cy (n := 0) Tn hv2 exR (Nat.le_refl 200000000000001) x0 a1 x2 (Nat.le_trans hg0 (by decide))) (ru (EN hr0.1) (ru (EN (x := .int .i64 a1) (by simp only [eO])) (ru (N8 (cs := cs2) hr2) Ka)))).mono fun e W' ⟨he, NA⟩ => ?_
  subst he
  exact ⟨_, rfl, _, _, _, [], _, [], hW', trodAll_mk1 (shut_bool Try.underlying4 _), (trodAll_cons_mk (Old.trod laidOut (by kernel_rfl) (of_decide_eq_true (by kernel_rfl)) k0 NA lt0) (trodAll_cons_mk (shut_int Try.underlying3 w1) (trodAll_cons_mk (Old.trod laidOut (by kernel_rfl) (of_decide_eq_true (by kernel_rfl)) k2 NA lt2) trodAll_mk0))), rfl, NA.frame _, fun h => by cases h⟩
theorem over : Rows.seekRootsRow.holds Try.pinned (OpenSpec.ofChange Rows.seekRootsSpec) :=
  OpenClaim.holds_of_wide 7 Try.f7 rfl rfl rfl rfl rfl rfl rfl ⟨rfl, rfl, rfl, rfl, rfl⟩ rfl rfl rfl rfl rfl (by kernel_rfl) Try.func7 (by unfold joinedFacts; rw [show Try.pinned.checked.prog.mayEnter = true from May.enters, show Try.pinned.checked.prog.liftsFinal = false from May.lifts, show Try.pinned.checked.prog.make = some .cut from May.makes]; kernel_rfl)
    (of_decide_eq_true (by kernel_rfl)) (by unfold Func.isWrapper; first | (rw [if_pos (by decide +kernel)]; kernel_rfl) | (rw [if_neg (by decide +kernel)]; exact ⟨rfl, rfl⟩))
    (fun os started H enc _ => lifted os started H enc)
theorem proved : Rows.SeekRootsSaid := over
#print axioms proved
end Go.Proofs.Ytfokaoeinpnagaa.seekRoots
namespace Go.Proofs.Ytfokaoeinpnagaa
theorem seekRoots_holds : Rows.SeekRootsSaid := seekRoots.proved
end Go.Proofs.Ytfokaoeinpnagaa

/- The row of ChainFollows. No condition. -/
import Derived.Test.YtfokaoeinpnagaaGreatRows
import Derived.Test.YtfokaoeinpnagaaGreatZMay
import Derived.Test.YtfokaoeinpnagaaGreatZLft
import Derived.Test.YtfokaoeinpnagaaGreatZMak
import Derived.Test.YtfokaoeinpnagaaGreatPCFwsm
import Derived.WalkKit
import Derived.ProofKit
import Derived.OpenShut
import Derived.ShutString
import Derived.ChangeOld
import Derived.SizedLaws
set_option linter.unusedSectionVars false
set_option linter.unusedSimpArgs false
set_option linter.unusedVariables false
namespace Go.Proofs.YtfokaoeinpnagaaGreat.chainFollows
open Go.ChangeShapes Go.WideShapes Go.ChangeAt Go.RowKit Ev Kc
open Go.ChangeMaps (open_string shut_string)
theorem own : ownKnob Tryz.prog.godebug = none := by kernel_rfl
theorem laidOut : laidOutB Tryz.prog = true := by kernel_rfl
set_option maxRecDepth 100000 in
theorem lifted (os : Os) (started : os.Started) (H : Type) (enc : TypeId × Value → H) :
    ReturnsInHanded {} Tryz.checked os 3 .any (Rows.chainFollowsSpec.pre6 enc Tryz.prog Tryz.f3 Rows.chainFollowsRow.domain false) (Rows.chainFollowsSpec.post enc Tryz.prog Tryz.f3 false true false false) := by
  refine returnsInHanded_of_change_sized (C := Tryz.checked) own started (by kernel_rfl) Tryz.func3
    (ChangeSpec.witness6 (enc := enc) (C := Tryz.checked) false ⟨#[], #[.slice none 0 0, .int .i64 0, .agg #[.string ByteArray.empty, .int .i64 0, .int .i64 0]], []⟩ 8 (by kernel_rfl) (by kernel_rfl) (by kernel_rfl) (by kernel_rfl)) ?_
  intro W base args ds gs before hval0 hW hcnd hsz0 _
  have hsz : (DataW.weightsEach Tryz.prog (Tryz.f3.params.toList ++ Rows.chainFollowsSpec.plain.varTypes Tryz.prog) (ds ++ gs)).all (· ≤ reachBytes) = true := hsz0
  have hval : ∀ (j : Nat) t v, Tryz.f3.params[j]? = some t → args[j]? = some v → Value.okWide Tryz.prog W .any base t v := hval0
  have hW' := hW
  obtain ⟨p, q, hA0, hV, rfl, hfz, hnd⟩ := hW
  have hA : DataW.TrodAll enc Tryz.prog W 0 (fun _ => true) true Tryz.f3.params.toList args.toList ds p := hA0
  rw [Tryz.params3] at hA hval hsz
  obtain ⟨v0, vs0, d0, ds0, p0, q0, hargs, rfl, rfl, h0, r0⟩ := trodAll_cons hA
  obtain ⟨v1, vs1, d1, ds1, p1, q1, rfl, rfl, rfl, h1, r1⟩ := trodAll_cons r0
  obtain ⟨v2, vs2, d2, ds2, p2, q2, rfl, rfl, rfl, h2, r2⟩ := trodAll_cons r1
  obtain ⟨rfl, rfl, rfl⟩ := trodAll_nil r2
  obtain rfl : args = #[v0, v1, v2] := by cases args; simp_all
  obtain ⟨rfl, rfl⟩ := trodVars_none hV
  have k0 := h0
  have lt0 : ∀ x ∈ p0, x.block < W.heap.size := by obtain ⟨m, hm⟩ := k0; exact DataW.trod_lt m _ _ _ hm
  have hz0 := yu hsz (j := 0) (t := 22) (d := d0) rfl rfl
  obtain ⟨a0, alu, cap0, rfl⟩ := okWide_slice Tryz.underlying22 (hval 0 22 v0 rfl rfl)
  obtain ⟨aem, hf0⟩ := h0
  obtain ⟨x0, hr0, hg0⟩ := ai6 enc W _ _ aem _ _ hf0 hz0
  obtain ⟨a1, rfl, rfl, rfl, w1⟩ := open_int Tryz.underlying3 (hval 1 3 v1 rfl rfl) h1
  have k2 := h2
  have lt2 : ∀ x ∈ p2, x.block < W.heap.size := by obtain ⟨m, hm⟩ := k2; exact DataW.trod_lt m _ _ _ hm
  have hz2 := yu hsz (j := 2) (t := 24) (d := d2) rfl rfl
  obtain ⟨cs2, rfl⟩ := Ba Tryz.underlying24 (hval 2 24 v2 rfl rfl)
  obtain ⟨fuel2, hf2⟩ := h2
  obtain ⟨x2, hr2, hg2⟩ := opQ enc W _ _ fuel2 _ _ hf2 hz2
  clear hA0 hval0 hsz0 hsz
  refine (MV (Ov mixed ents Vi MU _).1 (yH (n := 0) Zy ZA Zz Vj ZB Vk (Nat.le_refl 200000000000001) x0 a1 x2 (Nat.le_trans hg0.1 (by decide)) (fun x hx => Nat.le_trans (hg0.2 x hx) (by decide))) (uJ (HV hr0.1) (uJ (HV (x := .int .i64 a1) (by simp only [fU])) (uJ (Rb (cs := cs2) hr2) MX)))).mono fun e W' ⟨he, QI⟩ => ?_
  subst he
  exact ⟨_, rfl, _, _, _, [], _, [], hW', trodAll_mk1 (shut_bool Tryz.underlying4 _), (trodAll_cons_mk (Old.trod laidOut (by kernel_rfl) (of_decide_eq_true (by kernel_rfl)) k0 QI lt0) (trodAll_cons_mk (shut_int Tryz.underlying3 w1) (trodAll_cons_mk (Old.trod laidOut (by kernel_rfl) (of_decide_eq_true (by kernel_rfl)) k2 QI lt2) trodAll_mk0))), rfl, QI.frame _, fun h => by cases h⟩
theorem over : Rows.chainFollowsRow.holds Tryz.pinned (OpenSpec.ofChange Rows.chainFollowsSpec) :=
  OpenClaim.holds_of_wide 3 Tryz.f3 rfl rfl rfl rfl rfl rfl rfl ⟨rfl, rfl, rfl, rfl, rfl⟩ rfl rfl rfl rfl rfl (by kernel_rfl) Tryz.func3 (by unfold joinedFacts; rw [show Tryz.pinned.checked.prog.mayEnter = true from May.enters, show Tryz.pinned.checked.prog.liftsFinal = false from May.lifts, show Tryz.pinned.checked.prog.make = some .cut from May.makes]; kernel_rfl)
    (of_decide_eq_true (by kernel_rfl)) (by unfold Func.isWrapper; first | (rw [if_pos (by decide +kernel)]; kernel_rfl) | (rw [if_neg (by decide +kernel)]; exact ⟨rfl, rfl⟩))
    (fun os started H enc _ => lifted os started H enc)
theorem proved : Rows.ChainFollowsSaid := over
#print axioms proved
end Go.Proofs.YtfokaoeinpnagaaGreat.chainFollows
namespace Go.Proofs.YtfokaoeinpnagaaGreat
theorem chainFollows_holds : Rows.ChainFollowsSaid := chainFollows.proved
end Go.Proofs.YtfokaoeinpnagaaGreat

/- The row of ChainAlias. No condition. -/
import Derived.Test.YtfokaoeinpnagaaRows
import Derived.Test.YtfokaoeinpnagaaZMay
import Derived.Test.YtfokaoeinpnagaaZLft
import Derived.Test.YtfokaoeinpnagaaZMak
import Derived.Test.YtfokaoeinpnagaaPCAasi
import Derived.Test.YtfokaoeinpnagaaPCAasm
import Derived.WalkKit
import Derived.ProofKit
import Derived.OpenShut
import Derived.ShutString
import Derived.ChangeOld
import Derived.SizedLaws
set_option linter.unusedSectionVars false
set_option linter.unusedSimpArgs false
set_option linter.unusedVariables false
namespace Go.Proofs.Ytfokaoeinpnagaa.chainAlias
open Go.ChangeShapes Go.WideShapes Go.ChangeAt Go.RowKit Ev Kc
open Go.ChangeMaps (open_string shut_string)
theorem own : ownKnob Try.prog.godebug = none := by kernel_rfl
theorem laidOut : laidOutB Try.prog = true := by kernel_rfl
set_option maxRecDepth 100000 in
theorem lifted (os : Os) (started : os.Started) (H : Type) (enc : TypeId × Value → H) :
    ReturnsInHanded {} Try.checked os 5 .any (Rows.chainAliasSpec.pre6 enc Try.prog Try.f5 Rows.chainAliasRow.domain false) (Rows.chainAliasSpec.post enc Try.prog Try.f5 false true false false) := by
  refine returnsInHanded_of_change_sized (C := Try.checked) own started (by kernel_rfl) Try.func5
    (ChangeSpec.witness6 (enc := enc) (C := Try.checked) false ⟨#[], #[.slice none 0 0, .int .i64 0, .agg #[.string ByteArray.empty, .int .i64 0, .int .i64 0]], []⟩ 8 (by kernel_rfl) (by kernel_rfl) (by kernel_rfl) (by kernel_rfl)) ?_
  intro W base args ds gs before hval0 hW hcnd hsz0 _
  have hsz : (DataW.weightsEach Try.prog (Try.f5.params.toList ++ Rows.chainAliasSpec.plain.varTypes Try.prog) (ds ++ gs)).all (· ≤ reachBytes) = true := hsz0
  have hval : ∀ (j : Nat) t v, Try.f5.params[j]? = some t → args[j]? = some v → Value.okWide Try.prog W .any base t v := hval0
  have hW' := hW
  obtain ⟨p, q, hA0, hV, rfl, hfz, hnd⟩ := hW
  have hA : DataW.TrodAll enc Try.prog W 0 (fun _ => true) true Try.f5.params.toList args.toList ds p := hA0
  rw [Try.params5] at hA hval hsz
  obtain ⟨v0, vs0, d0, ds0, p0, q0, hargs, rfl, rfl, h0, r0⟩ := trodAll_cons hA
  obtain ⟨v1, vs1, d1, ds1, p1, q1, rfl, rfl, rfl, h1, r1⟩ := trodAll_cons r0
  obtain ⟨v2, vs2, d2, ds2, p2, q2, rfl, rfl, rfl, h2, r2⟩ := trodAll_cons r1
  obtain ⟨rfl, rfl, rfl⟩ := trodAll_nil r2
  obtain rfl : args = #[v0, v1, v2] := by cases args; simp_all
  obtain ⟨rfl, rfl⟩ := trodVars_none hV
  have k0 := h0
  have lt0 : ∀ x ∈ p0, x.block < W.heap.size := by obtain ⟨m, hm⟩ := k0; exact DataW.trod_lt m _ _ _ hm
  have hz0 := wJ hsz (j := 0) (t := 47) (d := d0) rfl rfl
  obtain ⟨a0, aiy, cap0, rfl⟩ := okWide_slice Try.underlying47 (hval 0 47 v0 rfl rfl)
  obtain ⟨abZ, hf0⟩ := h0
  obtain ⟨x0, hr0, hg0⟩ := agc enc W _ _ abZ _ _ hf0 hz0
  obtain ⟨a1, rfl, rfl, rfl, w1⟩ := open_int Try.underlying3 (hval 1 3 v1 rfl rfl) h1
  have k2 := h2
  have lt2 : ∀ x ∈ p2, x.block < W.heap.size := by obtain ⟨m, hm⟩ := k2; exact DataW.trod_lt m _ _ _ hm
  have hz2 := wJ hsz (j := 2) (t := 24) (d := d2) rfl rfl
  obtain ⟨cs2, rfl⟩ := zF Try.underlying24 (hval 2 24 v2 rfl rfl)
  obtain ⟨fuel2, hf2⟩ := h2
  obtain ⟨x2, hr2, hg2⟩ := opQ enc W _ _ fuel2 _ _ hf2 hz2
  clear hA0 hval0 hsz0 hsz
  refine (KE (LZ mixed ents Sc Kz _).1 (zW (n := 0) W9 Xb Xa Sd Xc Sl Xf (Nat.le_refl 200000000000001) x0 a1 x2 (Nat.le_trans hg0.1 (by decide)) (fun x hx => Nat.le_trans (hg0.2 x hx) (by decide))) (sF (Fx hr0.1) (sF (Fx (x := .int .i64 a1) (by simp only [fB])) (sF (Ox (cs := cs2) hr2) KG)))).mono fun e W' ⟨he, NY⟩ => ?_
  subst he
  exact ⟨_, rfl, _, _, _, [], _, [], hW', trodAll_mk1 (shut_bool Try.underlying4 _), (trodAll_cons_mk (Old.trod laidOut (by kernel_rfl) (of_decide_eq_true (by kernel_rfl)) k0 NY lt0) (trodAll_cons_mk (shut_int Try.underlying3 w1) (trodAll_cons_mk (Old.trod laidOut (by kernel_rfl) (of_decide_eq_true (by kernel_rfl)) k2 NY lt2) trodAll_mk0))), rfl, NY.frame _, fun h => by cases h⟩
theorem over : Rows.chainAliasRow.holds Try.pinned (OpenSpec.ofChange Rows.chainAliasSpec) :=
  OpenClaim.holds_of_wide 5 Try.f5 rfl rfl rfl rfl rfl rfl rfl ⟨rfl, rfl, rfl, rfl, rfl⟩ rfl rfl rfl rfl rfl (by kernel_rfl) Try.func5 (by unfold joinedFacts; rw [show Try.pinned.checked.prog.mayEnter = true from May.enters, show Try.pinned.checked.prog.liftsFinal = false from May.lifts, show Try.pinned.checked.prog.make = some .cut from May.makes]; kernel_rfl)
    (of_decide_eq_true (by kernel_rfl)) (by unfold Func.isWrapper; first | (rw [if_pos (by decide +kernel)]; kernel_rfl) | (rw [if_neg (by decide +kernel)]; exact ⟨rfl, rfl⟩))
    (fun os started H enc _ => lifted os started H enc)
theorem proved : Rows.ChainAliasSaid := over
#print axioms proved
end Go.Proofs.Ytfokaoeinpnagaa.chainAlias
namespace Go.Proofs.Ytfokaoeinpnagaa
theorem chainAlias_holds : Rows.ChainAliasSaid := chainAlias.proved
end Go.Proofs.Ytfokaoeinpnagaa

/- The row of NegNil. No condition. -/
import Derived.Test.YtdkkgecdhapfhaaRows
import Derived.Test.YtdkkgecdhapfhaaZMay
import Derived.Test.YtdkkgecdhapfhaaZLft
import Derived.Test.YtdkkgecdhapfhaaZMak
import Derived.Test.YtdkkgecdhapfhaaPNNilh
import Derived.Test.YtdkkgecdhapfhaaPNNill
import Derived.WalkKit
import Derived.ProofKit
import Derived.OpenShut
import Derived.ShutString
import Derived.ChangeOld
import Derived.SizedLaws
set_option linter.unusedSectionVars false
set_option linter.unusedSimpArgs false
set_option linter.unusedVariables false
namespace Go.Proofs.Ytdkkgecdhapfhaa.negNil
open Go.ChangeShapes Go.WideShapes Go.ChangeAt Go.RowKit Ev Kn
open Go.ChangeMaps (open_string shut_string)
theorem own : ownKnob Try.prog.godebug = none := by kernel_rfl
theorem laidOut : laidOutB Try.prog = true := by kernel_rfl
set_option maxRecDepth 100000 in
theorem lifted (os : Os) (started : os.Started) (H : Type) (enc : TypeId × Value → H) :
    ReturnsInHanded {} Try.checked os 11 .any (Rows.negNilSpec.pre6 enc Try.prog Try.f11 Rows.negNilRow.domain false) (Rows.negNilSpec.post enc Try.prog Try.f11 false true false false) := by
  refine returnsInHanded_of_change_sized (C := Try.checked) own started (by kernel_rfl) Try.func11
    (ChangeSpec.witness6 (enc := enc) (C := Try.checked) false ⟨#[], #[.agg #[.int .i64 0, .int .i64 0, .string ByteArray.empty, .int .i64 0, .int .i64 0, .bool false, .string ByteArray.empty, .int .i64 0, .int .i64 0, .slice none 0 0, .int .i64 0]], []⟩ 8 (by kernel_rfl) (by kernel_rfl) (by kernel_rfl) (by kernel_rfl)) ?_
  intro W base args ds gs before hval0 hW hcnd hsz0 _
  have hsz : (DataW.weightsEach Try.prog (Try.f11.params.toList ++ Rows.negNilSpec.plain.varTypes Try.prog) (ds ++ gs)).all (· ≤ reachBytes) = true := hsz0
  have hval : ∀ (j : Nat) t v, Try.f11.params[j]? = some t → args[j]? = some v → Value.okWide Try.prog W .any base t v := hval0
  have hW' := hW
  obtain ⟨p, q, hA0, hV, rfl, hfz, hnd⟩ := hW
  have hA : DataW.TrodAll enc Try.prog W 0 (fun _ => true) true Try.f11.params.toList args.toList ds p := hA0
  rw [Try.params11] at hA hval hsz
  obtain ⟨v0, vs0, d0, ds0, p0, q0, hargs, rfl, rfl, h0, r0⟩ := trodAll_cons hA
  obtain ⟨rfl, rfl, rfl⟩ := trodAll_nil r0
  obtain rfl : args = #[v0] := by cases args; simp_all
  obtain ⟨rfl, rfl⟩ := trodVars_none hV
  have k0 := h0
  have lt0 : ∀ x ∈ p0, x.block < W.heap.size := by obtain ⟨m, hm⟩ := k0; exact DataW.trod_lt m _ _ _ hm
  have hz0 := EI hsz (j := 0) (t := 80) (d := d0) rfl rfl
  obtain ⟨cs0, rfl⟩ := ze Try.underlying80 (hval 0 80 v0 rfl rfl)
  obtain ⟨aaR, hf0⟩ := h0
  obtain ⟨x0, hr0, hg0⟩ := opO enc W _ _ aaR _ _ hf0 hz0
  clear hA0 hval0 hsz0 hsz
  refine (J3 (Lg mixed ents QV J2 _).1 (Jm (n := 0) VE VH VF Nn QW (Nat.le_refl 200000000000001) x0 (Nat.le_trans hg0 (by decide))) (Gh (Nq (cs := cs0) hr0) J6)).mono fun e W' ⟨he, Nz⟩ => ?_
  subst he
  exact ⟨_, rfl, _, _, _, [], _, [], hW', trodAll_mk1 (shut_bool Try.underlying4 _), (trodAll_cons_mk (Old.trod laidOut (by kernel_rfl) (of_decide_eq_true (by kernel_rfl)) k0 Nz lt0) trodAll_mk0), rfl, Nz.frame _, fun h => by cases h⟩
theorem over : Rows.negNilRow.holds Try.pinned (OpenSpec.ofChange Rows.negNilSpec) :=
  OpenClaim.holds_of_wide 11 Try.f11 rfl rfl rfl rfl rfl rfl rfl ⟨rfl, rfl, rfl, rfl, rfl⟩ rfl rfl rfl rfl rfl (by kernel_rfl) Try.func11 (by unfold joinedFacts; rw [show Try.pinned.checked.prog.mayEnter = true from May.enters, show Try.pinned.checked.prog.liftsFinal = false from May.lifts, show Try.pinned.checked.prog.make = some .cut from May.makes]; kernel_rfl)
    (of_decide_eq_true (by kernel_rfl)) (by unfold Func.isWrapper; first | (rw [if_pos (by decide +kernel)]; kernel_rfl) | (rw [if_neg (by decide +kernel)]; exact ⟨rfl, rfl⟩))
    (fun os started H enc _ => lifted os started H enc)
theorem proved : Rows.NegNilSaid := over
#print axioms proved
end Go.Proofs.Ytdkkgecdhapfhaa.negNil
namespace Go.Proofs.Ytdkkgecdhapfhaa
theorem negNil_holds : Rows.NegNilSaid := negNil.proved
end Go.Proofs.Ytdkkgecdhapfhaa

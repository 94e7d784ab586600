/- The row of StoreNil. No condition. -/
import Derived.Test.YtdkkgecdhapfhaaRows
import Derived.Test.YtdkkgecdhapfhaaZMay
import Derived.Test.YtdkkgecdhapfhaaZLft
import Derived.Test.YtdkkgecdhapfhaaZMak
import Derived.Test.YtdkkgecdhapfhaaPSNili
import Derived.Test.YtdkkgecdhapfhaaPSNiln
import Derived.WalkKit
import Derived.ProofKit
import Derived.OpenShut
import Derived.ShutString
import Derived.ChangeOld
import Derived.SizedLaws
set_option linter.unusedSectionVars false
set_option linter.unusedSimpArgs false
set_option linter.unusedVariables false
namespace Go.Proofs.Ytdkkgecdhapfhaa.storeNil
open Go.ChangeShapes Go.WideShapes Go.ChangeAt Go.RowKit Ev Ka
open Go.ChangeMaps (open_string shut_string)
theorem own : ownKnob Try.prog.godebug = none := by kernel_rfl
theorem laidOut : laidOutB Try.prog = true := by kernel_rfl
set_option maxRecDepth 100000 in
theorem lifted (os : Os) (started : os.Started) (H : Type) (enc : TypeId × Value → H) :
    ReturnsInHanded {} Try.checked os 6 .any (Rows.storeNilSpec.pre6 enc Try.prog Try.f6 Rows.storeNilRow.domain false) (Rows.storeNilSpec.post enc Try.prog Try.f6 false true false false) := by
  refine returnsInHanded_of_change_sized (C := Try.checked) own started (by kernel_rfl) Try.func6
    (ChangeSpec.witness6 (enc := enc) (C := Try.checked) false ⟨#[], #[.agg #[.int .i64 0, .int .i64 0, .string ByteArray.empty, .int .i64 0, .int .i64 0, .slice none 0 0, .int .i64 0, .int .i64 0]], []⟩ 8 (by kernel_rfl) (by kernel_rfl) (by kernel_rfl) (by kernel_rfl)) ?_
  intro W base args ds gs before hval0 hW hcnd hsz0 _
  have hsz : (DataW.weightsEach Try.prog (Try.f6.params.toList ++ Rows.storeNilSpec.plain.varTypes Try.prog) (ds ++ gs)).all (· ≤ reachBytes) = true := hsz0
  have hval : ∀ (j : Nat) t v, Try.f6.params[j]? = some t → args[j]? = some v → Value.okWide Try.prog W .any base t v := hval0
  have hW' := hW
  obtain ⟨p, q, hA0, hV, rfl, hfz, hnd⟩ := hW
  have hA : DataW.TrodAll enc Try.prog W 0 (fun _ => true) true Try.f6.params.toList args.toList ds p := hA0
  rw [Try.params6] at hA hval hsz
  obtain ⟨v0, vs0, d0, ds0, p0, q0, hargs, rfl, rfl, h0, r0⟩ := trodAll_cons hA
  obtain ⟨rfl, rfl, rfl⟩ := trodAll_nil r0
  obtain rfl : args = #[v0] := by cases args; simp_all
  obtain ⟨rfl, rfl⟩ := trodVars_none hV
  have k0 := h0
  have lt0 : ∀ x ∈ p0, x.block < W.heap.size := by obtain ⟨m, hm⟩ := k0; exact DataW.trod_lt m _ _ _ hm
  have hz0 := DX hsz (j := 0) (t := 37) (d := d0) rfl rfl
  obtain ⟨cs0, rfl⟩ := yx Try.underlying37 (hval 0 37 v0 rfl rfl)
  obtain ⟨Zm, hf0⟩ := h0
  obtain ⟨x0, hr0, hg0⟩ := opO enc W _ _ Zm _ _ hf0 hz0
  clear hA0 hval0 hsz0 hsz
  refine (IV (J6 mixed ents Pn IU _).1 (Da (n := 0) Po Uh Pp (Nat.le_refl 200000000000001) x0 (Nat.le_trans hg0 (by decide))) (Fe (LX (cs := cs0) hr0) IZ)).mono fun e W' ⟨he, L9⟩ => ?_
  subst he
  exact ⟨_, rfl, _, _, _, [], _, [], hW', trodAll_mk1 (shut_bool Try.underlying4 _), (trodAll_cons_mk (Old.trod laidOut (by kernel_rfl) (of_decide_eq_true (by kernel_rfl)) k0 L9 lt0) trodAll_mk0), rfl, L9.frame _, fun h => by cases h⟩
theorem over : Rows.storeNilRow.holds Try.pinned (OpenSpec.ofChange Rows.storeNilSpec) :=
  OpenClaim.holds_of_wide 6 Try.f6 rfl rfl rfl rfl rfl rfl rfl ⟨rfl, rfl, rfl, rfl, rfl⟩ rfl rfl rfl rfl rfl (by kernel_rfl) Try.func6 (by unfold joinedFacts; rw [show Try.pinned.checked.prog.mayEnter = true from May.enters, show Try.pinned.checked.prog.liftsFinal = false from May.lifts, show Try.pinned.checked.prog.make = some .cut from May.makes]; kernel_rfl)
    (of_decide_eq_true (by kernel_rfl)) (by unfold Func.isWrapper; first | (rw [if_pos (by decide +kernel)]; kernel_rfl) | (rw [if_neg (by decide +kernel)]; exact ⟨rfl, rfl⟩))
    (fun os started H enc _ => lifted os started H enc)
theorem proved : Rows.StoreNilSaid := over
#print axioms proved
end Go.Proofs.Ytdkkgecdhapfhaa.storeNil
namespace Go.Proofs.Ytdkkgecdhapfhaa
theorem storeNil_holds : Rows.StoreNilSaid := storeNil.proved
end Go.Proofs.Ytdkkgecdhapfhaa

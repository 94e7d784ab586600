-- Written by a program of this session (wip/tools/myprint.py), over the kit's printer; Lean checks it.
import Derived.Test.YtdkkanpbcifkfaaRows
import Derived.Test.YtdkkanpbcifkfaaZMay
import Derived.Test.YtdkkanpbcifkfaaZLft
import Derived.Test.YtdkkanpbcifkfaaZMak
import Derived.Test.YtdkkanpbcifkfaaZQ15
import Derived.Test.YtdkkanpbcifkfaaZLawDatA
import Derived.Test.YtdkkanpbcifkfaaZQOp
import Derived.Test.YtdkkanpbcifkfaaZOpn
import Derived.WalkKit
import Derived.ProofKit
import Derived.OpenShut
import Derived.ShutString
import Derived.ChangeOld
import Derived.Below
import Derived.SizedLaws
namespace Go.Proofs.Ytdkkanpbcifkfaa.dataExpands
open Go.ChangeShapes Go.WideShapes Go.ChangeAt Go.RowKit
open Go.ChangeMaps (open_string shut_string)
open Go.Proofs.Ytdkkanpbcifkfaa.ZQ Go.Proofs.YtdkkanpbcifkfaaW.PrintWords
set_option linter.unusedVariables false
theorem own : ownKnob Try.prog.godebug = none := by kernel_rfl
theorem laidOut : laidOutB Try.prog = true := by kernel_rfl
set_option maxRecDepth 100000 in
theorem lifted (os : Os) (started : os.Started) (H : Type) (enc : TypeId × Value → H) :
    ReturnsInHanded {} Try.checked os 9 .any (Rows.dataExpandsSpec.pre6 enc Try.prog Try.f9 Rows.dataExpandsRow.domain false) (Rows.dataExpandsSpec.post enc Try.prog Try.f9 false true false false) := by
  refine returnsInHanded_of_change_sized (C := Try.checked) own started (by kernel_rfl) Try.func9
    (ChangeSpec.witness6 (enc := enc) (C := Try.checked) false ⟨#[], #[.string ByteArray.empty, .agg #[.int .i64 0, .int .i64 0], .int .i64 0], []⟩ 8 (by kernel_rfl) (by kernel_rfl) (by kernel_rfl) (by kernel_rfl)) ?_
  intro W base args ds gs before hval0 hW hcnd hsz0 _
  have hsz : (DataW.weightsEach Try.prog (Try.f9.params.toList ++ Rows.dataExpandsSpec.plain.varTypes Try.prog) (ds ++ gs)).all (· ≤ reachBytes) = true := hsz0
  have hval : ∀ (j : Nat) t v, Try.f9.params[j]? = some t → args[j]? = some v → Value.okWide Try.prog W .any base t v := hval0
  have hW' := hW
  obtain ⟨p, q, hA0, hV, rfl, hfz, hnd⟩ := hW
  have hA : DataW.TrodAll enc Try.prog W 0 (fun _ => true) true Try.f9.params.toList args.toList ds p := hA0
  rw [Try.params9] at hA hval hsz
  obtain ⟨v0, vs0, d0, ds0, p0, q0, hargs, rfl, rfl, h0, r0⟩ := trodAll_cons hA
  obtain ⟨v1, vs1, d1, ds1, p1, q1, rfl, rfl, rfl, h1, r1⟩ := trodAll_cons r0
  obtain ⟨v2, vs2, d2, ds2, p2, q2, rfl, rfl, rfl, h2, r2⟩ := trodAll_cons r1
  obtain ⟨rfl, rfl, rfl⟩ := trodAll_nil r2
  obtain rfl : args = #[v0, v1, v2] := by cases args; simp_all
  obtain ⟨rfl, rfl⟩ := trodVars_none hV
  obtain ⟨a0, rfl, rfl, rfl, y0⟩ := open_string Try.underlying9 (hval 0 9 v0 rfl rfl) h0
  have w0 : a0.size ≤ 140737488351232 := by
    have z := sized_string hsz (j := 0) (t := 9) rfl rfl
    rw [Array.length_toList] at z
    exact z
  have k1 := h1
  have lt1 : ∀ x ∈ p1, x.block < W.heap.size := by obtain ⟨m, hm⟩ := k1; exact DataW.trod_lt m _ _ _ hm
  have hz1 := B.weights_in hsz (j := 1) (t := 35) (d := d1) rfl rfl
  obtain ⟨cs1, rfl, _⟩ := B.okWide_array' Try.underlying35 (hval 1 35 v1 rfl rfl)
  obtain ⟨fuel1, hf1⟩ := h1
  obtain ⟨x1, hK1, hg1⟩ := op35 enc W _ _ fuel1 _ _ hf1 hz1
  obtain hcs1 := k35_open hK1
  obtain rfl : cs1 = #[.int .i64 x1.f0, .int .i64 x1.f1] := Array.toList_inj.mp (by simpa [Value.cells] using hcs1)
  obtain ⟨a2, rfl, rfl, rfl, w2⟩ := open_int Try.underlying3 (hval 2 3 v2 rfl rfl) h2
  clear hA0 hval0 hsz0 hsz
  obtain ⟨k, hk⟩ := ZQ.DataExpands a0 x1.f0 x1.f1 a2 w0 hg1.1 hg1.2 w2
  refine (wellspringlaw05_DataExpands.calls k a0 x1.f0 x1.f1 a2 true W hk).mono fun e W' ⟨he, bel0⟩ => ?_
  have bel : Below W.heap.size W W' := bel0
  subst he
  exact ⟨_, rfl, _, _, _, [], _, [], hW', trodAll_mk1 (shut_bool Try.underlying4 _), (trodAll_cons_mk (shut_string Try.underlying9 y0) (trodAll_cons_mk (Below.trod laidOut (by kernel_rfl) (of_decide_eq_true (by kernel_rfl)) k1 bel lt1) (trodAll_cons_mk (shut_int Try.underlying3 w2) trodAll_mk0))), rfl, bel.frame _, fun h => by cases h⟩
theorem over : Rows.dataExpandsRow.holds Try.pinned (OpenSpec.ofChange Rows.dataExpandsSpec) :=
  OpenClaim.holds_of_wide 9 Try.f9 rfl rfl rfl rfl rfl rfl rfl ⟨rfl, rfl, rfl, rfl, rfl⟩ rfl rfl rfl rfl rfl (by kernel_rfl) Try.func9 (by unfold joinedFacts; rw [show Try.pinned.checked.prog.mayEnter = true from May.enters, show Try.pinned.checked.prog.liftsFinal = false from May.lifts, show Try.pinned.checked.prog.make = some .cut from May.makes]; kernel_rfl)
    (of_decide_eq_true (by kernel_rfl)) (by unfold Func.isWrapper; first | (rw [if_pos (by decide +kernel)]; kernel_rfl) | (rw [if_neg (by decide +kernel)]; exact ⟨rfl, rfl⟩))
    (fun os started H enc _ => lifted os started H enc)
theorem proved : Rows.DataExpandsSaid := over
#print axioms proved
end Go.Proofs.Ytdkkanpbcifkfaa.dataExpands
namespace Go.Proofs.Ytdkkanpbcifkfaa
/-- The row, under a short name, for the claim. -/
theorem dataExpands_holds : Rows.DataExpandsSaid := dataExpands.proved
end Go.Proofs.Ytdkkanpbcifkfaa

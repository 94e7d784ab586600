/- The row of NegScripts. No condition. -/
import Derived.Test.YtdkkgecdhapfhaaRows
import Derived.Test.YtdkkgecdhapfhaaZMay
import Derived.Test.YtdkkgecdhapfhaaZLft
import Derived.Test.YtdkkgecdhapfhaaZMak
import Derived.Test.YtdkkgecdhapfhaaPNStsh
import Derived.Test.YtdkkgecdhapfhaaPNStsl
import Derived.WalkKit
import Derived.ProofKit
import Derived.OpenShut
import Derived.ShutString
import Derived.ChangeOld
import Derived.SizedLaws
set_option linter.unusedSectionVars false
set_option linter.unusedSimpArgs false
set_option linter.unusedVariables false
namespace Go.Proofs.Ytdkkgecdhapfhaa.negScripts
open Go.ChangeShapes Go.WideShapes Go.ChangeAt Go.RowKit Ev Kn
open Go.ChangeMaps (open_string shut_string)
theorem own : ownKnob Try.prog.godebug = none := by kernel_rfl
theorem laidOut : laidOutB Try.prog = true := by kernel_rfl
set_option maxRecDepth 100000 in
theorem lifted (os : Os) (started : os.Started) (H : Type) (enc : TypeId × Value → H) :
    ReturnsInHanded {} Try.checked os 9 .any (Rows.negScriptsSpec.pre6 enc Try.prog Try.f9 Rows.negScriptsRow.domain false) (Rows.negScriptsSpec.post enc Try.prog Try.f9 false true false false) := by
  refine returnsInHanded_of_change_sized (C := Try.checked) own started (by kernel_rfl) Try.func9
    (ChangeSpec.witness6 (enc := enc) (C := Try.checked) false ⟨#[], #[.int .i64 0, .slice none 0 0], []⟩ 8 (by kernel_rfl) (by kernel_rfl) (by kernel_rfl) (by kernel_rfl)) ?_
  intro W base args ds gs before hval0 hW hcnd hsz0 _
  have hsz : (DataW.weightsEach Try.prog (Try.f9.params.toList ++ Rows.negScriptsSpec.plain.varTypes Try.prog) (ds ++ gs)).all (· ≤ reachBytes) = true := hsz0
  have hval : ∀ (j : Nat) t v, Try.f9.params[j]? = some t → args[j]? = some v → Value.okWide Try.prog W .any base t v := hval0
  have hW' := hW
  obtain ⟨p, q, hA0, hV, rfl, hfz, hnd⟩ := hW
  have hA : DataW.TrodAll enc Try.prog W 0 (fun _ => true) true Try.f9.params.toList args.toList ds p := hA0
  rw [Try.params9] at hA hval hsz
  obtain ⟨v0, vs0, d0, ds0, p0, q0, hargs, rfl, rfl, h0, r0⟩ := trodAll_cons hA
  obtain ⟨v1, vs1, d1, ds1, p1, q1, rfl, rfl, rfl, h1, r1⟩ := trodAll_cons r0
  obtain ⟨rfl, rfl, rfl⟩ := trodAll_nil r1
  obtain rfl : args = #[v0, v1] := by cases args; simp_all
  obtain ⟨rfl, rfl⟩ := trodVars_none hV
  obtain ⟨a0, rfl, rfl, rfl, w0⟩ := open_int Try.underlying3 (hval 0 3 v0 rfl rfl) h0
  have k1 := h1
  have lt1 : ∀ x ∈ p1, x.block < W.heap.size := by obtain ⟨m, hm⟩ := k1; exact DataW.trod_lt m _ _ _ hm
  have hz1 := Gb hsz (j := 1) (t := 71) (d := d1) rfl rfl
  obtain ⟨a1, len1, aiF, rfl⟩ := okWide_slice Try.underlying71 (hval 1 71 v1 rfl rfl)
  obtain ⟨fuel1, hf1⟩ := h1
  obtain ⟨x1, hr1, hg1⟩ := opL enc W _ _ fuel1 _ _ hf1 hz1
  clear hA0 hval0 hsz0 hsz
  refine (La (MH mixed ents SF K9 _).1 (Aa (n := 0) Xk Xn Xl OX SG (Nat.le_refl 200000000000001) a0 x1 (Nat.le_trans hg1.1 (by decide)) (fun x hx => Nat.le_trans (hg1.2 x hx) (by decide))) (zM (Gc (x := .int .i64 a0) (by simp only [eZ])) (zM (Gc hr1.1) Lc))).mono fun e W' ⟨he, O8⟩ => ?_
  subst he
  exact ⟨_, rfl, _, _, _, [], _, [], hW', trodAll_mk1 (shut_bool Try.underlying4 _), (trodAll_cons_mk (shut_int Try.underlying3 w0) (trodAll_cons_mk (Old.trod laidOut (by kernel_rfl) (of_decide_eq_true (by kernel_rfl)) k1 O8 lt1) trodAll_mk0)), rfl, O8.frame _, fun h => by cases h⟩
theorem over : Rows.negScriptsRow.holds Try.pinned (OpenSpec.ofChange Rows.negScriptsSpec) :=
  OpenClaim.holds_of_wide 9 Try.f9 rfl rfl rfl rfl rfl rfl rfl ⟨rfl, rfl, rfl, rfl, rfl⟩ rfl rfl rfl rfl rfl (by kernel_rfl) Try.func9 (by unfold joinedFacts; rw [show Try.pinned.checked.prog.mayEnter = true from May.enters, show Try.pinned.checked.prog.liftsFinal = false from May.lifts, show Try.pinned.checked.prog.make = some .cut from May.makes]; kernel_rfl)
    (of_decide_eq_true (by kernel_rfl)) (by unfold Func.isWrapper; first | (rw [if_pos (by decide +kernel)]; kernel_rfl) | (rw [if_neg (by decide +kernel)]; exact ⟨rfl, rfl⟩))
    (fun os started H enc _ => lifted os started H enc)
theorem proved : Rows.NegScriptsSaid := over
#print axioms proved
end Go.Proofs.Ytdkkgecdhapfhaa.negScripts
namespace Go.Proofs.Ytdkkgecdhapfhaa
theorem negScripts_holds : Rows.NegScriptsSaid := negScripts.proved
end Go.Proofs.Ytdkkgecdhapfhaa

/- The row of NegCovers. No condition. -/
import Derived.Test.YtdkkgecdhapfhaaRows
import Derived.Test.YtdkkgecdhapfhaaZMay
import Derived.Test.YtdkkgecdhapfhaaZLft
import Derived.Test.YtdkkgecdhapfhaaZMak
import Derived.Test.YtdkkgecdhapfhaaPNCrsh
import Derived.Test.YtdkkgecdhapfhaaPNCrsl
import Derived.WalkKit
import Derived.ProofKit
import Derived.OpenShut
import Derived.ShutString
import Derived.ChangeOld
import Derived.SizedLaws
set_option linter.unusedSectionVars false
set_option linter.unusedSimpArgs false
set_option linter.unusedVariables false
namespace Go.Proofs.Ytdkkgecdhapfhaa.negCovers
open Go.ChangeShapes Go.WideShapes Go.ChangeAt Go.RowKit Ev Kn
open Go.ChangeMaps (open_string shut_string)
theorem own : ownKnob Try.prog.godebug = none := by kernel_rfl
theorem laidOut : laidOutB Try.prog = true := by kernel_rfl
set_option maxRecDepth 100000 in
theorem lifted (os : Os) (started : os.Started) (H : Type) (enc : TypeId × Value → H) :
    ReturnsInHanded {} Try.checked os 10 .any (Rows.negCoversSpec.pre6 enc Try.prog Try.f10 Rows.negCoversRow.domain false) (Rows.negCoversSpec.post enc Try.prog Try.f10 false true false false) := by
  refine returnsInHanded_of_change_sized (C := Try.checked) own started (by kernel_rfl) Try.func10
    (ChangeSpec.witness6 (enc := enc) (C := Try.checked) false ⟨#[], #[.int .i64 0, .slice none 0 0, .int .i64 0], []⟩ 8 (by kernel_rfl) (by kernel_rfl) (by kernel_rfl) (by kernel_rfl)) ?_
  intro W base args ds gs before hval0 hW hcnd hsz0 _
  have hsz : (DataW.weightsEach Try.prog (Try.f10.params.toList ++ Rows.negCoversSpec.plain.varTypes Try.prog) (ds ++ gs)).all (· ≤ reachBytes) = true := hsz0
  have hval : ∀ (j : Nat) t v, Try.f10.params[j]? = some t → args[j]? = some v → Value.okWide Try.prog W .any base t v := hval0
  have hW' := hW
  obtain ⟨p, q, hA0, hV, rfl, hfz, hnd⟩ := hW
  have hA : DataW.TrodAll enc Try.prog W 0 (fun _ => true) true Try.f10.params.toList args.toList ds p := hA0
  rw [Try.params10] at hA hval hsz
  obtain ⟨v0, vs0, d0, ds0, p0, q0, hargs, rfl, rfl, h0, r0⟩ := trodAll_cons hA
  obtain ⟨v1, vs1, d1, ds1, p1, q1, rfl, rfl, rfl, h1, r1⟩ := trodAll_cons r0
  obtain ⟨v2, vs2, d2, ds2, p2, q2, rfl, rfl, rfl, h2, r2⟩ := trodAll_cons r1
  obtain ⟨rfl, rfl, rfl⟩ := trodAll_nil r2
  obtain rfl : args = #[v0, v1, v2] := by cases args; simp_all
  obtain ⟨rfl, rfl⟩ := trodVars_none hV
  obtain ⟨a0, rfl, rfl, rfl, w0⟩ := open_int Try.underlying3 (hval 0 3 v0 rfl rfl) h0
  have k1 := h1
  have lt1 : ∀ x ∈ p1, x.block < W.heap.size := by obtain ⟨m, hm⟩ := k1; exact DataW.trod_lt m _ _ _ hm
  have hz1 := Fq hsz (j := 1) (t := 71) (d := d1) rfl rfl
  obtain ⟨a1, len1, ahX, rfl⟩ := okWide_slice Try.underlying71 (hval 1 71 v1 rfl rfl)
  obtain ⟨fuel1, hf1⟩ := h1
  obtain ⟨x1, hr1, hg1⟩ := opL enc W _ _ fuel1 _ _ hf1 hz1
  obtain ⟨a2, rfl, rfl, rfl, w2⟩ := open_int Try.underlying3 (hval 2 3 v2 rfl rfl) h2
  clear hA0 hval0 hsz0 hsz
  refine (Kw (LP mixed ents Rw Kv _).1 (Cv (n := 0) Wo Ws Wp NV Rx (Nat.le_refl 200000000000001) a0 x1 a2 (Nat.le_trans hg1.1 (by decide)) (fun x hx => Nat.le_trans (hg1.2 x hx) (by decide))) (sF (zB (x := .int .i64 a0) (by simp only [eX])) (sF (zB hr1.1) (sF (zB (x := .int .i64 a2) (by simp only [eX])) Kz)))).mono fun e W' ⟨he, N9⟩ => ?_
  subst he
  exact ⟨_, rfl, _, _, _, [], _, [], hW', trodAll_mk1 (shut_bool Try.underlying4 _), (trodAll_cons_mk (shut_int Try.underlying3 w0) (trodAll_cons_mk (Old.trod laidOut (by kernel_rfl) (of_decide_eq_true (by kernel_rfl)) k1 N9 lt1) (trodAll_cons_mk (shut_int Try.underlying3 w2) trodAll_mk0))), rfl, N9.frame _, fun h => by cases h⟩
theorem over : Rows.negCoversRow.holds Try.pinned (OpenSpec.ofChange Rows.negCoversSpec) :=
  OpenClaim.holds_of_wide 10 Try.f10 rfl rfl rfl rfl rfl rfl rfl ⟨rfl, rfl, rfl, rfl, rfl⟩ rfl rfl rfl rfl rfl (by kernel_rfl) Try.func10 (by unfold joinedFacts; rw [show Try.pinned.checked.prog.mayEnter = true from May.enters, show Try.pinned.checked.prog.liftsFinal = false from May.lifts, show Try.pinned.checked.prog.make = some .cut from May.makes]; kernel_rfl)
    (of_decide_eq_true (by kernel_rfl)) (by unfold Func.isWrapper; first | (rw [if_pos (by decide +kernel)]; kernel_rfl) | (rw [if_neg (by decide +kernel)]; exact ⟨rfl, rfl⟩))
    (fun os started H enc _ => lifted os started H enc)
theorem proved : Rows.NegCoversSaid := over
#print axioms proved
end Go.Proofs.Ytdkkgecdhapfhaa.negCovers
namespace Go.Proofs.Ytdkkgecdhapfhaa
theorem negCovers_holds : Rows.NegCoversSaid := negCovers.proved
end Go.Proofs.Ytdkkgecdhapfhaa

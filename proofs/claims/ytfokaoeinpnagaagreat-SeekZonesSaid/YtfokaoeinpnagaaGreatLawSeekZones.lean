/- The row of SeekZones. No condition. -/
import Derived.Test.YtfokaoeinpnagaaGreatRows
import Derived.Test.YtfokaoeinpnagaaGreatZMay
import Derived.Test.YtfokaoeinpnagaaGreatZLft
import Derived.Test.YtfokaoeinpnagaaGreatZMak
import Derived.Test.YtfokaoeinpnagaaGreatPSZesl
import Derived.Test.YtfokaoeinpnagaaGreatPSZesk
import Derived.WalkKit
import Derived.ProofKit
import Derived.OpenShut
import Derived.ShutString
import Derived.ChangeOld
import Derived.SizedLaws
set_option linter.unusedSectionVars false
set_option linter.unusedSimpArgs false
set_option linter.unusedVariables false
namespace Go.Proofs.YtfokaoeinpnagaaGreat.seekZones
open Go.ChangeShapes Go.WideShapes Go.ChangeAt Go.RowKit Ev Kd Kc
open Go.ChangeMaps (open_string shut_string)
theorem own : ownKnob Tryz.prog.godebug = none := by kernel_rfl
theorem laidOut : laidOutB Tryz.prog = true := by kernel_rfl
set_option maxRecDepth 100000 in
theorem lifted (os : Os) (started : os.Started) (H : Type) (enc : TypeId × Value → H) :
    ReturnsInHanded {} Tryz.checked os 8 .any (Rows.seekZonesSpec.pre6 enc Tryz.prog Tryz.f8 Rows.seekZonesRow.domain false) (Rows.seekZonesSpec.post enc Tryz.prog Tryz.f8 false true false false) := by
  refine returnsInHanded_of_change_sized (C := Tryz.checked) own started (by kernel_rfl) Tryz.func8
    (ChangeSpec.witness6 (enc := enc) (C := Tryz.checked) false ⟨#[], #[.agg #[.slice none 0 0, .int .i64 0, .slice none 0 0, .int .i64 0], .string ByteArray.empty], []⟩ 8 (by kernel_rfl) (by kernel_rfl) (by kernel_rfl) (by kernel_rfl)) ?_
  intro W base args ds gs before hval0 hW hcnd hsz0 _
  have hsz : (DataW.weightsEach Tryz.prog (Tryz.f8.params.toList ++ Rows.seekZonesSpec.plain.varTypes Tryz.prog) (ds ++ gs)).all (· ≤ reachBytes) = true := hsz0
  have hval : ∀ (j : Nat) t v, Tryz.f8.params[j]? = some t → args[j]? = some v → Value.okWide Tryz.prog W .any base t v := hval0
  have hW' := hW
  obtain ⟨p, q, hA0, hV, rfl, hfz, hnd⟩ := hW
  have hA : DataW.TrodAll enc Tryz.prog W 0 (fun _ => true) true Tryz.f8.params.toList args.toList ds p := hA0
  rw [Tryz.params8] at hA hval hsz
  obtain ⟨v0, vs0, d0, ds0, p0, q0, hargs, rfl, rfl, h0, r0⟩ := trodAll_cons hA
  obtain ⟨v1, vs1, d1, ds1, p1, q1, rfl, rfl, rfl, h1, r1⟩ := trodAll_cons r0
  obtain ⟨rfl, rfl, rfl⟩ := trodAll_nil r1
  obtain rfl : args = #[v0, v1] := by cases args; simp_all
  obtain ⟨rfl, rfl⟩ := trodVars_none hV
  have k0 := h0
  have lt0 : ∀ x ∈ p0, x.block < W.heap.size := by obtain ⟨m, hm⟩ := k0; exact DataW.trod_lt m _ _ _ hm
  have hz0 := F9 hsz (j := 0) (t := 63) (d := d0) rfl rfl
  obtain ⟨cs0, rfl⟩ := zF Tryz.underlying63 (hval 0 63 v0 rfl rfl)
  obtain ⟨acC, hf0⟩ := h0
  obtain ⟨x0, hr0, hg0⟩ := opC enc W _ _ acC _ _ hf0 hz0
  obtain ⟨a1, rfl, rfl, rfl, y1⟩ := open_string Tryz.underlying9 (hval 1 9 v1 rfl rfl) h1
  have w1 : a1.size ≤ 140737488351232 := by
    have z := sized_string hsz (j := 1) (t := 9) rfl rfl
    rw [Array.length_toList] at z
    exact z
  clear hA0 hval0 hsz0 hsz
  refine (Lc (AP mixed Kd.ents Tj K6 _).1 (DN (n := 0) U2 hv2 exZ (Nat.le_refl 200000000000001) x0 a1 (Nat.le_trans hg0.1.1 (by decide)) (fun x hx => Nat.le_trans (hg0.1.2 x hx) (by decide)) (Nat.le_trans hg0.2.1 (by decide)) (acB hg0.2.2).2) (zG (Py (cs := cs0) hr0) (zG (Pz (x := .str a1) (by simp only [eY])) Le))).mono fun e W' ⟨he, PS⟩ => ?_
  subst he
  exact ⟨_, rfl, _, _, _, [], _, [], hW', trodAll_mk1 (shut_bool Tryz.underlying4 _), (trodAll_cons_mk (Old.trod laidOut (by kernel_rfl) (of_decide_eq_true (by kernel_rfl)) k0 PS lt0) (trodAll_cons_mk (shut_string Tryz.underlying9 y1) trodAll_mk0)), rfl, PS.frame _, fun h => by cases h⟩
theorem over : Rows.seekZonesRow.holds Tryz.pinned (OpenSpec.ofChange Rows.seekZonesSpec) :=
  OpenClaim.holds_of_wide 8 Tryz.f8 rfl rfl rfl rfl rfl rfl rfl ⟨rfl, rfl, rfl, rfl, rfl⟩ rfl rfl rfl rfl rfl (by kernel_rfl) Tryz.func8 (by unfold joinedFacts; rw [show Tryz.pinned.checked.prog.mayEnter = true from May.enters, show Tryz.pinned.checked.prog.liftsFinal = false from May.lifts, show Tryz.pinned.checked.prog.make = some .cut from May.makes]; kernel_rfl)
    (of_decide_eq_true (by kernel_rfl)) (by unfold Func.isWrapper; first | (rw [if_pos (by decide +kernel)]; kernel_rfl) | (rw [if_neg (by decide +kernel)]; exact ⟨rfl, rfl⟩))
    (fun os started H enc _ => lifted os started H enc)
theorem proved : Rows.SeekZonesSaid := over
#print axioms proved
end Go.Proofs.YtfokaoeinpnagaaGreat.seekZones
namespace Go.Proofs.YtfokaoeinpnagaaGreat
theorem seekZones_holds : Rows.SeekZonesSaid := seekZones.proved
end Go.Proofs.YtfokaoeinpnagaaGreat

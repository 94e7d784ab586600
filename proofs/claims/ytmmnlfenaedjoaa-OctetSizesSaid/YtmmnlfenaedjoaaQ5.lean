-- Written by a program of this session (wip/tools/myprint.py), over the kit's printer; Lean checks it.
import Derived.Test.YtmmnlfenaedjoaaQ0
import Derived.Test.YtmmnlfenaedjoaaQ1
import Derived.Test.YtmmnlfenaedjoaaQ2
namespace Go.Proofs.Ytmmnlfenaedjoaa.Q
open Go.RowKit Go.Proofs.YtmmnlfenaedjoaaW.PrintWords Go.Proofs.YtmmnlfenaedjoaaW.PrintLast Go.Proofs.YtmmnlfenaedjoaaW.PrintMore
attribute [local go_sem] max2_int min2_int max_two min_two max_three min_three max_four min_four   -- for this text's walks alone
set_option linter.unusedVariables false
set_option linter.unusedSimpArgs false

/-! ### wellspringlaw01_OctetOrder: function 6 -/
def wellspringlaw01_OctetOrder.f (k : Nat) (a0 : Int) (a1 : Int) (a2 : Int) : Option (Bool) := (octet_Put.f k a0 a2).bind fun t149 => ((octet_Put.f k a1 a2).bind fun t150 => (if t149.toList = ([] : List UInt8) then ((wellspringlaw01_live.f k).bind fun t151 => (some t151)) else (if t150.toList = ([] : List UInt8) then ((wellspringlaw01_live.f k).bind fun t152 => (some t152)) else (if ((decide (a0 < a1)) == (Op.bytesLess t149.toList t150.toList)) = true then ((wellspringlaw01_live.f k).bind fun t153 => (some t153)) else (some false)))))
theorem wellspringlaw01_OctetOrder.mono : ∀ a0 a1 a2 k, LeO (wellspringlaw01_OctetOrder.f k a0 a1 a2) (wellspringlaw01_OctetOrder.f (k + 1) a0 a1 a2) := by
  intro a0 a1 a2 k
  unfold wellspringlaw01_OctetOrder.f
  repeat' first
      | (with_reducible exact octet_Put.mono _ _ _)
      | (with_reducible exact wellspringlaw01_live.mono _)
      | (with_reducible exact LeO.refl _)
      | (with_reducible exact LeO.none _)
      | (with_reducible refine LeO.ite ?_ ?_)
      | (with_reducible refine LeO.bind ?_ (fun _ => ?_))
      | exact octet_Put.mono _ _ _
      | exact wellspringlaw01_live.mono _
      | exact LeO.none _
      | refine LeO.ite ?_ ?_
      | refine LeO.bind ?_ (fun _ => ?_)
set_option maxHeartbeats 8000000 in
set_option maxRecDepth 100000 in
theorem wellspringlaw01_OctetOrder.calls (k : Nat) (a0 : Int) (a1 : Int) (a2 : Int) (r : Bool) (w : World) (h : wellspringlaw01_OctetOrder.f k a0 a1 a2 = some r) :
    Calls Try.prog 6 #[.int .i64 a0, .int .i64 a1, .int .i64 a2] w fun e w' => e = .returned (.bool r) ∧ Below w.heap.size w w' := by
  have HB := Aside0.mk (Below.refl w.heap.size w)
  have H : ((octet_Put.f k a0 a2).bind fun t149 => ((octet_Put.f k a1 a2).bind fun t150 => (if t149.toList = ([] : List UInt8) then ((wellspringlaw01_live.f k).bind fun t151 => (some t151)) else (if t150.toList = ([] : List UInt8) then ((wellspringlaw01_live.f k).bind fun t152 => (some t152)) else (if ((decide (a0 < a1)) == (Op.bytesLess t149.toList t150.toList)) = true then ((wellspringlaw01_live.f k).bind fun t153 => (some t153)) else (some false)))))) = some r := h
  clear h
  replace H := Option.bind_eq_some_iff.mp H
  obtain ⟨t149, A40, H⟩ := H
  replace H : ((octet_Put.f k a1 a2).bind fun t150 => (if t149.toList = ([] : List UInt8) then ((wellspringlaw01_live.f k).bind fun t151 => (some t151)) else (if t150.toList = ([] : List UInt8) then ((wellspringlaw01_live.f k).bind fun t152 => (some t152)) else (if ((decide (a0 < a1)) == (Op.bytesLess t149.toList t150.toList)) = true then ((wellspringlaw01_live.f k).bind fun t153 => (some t153)) else (some false))))) = some r := H
  have A4 := Aside0.mk A40
  clear A40
  replace H := Option.bind_eq_some_iff.mp H
  obtain ⟨t150, A50, H⟩ := H
  replace H : (if t149.toList = ([] : List UInt8) then ((wellspringlaw01_live.f k).bind fun t151 => (some t151)) else (if t150.toList = ([] : List UInt8) then ((wellspringlaw01_live.f k).bind fun t152 => (some t152)) else (if ((decide (a0 < a1)) == (Op.bytesLess t149.toList t150.toList)) = true then ((wellspringlaw01_live.f k).bind fun t153 => (some t153)) else (some false)))) = some r := H
  have A5 := Aside0.mk A50
  clear A50
  by_cases c6 : t149.toList = ([] : List UInt8)
  · rw [if_pos c6] at H
    have c6b0 : (t149.toList == ([] : List UInt8)) = true := beq_iff_eq.mpr c6
    have c6b1 : (t149.toList != ([] : List UInt8)) = false := bne_eq_false_iff_eq.mpr c6
    have c6b2 : t149.toList.isEmpty = true := List.isEmpty_iff.mpr c6
    clear c6
    replace H := Option.bind_eq_some_iff.mp H
    obtain ⟨t151, A70, H⟩ := H
    replace H : (some t151) = some r := H
    have A7 := Aside0.mk A70
    clear A70
    obtain rfl := Option.some.inj H
    go_enter Try.func6, Try.ntmps6
    go_wp2_with (first | ((with_reducible refine gate_callee (f := 22) rfl ?_); refine goesL_ (some 11) rfl rfl Try.func22 (by kernel_rfl) rfl #[.int .i64 a0, .int .i64 a2] rfl (by (try simp only [List.map_toArray, List.map_cons, List.map_nil]); first | done | rfl | (simp only [List.length_drop, List.length_take]; rfl)) ?_; (with_reducible refine (octet_Put.calls k a0 a2 t149 _ A4.out).mono ?_); rintro e w8 ⟨rfl, hb⟩; refine ⟨_, rfl, ?_⟩; have n0_ := Aside0.mk (below_step (by repeat (first | (with_reducible first | exact HB.out | apply below_alloc | apply pw_below_drewN | apply below_drew1) | exact HB.out)) hb); clear HB; have HB := n0_; clear n0_; (try clear hb); (try clear hb2); (try clear hk); (try clear hi)) | ((with_reducible refine gate_callee (f := 22) rfl ?_); refine goesL_ (some 14) rfl rfl Try.func22 (by kernel_rfl) rfl #[.int .i64 a1, .int .i64 a2] rfl (by (try simp only [List.map_toArray, List.map_cons, List.map_nil]); first | done | rfl | (simp only [List.length_drop, List.length_take]; rfl)) ?_; (with_reducible refine (octet_Put.calls k a1 a2 t150 _ A5.out).mono ?_); rintro e w9 ⟨rfl, hb⟩; refine ⟨_, rfl, ?_⟩; have n0_ := Aside0.mk (below_step (by repeat (first | (with_reducible first | exact HB.out | apply below_alloc | apply pw_below_drewN | apply below_drew1) | exact HB.out)) hb); clear HB; have HB := n0_; clear n0_; (try clear hb); (try clear hb2); (try clear hk); (try clear hi)) | (go_at_call 15; (with_reducible refine (wellspringlaw01_live.calls k  t151 _ A7.out).mono ?_); rintro e w10 ⟨rfl, hb⟩; have n0_ := Aside0.mk (below_step (by repeat (first | (with_reducible first | exact HB.out | apply below_alloc | apply pw_below_drewN | apply below_drew1) | exact HB.out)) hb); clear HB; have HB := n0_; clear n0_; (try clear hb); (try clear hb2); (try clear hk); (try clear hi)))
    go_ret
    exact ⟨by first | rfl | (simp [errW_none, errW_some] <;> rfl) | (simp [*, errW_none, errW_some] <;> rfl), by repeat (first | (with_reducible first | exact HB.out | apply below_alloc | apply pw_below_drewN | apply below_drew1) | exact HB.out)⟩
  · rw [if_neg c6] at H
    have c6b0 : (t149.toList == ([] : List UInt8)) = false := beq_eq_false_iff_ne.mpr c6
    have c6b1 : (t149.toList != ([] : List UInt8)) = true := bne_iff_ne.mpr c6
    have c6b2 : t149.toList.isEmpty = false := Bool.eq_false_iff.mpr (fun h_ => c6 (List.isEmpty_iff.mp h_))
    by_cases c11 : t150.toList = ([] : List UInt8)
    · rw [if_pos c11] at H
      have c11b0 : (t150.toList == ([] : List UInt8)) = true := beq_iff_eq.mpr c11
      have c11b1 : (t150.toList != ([] : List UInt8)) = false := bne_eq_false_iff_eq.mpr c11
      have c11b2 : t150.toList.isEmpty = true := List.isEmpty_iff.mpr c11
      clear c11
      replace H := Option.bind_eq_some_iff.mp H
      obtain ⟨t152, A120, H⟩ := H
      replace H : (some t152) = some r := H
      have A12 := Aside0.mk A120
      clear A120
      obtain rfl := Option.some.inj H
      go_enter Try.func6, Try.ntmps6
      go_wp2_with (first | ((with_reducible refine gate_callee (f := 22) rfl ?_); refine goesL_ (some 11) rfl rfl Try.func22 (by kernel_rfl) rfl #[.int .i64 a0, .int .i64 a2] rfl (by (try simp only [List.map_toArray, List.map_cons, List.map_nil]); first | done | rfl | (simp only [List.length_drop, List.length_take]; rfl)) ?_; (with_reducible refine (octet_Put.calls k a0 a2 t149 _ A4.out).mono ?_); rintro e w13 ⟨rfl, hb⟩; refine ⟨_, rfl, ?_⟩; have n0_ := Aside0.mk (below_step (by repeat (first | (with_reducible first | exact HB.out | apply below_alloc | apply pw_below_drewN | apply below_drew1) | exact HB.out)) hb); clear HB; have HB := n0_; clear n0_; (try clear hb); (try clear hb2); (try clear hk); (try clear hi)) | ((with_reducible refine gate_callee (f := 22) rfl ?_); refine goesL_ (some 14) rfl rfl Try.func22 (by kernel_rfl) rfl #[.int .i64 a1, .int .i64 a2] rfl (by (try simp only [List.map_toArray, List.map_cons, List.map_nil]); first | done | rfl | (simp only [List.length_drop, List.length_take]; rfl)) ?_; (with_reducible refine (octet_Put.calls k a1 a2 t150 _ A5.out).mono ?_); rintro e w14 ⟨rfl, hb⟩; refine ⟨_, rfl, ?_⟩; have n0_ := Aside0.mk (below_step (by repeat (first | (with_reducible first | exact HB.out | apply below_alloc | apply pw_below_drewN | apply below_drew1) | exact HB.out)) hb); clear HB; have HB := n0_; clear n0_; (try clear hb); (try clear hb2); (try clear hk); (try clear hi)) | (go_at_call 15; (with_reducible refine (wellspringlaw01_live.calls k  t152 _ A12.out).mono ?_); rintro e w15 ⟨rfl, hb⟩; have n0_ := Aside0.mk (below_step (by repeat (first | (with_reducible first | exact HB.out | apply below_alloc | apply pw_below_drewN | apply below_drew1) | exact HB.out)) hb); clear HB; have HB := n0_; clear n0_; (try clear hb); (try clear hb2); (try clear hk); (try clear hi)))
      go_ret
      exact ⟨by first | rfl | (simp [errW_none, errW_some] <;> rfl) | (simp [*, errW_none, errW_some] <;> rfl), by repeat (first | (with_reducible first | exact HB.out | apply below_alloc | apply pw_below_drewN | apply below_drew1) | exact HB.out)⟩
    · rw [if_neg c11] at H
      have c11b0 : (t150.toList == ([] : List UInt8)) = false := beq_eq_false_iff_ne.mpr c11
      have c11b1 : (t150.toList != ([] : List UInt8)) = true := bne_iff_ne.mpr c11
      have c11b2 : t150.toList.isEmpty = false := Bool.eq_false_iff.mpr (fun h_ => c11 (List.isEmpty_iff.mp h_))
      by_cases c16 : ((decide (a0 < a1)) == (Op.bytesLess t149.toList t150.toList)) = true
      · rw [if_pos c16] at H
        have c16b0 : ((decide (a0 < a1)) == (Op.bytesLess t149.toList t150.toList)) = true := c16
        (try (have c16b1 : decide ((decide (a0 < a1)) = (Op.bytesLess t149.toList t150.toList)) = true := by simpa using c16))
        (try (have c16b2 : ((decide (a0 < a1)) == (Op.bytesLess t149.toList t150.toList)) = true := by simpa using c16))
        clear c16
        replace H := Option.bind_eq_some_iff.mp H
        obtain ⟨t153, A170, H⟩ := H
        replace H : (some t153) = some r := H
        have A17 := Aside0.mk A170
        clear A170
        obtain rfl := Option.some.inj H
        go_enter Try.func6, Try.ntmps6
        go_wp2_with (first | ((with_reducible refine gate_callee (f := 22) rfl ?_); refine goesL_ (some 11) rfl rfl Try.func22 (by kernel_rfl) rfl #[.int .i64 a0, .int .i64 a2] rfl (by (try simp only [List.map_toArray, List.map_cons, List.map_nil]); first | done | rfl | (simp only [List.length_drop, List.length_take]; rfl)) ?_; (with_reducible refine (octet_Put.calls k a0 a2 t149 _ A4.out).mono ?_); rintro e w18 ⟨rfl, hb⟩; refine ⟨_, rfl, ?_⟩; have n0_ := Aside0.mk (below_step (by repeat (first | (with_reducible first | exact HB.out | apply below_alloc | apply pw_below_drewN | apply below_drew1) | exact HB.out)) hb); clear HB; have HB := n0_; clear n0_; (try clear hb); (try clear hb2); (try clear hk); (try clear hi)) | ((with_reducible refine gate_callee (f := 22) rfl ?_); refine goesL_ (some 14) rfl rfl Try.func22 (by kernel_rfl) rfl #[.int .i64 a1, .int .i64 a2] rfl (by (try simp only [List.map_toArray, List.map_cons, List.map_nil]); first | done | rfl | (simp only [List.length_drop, List.length_take]; rfl)) ?_; (with_reducible refine (octet_Put.calls k a1 a2 t150 _ A5.out).mono ?_); rintro e w19 ⟨rfl, hb⟩; refine ⟨_, rfl, ?_⟩; have n0_ := Aside0.mk (below_step (by repeat (first | (with_reducible first | exact HB.out | apply below_alloc | apply pw_below_drewN | apply below_drew1) | exact HB.out)) hb); clear HB; have HB := n0_; clear n0_; (try clear hb); (try clear hb2); (try clear hk); (try clear hi)) | (go_at_call 15; (with_reducible refine (wellspringlaw01_live.calls k  t153 _ A17.out).mono ?_); rintro e w20 ⟨rfl, hb⟩; have n0_ := Aside0.mk (below_step (by repeat (first | (with_reducible first | exact HB.out | apply below_alloc | apply pw_below_drewN | apply below_drew1) | exact HB.out)) hb); clear HB; have HB := n0_; clear n0_; (try clear hb); (try clear hb2); (try clear hk); (try clear hi)))
        go_ret
        exact ⟨by first | rfl | (simp [errW_none, errW_some] <;> rfl) | (simp [*, errW_none, errW_some] <;> rfl), by repeat (first | (with_reducible first | exact HB.out | apply below_alloc | apply pw_below_drewN | apply below_drew1) | exact HB.out)⟩
      · rw [if_neg c16] at H
        have c16b0 : ((decide (a0 < a1)) == (Op.bytesLess t149.toList t150.toList)) = false := by simpa using c16
        (try (have c16b1 : decide ((decide (a0 < a1)) = (Op.bytesLess t149.toList t150.toList)) = false := by simpa using c16))
        (try (have c16b2 : ((decide (a0 < a1)) == (Op.bytesLess t149.toList t150.toList)) = false := by simpa using c16))
        (try (have c16b3 : ¬ ((decide (a0 < a1)) = (Op.bytesLess t149.toList t150.toList)) := by simpa using c16))
        clear c16
        obtain rfl := Option.some.inj H
        go_enter Try.func6, Try.ntmps6
        go_wp2_with (first | ((with_reducible refine gate_callee (f := 22) rfl ?_); refine goesL_ (some 11) rfl rfl Try.func22 (by kernel_rfl) rfl #[.int .i64 a0, .int .i64 a2] rfl (by (try simp only [List.map_toArray, List.map_cons, List.map_nil]); first | done | rfl | (simp only [List.length_drop, List.length_take]; rfl)) ?_; (with_reducible refine (octet_Put.calls k a0 a2 t149 _ A4.out).mono ?_); rintro e w21 ⟨rfl, hb⟩; refine ⟨_, rfl, ?_⟩; have n0_ := Aside0.mk (below_step (by repeat (first | (with_reducible first | exact HB.out | apply below_alloc | apply pw_below_drewN | apply below_drew1) | exact HB.out)) hb); clear HB; have HB := n0_; clear n0_; (try clear hb); (try clear hb2); (try clear hk); (try clear hi)) | ((with_reducible refine gate_callee (f := 22) rfl ?_); refine goesL_ (some 14) rfl rfl Try.func22 (by kernel_rfl) rfl #[.int .i64 a1, .int .i64 a2] rfl (by (try simp only [List.map_toArray, List.map_cons, List.map_nil]); first | done | rfl | (simp only [List.length_drop, List.length_take]; rfl)) ?_; (with_reducible refine (octet_Put.calls k a1 a2 t150 _ A5.out).mono ?_); rintro e w22 ⟨rfl, hb⟩; refine ⟨_, rfl, ?_⟩; have n0_ := Aside0.mk (below_step (by repeat (first | (with_reducible first | exact HB.out | apply below_alloc | apply pw_below_drewN | apply below_drew1) | exact HB.out)) hb); clear HB; have HB := n0_; clear n0_; (try clear hb); (try clear hb2); (try clear hk); (try clear hi)))
        go_ret
        exact ⟨by first | rfl | (simp [errW_none, errW_some] <;> rfl) | (simp [*, errW_none, errW_some] <;> rfl), by repeat (first | (with_reducible first | exact HB.out | apply below_alloc | apply pw_below_drewN | apply below_drew1) | exact HB.out)⟩

/-- THE ONE PURE STATEMENT of wellspringlaw01_OctetOrder: yours. -/
def wellspringlaw01_OctetOrder.Pure : Prop := ∀ (a0 : Int) (a1 : Int) (a2 : Int), (Lit.int .i64 a0).wf = true → (Lit.int .i64 a1).wf = true → (Lit.int .i64 a2).wf = true → ∃ k, wellspringlaw01_OctetOrder.f k a0 a1 a2 = some true
theorem wellspringlaw01_OctetOrder.walk (P : wellspringlaw01_OctetOrder.Pure) (a0 : Int) (a1 : Int) (a2 : Int) (w : World) (w0 : (Lit.int .i64 a0).wf = true) (w1 : (Lit.int .i64 a1).wf = true) (w2 : (Lit.int .i64 a2).wf = true) :
    Calls Try.prog 6 #[.int .i64 a0, .int .i64 a1, .int .i64 a2] w fun e w' => e = .returned (.bool true) ∧ Below w.heap.size w w' := by
  obtain ⟨k, h⟩ := P a0 a1 a2 w0 w1 w2
  refine (wellspringlaw01_OctetOrder.calls k a0 a1 a2 true w h).mono ?_
  rintro e w' ⟨rfl, hd⟩
  exact ⟨rfl, hd⟩

/-! ### wellspringlaw01_OctetTakes: function 7 -/
mutual
def wellspringlaw01_OctetTakes.j0 : Nat → ByteArray → Int → Int → Bool → Option (Bool)
  | 0, _, _, _, _ => none
  | k + 1, x0, x1, x2, x37 => if x37 = true then ((wellspringlaw01_live.f k).bind fun t154 => (some t154)) else ((octet_Take.f x0 x1 x2).bind fun bt155 => ((octet_Take.f x0 (wrap64 (x1 + x2)) 2).bind fun bt157 => ((octet_Take.f x0 x1 (wrap64 (x2 + 2))).bind fun bt159 => (if bt155.2 = true then (if (bt159.2 != bt157.2) = true then (wellspringlaw01_OctetTakes.j1 k x0 x1 true) else (if bt159.2 = true then (if bt155.1.size + bt157.1.size ≤ 9223372036854775807 then (wellspringlaw01_OctetTakes.j1 k x0 x1 (bt159.1.toList != (bt155.1 ++ bt157.1).toList)) else (none)) else (wellspringlaw01_OctetTakes.j1 k x0 x1 false))) else (if (bt159.2 != false) = true then (wellspringlaw01_OctetTakes.j1 k x0 x1 true) else (if bt159.2 = true then (if bt155.1.size + bt157.1.size ≤ 9223372036854775807 then (wellspringlaw01_OctetTakes.j1 k x0 x1 (bt159.1.toList != (bt155.1 ++ bt157.1).toList)) else (none)) else (wellspringlaw01_OctetTakes.j1 k x0 x1 false)))))))
def wellspringlaw01_OctetTakes.j1 : Nat → ByteArray → Int → Bool → Option (Bool)
  | 0, _, _, _ => none
  | k + 1, x0, x1, x77 => if x77 = true then (some false) else ((octet_Get.f k x0 x1 4).bind fun bt161 => ((octet_Get.f k x0 x1 2).bind fun bt163 => ((octet_Get.f k x0 (wrap64 (x1 + 2)) 2).bind fun bt165 => (if bt163.2 = true then (if (bt161.2 == bt165.2) = true then (if bt161.2 = true then (if bt161.1 = (wrap64 ((wrap64 (bt163.1 * 65536)) + bt165.1)) then ((wellspringlaw01_live.f k).bind fun t167 => (some t167)) else (some false)) else ((wellspringlaw01_live.f k).bind fun t168 => (some t168))) else (some false)) else (if (bt161.2 == false) = true then (if bt161.2 = true then (if bt161.1 = (wrap64 ((wrap64 (bt163.1 * 65536)) + bt165.1)) then ((wellspringlaw01_live.f k).bind fun t169 => (some t169)) else (some false)) else ((wellspringlaw01_live.f k).bind fun t170 => (some t170))) else (some false))))))
end
def wellspringlaw01_OctetTakes.f (k : Nat) (a0 : ByteArray) (a1 : Int) (a2 : Int) : Option (Bool) := if (a0.size : Int) > 70000 then (wellspringlaw01_OctetTakes.j0 k a0 a1 a2 true) else (if a1 < 0 then (wellspringlaw01_OctetTakes.j0 k a0 a1 a2 true) else (if a2 < 0 then (wellspringlaw01_OctetTakes.j0 k a0 a1 a2 true) else (if a1 > 100000 then (wellspringlaw01_OctetTakes.j0 k a0 a1 a2 true) else (wellspringlaw01_OctetTakes.j0 k a0 a1 a2 (decide (a2 > 100000))))))
theorem wellspringlaw01_OctetTakes.mono_l : ∀ k, (∀ y0 y1 y2 y3, LeO (wellspringlaw01_OctetTakes.j0 k y0 y1 y2 y3) (wellspringlaw01_OctetTakes.j0 (k + 1) y0 y1 y2 y3)) ∧ (∀ y0 y1 y2, LeO (wellspringlaw01_OctetTakes.j1 k y0 y1 y2) (wellspringlaw01_OctetTakes.j1 (k + 1) y0 y1 y2))
  | 0 => ⟨fun _ _ _ _ r h => by simp [wellspringlaw01_OctetTakes.j0] at h, fun _ _ _ r h => by simp [wellspringlaw01_OctetTakes.j1] at h⟩
  | k + 1 => by
    obtain ⟨ih0, ih1⟩ := wellspringlaw01_OctetTakes.mono_l k
    refine ⟨?_, ?_⟩
    · intro y0 y1 y2 y3
      unfold wellspringlaw01_OctetTakes.j0
      repeat' first
      | (with_reducible exact ih0 _ _ _ _)
      | (with_reducible exact ih1 _ _ _)
      | (with_reducible exact octet_Get.mono _ _ _ _)
      | (with_reducible exact wellspringlaw01_live.mono _)
      | (with_reducible exact LeO.refl _)
      | (with_reducible exact LeO.none _)
      | (with_reducible refine LeO.ite ?_ ?_)
      | (with_reducible refine LeO.bind ?_ (fun _ => ?_))
      | exact ih0 _ _ _ _
      | exact ih1 _ _ _
      | exact octet_Get.mono _ _ _ _
      | exact wellspringlaw01_live.mono _
      | exact LeO.none _
      | refine LeO.ite ?_ ?_
      | refine LeO.bind ?_ (fun _ => ?_)
    · intro y0 y1 y2
      unfold wellspringlaw01_OctetTakes.j1
      repeat' first
      | (with_reducible exact ih0 _ _ _ _)
      | (with_reducible exact ih1 _ _ _)
      | (with_reducible exact octet_Get.mono _ _ _ _)
      | (with_reducible exact wellspringlaw01_live.mono _)
      | (with_reducible exact LeO.refl _)
      | (with_reducible exact LeO.none _)
      | (with_reducible refine LeO.ite ?_ ?_)
      | (with_reducible refine LeO.bind ?_ (fun _ => ?_))
      | exact ih0 _ _ _ _
      | exact ih1 _ _ _
      | exact octet_Get.mono _ _ _ _
      | exact wellspringlaw01_live.mono _
      | exact LeO.none _
      | refine LeO.ite ?_ ?_
      | refine LeO.bind ?_ (fun _ => ?_)
theorem wellspringlaw01_OctetTakes.mono : ∀ a0 a1 a2 k, LeO (wellspringlaw01_OctetTakes.f k a0 a1 a2) (wellspringlaw01_OctetTakes.f (k + 1) a0 a1 a2) := by
  intro a0 a1 a2 k
  obtain ⟨ih0, ih1⟩ := wellspringlaw01_OctetTakes.mono_l k
  unfold wellspringlaw01_OctetTakes.f
  repeat' first
      | (with_reducible exact ih0 _ _ _ _)
      | (with_reducible exact ih1 _ _ _)
      | (with_reducible exact octet_Get.mono _ _ _ _)
      | (with_reducible exact wellspringlaw01_live.mono _)
      | (with_reducible exact LeO.refl _)
      | (with_reducible exact LeO.none _)
      | (with_reducible refine LeO.ite ?_ ?_)
      | (with_reducible refine LeO.bind ?_ (fun _ => ?_))
      | exact ih0 _ _ _ _
      | exact ih1 _ _ _
      | exact octet_Get.mono _ _ _ _
      | exact wellspringlaw01_live.mono _
      | exact LeO.none _
      | refine LeO.ite ?_ ?_
      | refine LeO.bind ?_ (fun _ => ?_)
set_option maxHeartbeats 8000000 in
set_option maxRecDepth 100000 in
theorem wellspringlaw01_OctetTakes.calls (k : Nat) (a0 : ByteArray) (a1 : Int) (a2 : Int) (r : Bool) (w : World) (h : wellspringlaw01_OctetTakes.f k a0 a1 a2 = some r) :
    Calls Try.prog 7 #[.string a0, .int .i64 a1, .int .i64 a2] w fun e w' => e = .returned (.bool r) ∧ Below w.heap.size w w' := by
  have HB := Aside0.mk (Below.refl w.heap.size w)
  have H : (if (a0.size : Int) > 70000 then (wellspringlaw01_OctetTakes.j0 k a0 a1 a2 true) else (if a1 < 0 then (wellspringlaw01_OctetTakes.j0 k a0 a1 a2 true) else (if a2 < 0 then (wellspringlaw01_OctetTakes.j0 k a0 a1 a2 true) else (if a1 > 100000 then (wellspringlaw01_OctetTakes.j0 k a0 a1 a2 true) else (wellspringlaw01_OctetTakes.j0 k a0 a1 a2 (decide (a2 > 100000))))))) = some r := h
  clear h
  have HC4 := Aside0.mk H
  clear H
  go_enter Try.func7, Try.ntmps7
  go_upto_region 1 with (fail)
  go_cut [37] (fun v37 wc => ∃ (kq : Nat) (x37_3 : Bool), v37 = .bool x37_3 ∧ Aside0 (wellspringlaw01_OctetTakes.j0 kq a0 a1 a2 x37_3 = some r) ∧ Aside0 (kq ≤ k) ∧ Aside0 (Below w.heap.size w wc))
  case first =>
    have H := HC4.out
    clear HC4
    by_cases c5 : (a0.size : Int) > 70000
    · rw [if_pos c5] at H
      have c5b0 : decide (70000 < (a0.size : Int)) = true := decide_eq_true c5
      have c5b1 : decide (70000 < a0.size) = true := decide_eq_true (by omega)
      clear c5
      (first | rw [c5b0] | rw [c5b2] | (simp only [i64_w, i32_w]; rw [c5b0]) | skip)
      have H' := Aside0.mk H
      clear H
      go_wp2
      go_meet
      case rel => exact ⟨_, (true), (by first | rfl | (simp; done) | (simp [*]; done)), H', ⟨by first | omega | exact Nat.le_refl _⟩, ⟨by repeat (first | (with_reducible first | exact HB.out | apply below_alloc | apply pw_below_drewN | apply below_drew1) | exact HB.out)⟩⟩
    · rw [if_neg c5] at H
      have c5b0 : decide (70000 < (a0.size : Int)) = false := decide_eq_false c5
      have c5b1 : decide (70000 < a0.size) = false := decide_eq_false (by omega)
      clear c5
      (first | rw [c5b0] | rw [c5b2] | (simp only [i64_w, i32_w]; rw [c5b0]) | skip)
      by_cases c6 : a1 < 0
      · rw [if_pos c6] at H
        have c6b0 : decide (a1 < 0) = true := decide_eq_true c6
        clear c6
        have H' := Aside0.mk H
        clear H
        go_wp2
        go_meet
        case rel => exact ⟨_, (true), (by first | rfl | (simp; done) | (simp [*]; done)), H', ⟨by first | omega | exact Nat.le_refl _⟩, ⟨by repeat (first | (with_reducible first | exact HB.out | apply below_alloc | apply pw_below_drewN | apply below_drew1) | exact HB.out)⟩⟩
      · rw [if_neg c6] at H
        have c6b0 : decide (a1 < 0) = false := decide_eq_false c6
        clear c6
        by_cases c7 : a2 < 0
        · rw [if_pos c7] at H
          have c7b0 : decide (a2 < 0) = true := decide_eq_true c7
          clear c7
          have H' := Aside0.mk H
          clear H
          go_wp2
          go_meet
          case rel => exact ⟨_, (true), (by first | rfl | (simp; done) | (simp [*]; done)), H', ⟨by first | omega | exact Nat.le_refl _⟩, ⟨by repeat (first | (with_reducible first | exact HB.out | apply below_alloc | apply pw_below_drewN | apply below_drew1) | exact HB.out)⟩⟩
        · rw [if_neg c7] at H
          have c7b0 : decide (a2 < 0) = false := decide_eq_false c7
          clear c7
          by_cases c8 : a1 > 100000
          · rw [if_pos c8] at H
            have c8b0 : decide (100000 < a1) = true := decide_eq_true c8
            clear c8
            have H' := Aside0.mk H
            clear H
            go_wp2
            go_meet
            case rel => exact ⟨_, (true), (by first | rfl | (simp; done) | (simp [*]; done)), H', ⟨by first | omega | exact Nat.le_refl _⟩, ⟨by repeat (first | (with_reducible first | exact HB.out | apply below_alloc | apply pw_below_drewN | apply below_drew1) | exact HB.out)⟩⟩
          · rw [if_neg c8] at H
            have c8b0 : decide (100000 < a1) = false := decide_eq_false c8
            clear c8
            have H' := Aside0.mk H
            clear H
            go_wp2
            go_meet
            case rel => exact ⟨_, (decide (a2 > 100000)), (by first | rfl | (simp; done) | (simp [*]; done)), H', ⟨by first | omega | exact Nat.le_refl _⟩, ⟨by repeat (first | (with_reducible first | exact HB.out | apply below_alloc | apply pw_below_drewN | apply below_drew1) | exact HB.out)⟩⟩
  case rest =>
    clear HC4
    try clear p2
    try clear c5
    try clear c5b0
    try clear c5b1
    try clear c5b2
    try clear c6
    try clear c6b0
    try clear c7
    try clear c7b0
    try clear c8
    try clear c8b0
    obtain ⟨kq, x37_3, rfl, HA, HJ3, HB⟩ := hcut
    cases kq with
    | zero => exact absurd HA.out (by simp [wellspringlaw01_OctetTakes.j0])
    | succ kj3 =>
      have H := HA.out
      clear HA
      simp only [wellspringlaw01_OctetTakes.j0] at H
      by_cases c9 : x37_3 = true
      · subst c9
        have H1 : ((wellspringlaw01_live.f kj3).bind fun t154 => (some t154)) = some r := by rw [if_pos rfl] at H; exact H
        clear H
        have H := H1
        clear H1
        replace H := Option.bind_eq_some_iff.mp H
        obtain ⟨t154, A100, H⟩ := H
        replace H : (some t154) = some r := H
        have A10 := Aside0.mk A100
        clear A100
        obtain rfl := Option.some.inj H
        go_wp2_with (first | ((with_reducible refine gate_callee (f := 15) rfl ?_); refine goesL_ (some 38) rfl rfl Try.func15 (by kernel_rfl) rfl #[] rfl (by (try simp only [List.map_toArray, List.map_cons, List.map_nil]); first | done | rfl | (simp only [List.length_drop, List.length_take]; rfl)) ?_; (with_reducible refine (wellspringlaw01_live.calls kj3  t154 _ A10.out).mono ?_); rintro e w11 ⟨rfl, hb⟩; refine ⟨_, rfl, ?_⟩; have n0_ := Aside0.mk (below_step (by repeat (first | (with_reducible first | exact HB.out | apply below_alloc | apply pw_below_drewN | apply below_drew1) | exact HB.out)) hb); clear HB; have HB := n0_; clear n0_; (try clear hb); (try clear hb2); (try clear hk); (try clear hi)))
        go_ret
        exact ⟨by first | rfl | (simp [errW_none, errW_some] <;> rfl) | (simp [*, errW_none, errW_some] <;> rfl), by repeat (first | (with_reducible first | exact HB.out | apply below_alloc | apply pw_below_drewN | apply below_drew1) | exact HB.out)⟩
      · replace c9 := Bool.eq_false_iff.mpr c9
        subst c9
        have H1 : ((octet_Take.f a0 a1 a2).bind fun bt155 => ((octet_Take.f a0 (wrap64 (a1 + a2)) 2).bind fun bt157 => ((octet_Take.f a0 a1 (wrap64 (a2 + 2))).bind fun bt159 => (if bt155.2 = true then (if (bt159.2 != bt157.2) = true then (wellspringlaw01_OctetTakes.j1 kj3 a0 a1 true) else (if bt159.2 = true then (if bt155.1.size + bt157.1.size ≤ 9223372036854775807 then (wellspringlaw01_OctetTakes.j1 kj3 a0 a1 (bt159.1.toList != (bt155.1 ++ bt157.1).toList)) else (none)) else (wellspringlaw01_OctetTakes.j1 kj3 a0 a1 false))) else (if (bt159.2 != false) = true then (wellspringlaw01_OctetTakes.j1 kj3 a0 a1 true) else (if bt159.2 = true then (if bt155.1.size + bt157.1.size ≤ 9223372036854775807 then (wellspringlaw01_OctetTakes.j1 kj3 a0 a1 (bt159.1.toList != (bt155.1 ++ bt157.1).toList)) else (none)) else (wellspringlaw01_OctetTakes.j1 kj3 a0 a1 false))))))) = some r := by rw [if_neg (show ¬ (false = true) by decide)] at H; exact H
        clear H
        have H := H1
        clear H1
        replace H := Option.bind_eq_some_iff.mp H
        obtain ⟨⟨t155, t156⟩, A120, H⟩ := H
        replace H : ((octet_Take.f a0 (wrap64 (a1 + a2)) 2).bind fun bt157 => ((octet_Take.f a0 a1 (wrap64 (a2 + 2))).bind fun bt159 => (if t156 = true then (if (bt159.2 != bt157.2) = true then (wellspringlaw01_OctetTakes.j1 kj3 a0 a1 true) else (if bt159.2 = true then (if t155.size + bt157.1.size ≤ 9223372036854775807 then (wellspringlaw01_OctetTakes.j1 kj3 a0 a1 (bt159.1.toList != (t155 ++ bt157.1).toList)) else (none)) else (wellspringlaw01_OctetTakes.j1 kj3 a0 a1 false))) else (if (bt159.2 != false) = true then (wellspringlaw01_OctetTakes.j1 kj3 a0 a1 true) else (if bt159.2 = true then (if t155.size + bt157.1.size ≤ 9223372036854775807 then (wellspringlaw01_OctetTakes.j1 kj3 a0 a1 (bt159.1.toList != (t155 ++ bt157.1).toList)) else (none)) else (wellspringlaw01_OctetTakes.j1 kj3 a0 a1 false)))))) = some r := H
        have A12 := Aside0.mk A120
        clear A120
        replace H := Option.bind_eq_some_iff.mp H
        obtain ⟨⟨t157, t158⟩, A130, H⟩ := H
        replace H : ((octet_Take.f a0 a1 (wrap64 (a2 + 2))).bind fun bt159 => (if t156 = true then (if (bt159.2 != t158) = true then (wellspringlaw01_OctetTakes.j1 kj3 a0 a1 true) else (if bt159.2 = true then (if t155.size + t157.size ≤ 9223372036854775807 then (wellspringlaw01_OctetTakes.j1 kj3 a0 a1 (bt159.1.toList != (t155 ++ t157).toList)) else (none)) else (wellspringlaw01_OctetTakes.j1 kj3 a0 a1 false))) else (if (bt159.2 != false) = true then (wellspringlaw01_OctetTakes.j1 kj3 a0 a1 true) else (if bt159.2 = true then (if t155.size + t157.size ≤ 9223372036854775807 then (wellspringlaw01_OctetTakes.j1 kj3 a0 a1 (bt159.1.toList != (t155 ++ t157).toList)) else (none)) else (wellspringlaw01_OctetTakes.j1 kj3 a0 a1 false))))) = some r := H
        have A13 := Aside0.mk A130
        clear A130
        replace H := Option.bind_eq_some_iff.mp H
        obtain ⟨⟨t159, t160⟩, A140, H⟩ := H
        replace H : (if t156 = true then (if (t160 != t158) = true then (wellspringlaw01_OctetTakes.j1 kj3 a0 a1 true) else (if t160 = true then (if t155.size + t157.size ≤ 9223372036854775807 then (wellspringlaw01_OctetTakes.j1 kj3 a0 a1 (t159.toList != (t155 ++ t157).toList)) else (none)) else (wellspringlaw01_OctetTakes.j1 kj3 a0 a1 false))) else (if (t160 != false) = true then (wellspringlaw01_OctetTakes.j1 kj3 a0 a1 true) else (if t160 = true then (if t155.size + t157.size ≤ 9223372036854775807 then (wellspringlaw01_OctetTakes.j1 kj3 a0 a1 (t159.toList != (t155 ++ t157).toList)) else (none)) else (wellspringlaw01_OctetTakes.j1 kj3 a0 a1 false)))) = some r := H
        have A14 := Aside0.mk A140
        clear A140
        have HC15 := Aside0.mk H
        clear H
        go_upto_region 6 with (first | ((with_reducible refine gate_callee (f := 16) rfl ?_); refine goesL_ (some 43) rfl rfl Try.func16 (by kernel_rfl) rfl #[.string a0, .int .i64 a1, .int .i64 a2] rfl (by (try simp only [List.map_toArray, List.map_cons, List.map_nil]); first | done | rfl | (simp only [List.length_drop, List.length_take]; rfl)) ?_; (with_reducible refine (octet_Take.calls a0 a1 a2 t155 t156 _ A12.out).mono ?_); rintro e w' ⟨rfl, ⟨nd, rfl⟩⟩; refine ⟨_, rfl, ?_⟩) | ((with_reducible refine gate_callee (f := 16) rfl ?_); refine goesL_ (some 51) rfl rfl Try.func16 (by kernel_rfl) rfl #[.string a0, .int .i64 (wrap64 (a1 + a2)), .int .i64 2] rfl (by (try simp only [List.map_toArray, List.map_cons, List.map_nil]); first | done | rfl | (simp only [List.length_drop, List.length_take]; rfl)) ?_; (with_reducible refine (octet_Take.calls a0 (wrap64 (a1 + a2)) 2 t157 t158 _ A13.out).mono ?_); rintro e w' ⟨rfl, ⟨nd, rfl⟩⟩; refine ⟨_, rfl, ?_⟩) | ((with_reducible refine gate_callee (f := 16) rfl ?_); refine goesL_ (some 59) rfl rfl Try.func16 (by kernel_rfl) rfl #[.string a0, .int .i64 a1, .int .i64 (wrap64 (a2 + 2))] rfl (by (try simp only [List.map_toArray, List.map_cons, List.map_nil]); first | done | rfl | (simp only [List.length_drop, List.length_take]; rfl)) ?_; (with_reducible refine (octet_Take.calls a0 a1 (wrap64 (a2 + 2)) t159 t160 _ A14.out).mono ?_); rintro e w' ⟨rfl, ⟨nd, rfl⟩⟩; refine ⟨_, rfl, ?_⟩))
        (try simp only [Act.put, List.setIfInBounds_toArray, List.set_cons_zero, List.set_cons_succ])
        go_cut [77] (fun v77 wc => ∃ (kq : Nat) (x77_14 : Bool), v77 = .bool x77_14 ∧ Aside0 (wellspringlaw01_OctetTakes.j1 kq a0 a1 x77_14 = some r) ∧ Aside0 (kq ≤ kj3) ∧ Aside0 (Below w.heap.size w wc))
        case first =>
          have H := HC15.out
          clear HC15
          by_cases c16 : t156 = true
          · subst c16
            have H1 : (if (t160 != t158) = true then (wellspringlaw01_OctetTakes.j1 kj3 a0 a1 true) else (if t160 = true then (if t155.size + t157.size ≤ 9223372036854775807 then (wellspringlaw01_OctetTakes.j1 kj3 a0 a1 (t159.toList != (t155 ++ t157).toList)) else (none)) else (wellspringlaw01_OctetTakes.j1 kj3 a0 a1 false))) = some r := by rw [if_pos rfl] at H; exact H
            clear H
            have H := H1
            clear H1
            by_cases c17 : (t160 != t158) = true
            · rw [if_pos c17] at H
              have c17b0 : (t160 != t158) = true := c17
              (try (have c17b1 : decide (t160 = t158) = false := by simpa using c17))
              (try (have c17b2 : (t160 == t158) = false := by simpa using c17))
              (try (have c17b3 : ¬ (t160 = t158) := by simpa using c17))
              clear c17
              (first | rw [c17b0] | rw [c17b2] | (simp only [i64_w, i32_w]; rw [c17b0]) | skip)
              have H' := Aside0.mk H
              clear H
              go_wp2
              go_meet
              case rel => exact ⟨_, (true), (by first | rfl | (simp; done) | (simp [*]; done)), H', ⟨by have := HJ3.out; first | omega | exact Nat.le_refl _⟩, ⟨by repeat (first | (with_reducible first | exact HB.out | apply below_alloc | apply pw_below_drewN | apply below_drew1) | exact HB.out)⟩⟩
            · rw [if_neg c17] at H
              have c17b0 : (t160 != t158) = false := by simpa using c17
              (try (have c17b1 : decide (t160 = t158) = true := by simpa using c17))
              (try (have c17b2 : (t160 == t158) = true := by simpa using c17))
              clear c17
              (first | rw [c17b0] | rw [c17b2] | (simp only [i64_w, i32_w]; rw [c17b0]) | skip)
              by_cases c18 : t160 = true
              · subst c18
                have H1 : (if t155.size + t157.size ≤ 9223372036854775807 then (wellspringlaw01_OctetTakes.j1 kj3 a0 a1 (t159.toList != (t155 ++ t157).toList)) else (none)) = some r := by rw [if_pos rfl] at H; exact H
                clear H
                have H := H1
                clear H1
                by_cases c19 : t155.size + t157.size ≤ 9223372036854775807
                · rw [if_pos c19] at H
                  have c19b0 := eq_true c19
                  have c19b1 : decide (t155.size + t157.size ≤ 9223372036854775807) = true := decide_eq_true c19
                  try have c19b2 : (9223372036854775807 < t155.size + t157.size) = False := eq_false (Nat.not_lt.2 c19)
                  have H' := Aside0.mk H
                  clear H
                  go_wp2
                  go_meet
                  case rel => exact ⟨_, ((t159.toList != (t155 ++ t157).toList)), (by first | rfl | (simp; done) | (simp [*]; done)), H', ⟨by have := HJ3.out; first | omega | exact Nat.le_refl _⟩, ⟨by repeat (first | (with_reducible first | exact HB.out | apply below_alloc | apply pw_below_drewN | apply below_drew1) | exact HB.out)⟩⟩
                · rw [if_neg c19] at H
                  exact absurd H (by simp)
              · replace c18 := Bool.eq_false_iff.mpr c18
                subst c18
                have H1 : (wellspringlaw01_OctetTakes.j1 kj3 a0 a1 false) = some r := by rw [if_neg (show ¬ (false = true) by decide)] at H; exact H
                clear H
                have H := H1
                clear H1
                have H' := Aside0.mk H
                clear H
                go_wp2
                go_meet
                case rel => exact ⟨_, (false), (by first | rfl | (simp; done) | (simp [*]; done)), H', ⟨by have := HJ3.out; first | omega | exact Nat.le_refl _⟩, ⟨by repeat (first | (with_reducible first | exact HB.out | apply below_alloc | apply pw_below_drewN | apply below_drew1) | exact HB.out)⟩⟩
          · replace c16 := Bool.eq_false_iff.mpr c16
            subst c16
            have H1 : (if (t160 != false) = true then (wellspringlaw01_OctetTakes.j1 kj3 a0 a1 true) else (if t160 = true then (if t155.size + t157.size ≤ 9223372036854775807 then (wellspringlaw01_OctetTakes.j1 kj3 a0 a1 (t159.toList != (t155 ++ t157).toList)) else (none)) else (wellspringlaw01_OctetTakes.j1 kj3 a0 a1 false))) = some r := by rw [if_neg (show ¬ (false = true) by decide)] at H; exact H
            clear H
            have H := H1
            clear H1
            by_cases c20 : (t160 != false) = true
            · rw [if_pos c20] at H
              have c20b0 : (t160 != false) = true := c20
              (try (have c20b1 : decide (t160 = false) = false := by simpa using c20))
              (try (have c20b2 : (t160 == false) = false := by simpa using c20))
              (try (have c20b3 : ¬ (t160 = false) := by simpa using c20))
              clear c20
              have H' := Aside0.mk H
              clear H
              go_wp2
              go_meet
              case rel => exact ⟨_, (true), (by first | rfl | (simp; done) | (simp [*]; done)), H', ⟨by have := HJ3.out; first | omega | exact Nat.le_refl _⟩, ⟨by repeat (first | (with_reducible first | exact HB.out | apply below_alloc | apply pw_below_drewN | apply below_drew1) | exact HB.out)⟩⟩
            · rw [if_neg c20] at H
              have c20b0 : (t160 != false) = false := by simpa using c20
              (try (have c20b1 : decide (t160 = false) = true := by simpa using c20))
              (try (have c20b2 : (t160 == false) = true := by simpa using c20))
              clear c20
              by_cases c21 : t160 = true
              · subst c21
                have H1 : (if t155.size + t157.size ≤ 9223372036854775807 then (wellspringlaw01_OctetTakes.j1 kj3 a0 a1 (t159.toList != (t155 ++ t157).toList)) else (none)) = some r := by rw [if_pos rfl] at H; exact H
                clear H
                have H := H1
                clear H1
                by_cases c22 : t155.size + t157.size ≤ 9223372036854775807
                · rw [if_pos c22] at H
                  have c22b0 := eq_true c22
                  have c22b1 : decide (t155.size + t157.size ≤ 9223372036854775807) = true := decide_eq_true c22
                  try have c22b2 : (9223372036854775807 < t155.size + t157.size) = False := eq_false (Nat.not_lt.2 c22)
                  have H' := Aside0.mk H
                  clear H
                  go_wp2
                  go_meet
                  case rel => exact ⟨_, ((t159.toList != (t155 ++ t157).toList)), (by first | rfl | (simp; done) | (simp [*]; done)), H', ⟨by have := HJ3.out; first | omega | exact Nat.le_refl _⟩, ⟨by repeat (first | (with_reducible first | exact HB.out | apply below_alloc | apply pw_below_drewN | apply below_drew1) | exact HB.out)⟩⟩
                · rw [if_neg c22] at H
                  exact absurd H (by simp)
              · replace c21 := Bool.eq_false_iff.mpr c21
                subst c21
                have H1 : (wellspringlaw01_OctetTakes.j1 kj3 a0 a1 false) = some r := by rw [if_neg (show ¬ (false = true) by decide)] at H; exact H
                clear H
                have H := H1
                clear H1
                have H' := Aside0.mk H
                clear H
                go_wp2
                go_meet
                case rel => exact ⟨_, (false), (by first | rfl | (simp; done) | (simp [*]; done)), H', ⟨by have := HJ3.out; first | omega | exact Nat.le_refl _⟩, ⟨by repeat (first | (with_reducible first | exact HB.out | apply below_alloc | apply pw_below_drewN | apply below_drew1) | exact HB.out)⟩⟩
        case rest =>
          clear HC15
          try clear c1
          try clear c2
          try clear p2
          try clear c5
          try clear c5b0
          try clear c5b1
          try clear c5b2
          try clear c6
          try clear c6b0
          try clear p6
          try clear c7
          try clear c7b0
          try clear c8
          try clear c8b0
          try clear c9
          try clear c15
          try clear c16
          try clear c17
          try clear c17b0
          try clear c17b1
          try clear c17b2
          try clear c18
          try clear c19
          try clear c19b0
          try clear c19b1
          try clear c19b2
          try clear c20
          try clear c20b0
          try clear c20b1
          try clear c20b2
          try clear c21
          try clear c22
          try clear c22b0
          try clear c22b1
          try clear c22b2
          try clear p2
          obtain ⟨kq, x77_14, rfl, HA, HJ14, HB⟩ := hcut
          cases kq with
          | zero => exact absurd HA.out (by simp [wellspringlaw01_OctetTakes.j1])
          | succ kj14 =>
            have H := HA.out
            clear HA
            simp only [wellspringlaw01_OctetTakes.j1] at H
            by_cases c23 : x77_14 = true
            · subst c23
              have H1 : (some false) = some r := by rw [if_pos rfl] at H; exact H
              clear H
              have H := H1
              clear H1
              obtain rfl := Option.some.inj H
              go_wp2
              go_ret
              exact ⟨by first | rfl | (simp [errW_none, errW_some] <;> rfl) | (simp [*, errW_none, errW_some] <;> rfl), by repeat (first | (with_reducible first | exact HB.out | apply below_alloc | apply pw_below_drewN | apply below_drew1) | exact HB.out)⟩
            · replace c23 := Bool.eq_false_iff.mpr c23
              subst c23
              have H1 : ((octet_Get.f kj14 a0 a1 4).bind fun bt161 => ((octet_Get.f kj14 a0 a1 2).bind fun bt163 => ((octet_Get.f kj14 a0 (wrap64 (a1 + 2)) 2).bind fun bt165 => (if bt163.2 = true then (if (bt161.2 == bt165.2) = true then (if bt161.2 = true then (if bt161.1 = (wrap64 ((wrap64 (bt163.1 * 65536)) + bt165.1)) then ((wellspringlaw01_live.f kj14).bind fun t167 => (some t167)) else (some false)) else ((wellspringlaw01_live.f kj14).bind fun t168 => (some t168))) else (some false)) else (if (bt161.2 == false) = true then (if bt161.2 = true then (if bt161.1 = (wrap64 ((wrap64 (bt163.1 * 65536)) + bt165.1)) then ((wellspringlaw01_live.f kj14).bind fun t169 => (some t169)) else (some false)) else ((wellspringlaw01_live.f kj14).bind fun t170 => (some t170))) else (some false)))))) = some r := by rw [if_neg (show ¬ (false = true) by decide)] at H; exact H
              clear H
              have H := H1
              clear H1
              replace H := Option.bind_eq_some_iff.mp H
              obtain ⟨⟨t161, t162⟩, A240, H⟩ := H
              replace H : ((octet_Get.f kj14 a0 a1 2).bind fun bt163 => ((octet_Get.f kj14 a0 (wrap64 (a1 + 2)) 2).bind fun bt165 => (if bt163.2 = true then (if (t162 == bt165.2) = true then (if t162 = true then (if t161 = (wrap64 ((wrap64 (bt163.1 * 65536)) + bt165.1)) then ((wellspringlaw01_live.f kj14).bind fun t167 => (some t167)) else (some false)) else ((wellspringlaw01_live.f kj14).bind fun t168 => (some t168))) else (some false)) else (if (t162 == false) = true then (if t162 = true then (if t161 = (wrap64 ((wrap64 (bt163.1 * 65536)) + bt165.1)) then ((wellspringlaw01_live.f kj14).bind fun t169 => (some t169)) else (some false)) else ((wellspringlaw01_live.f kj14).bind fun t170 => (some t170))) else (some false))))) = some r := H
              have A24 := Aside0.mk A240
              clear A240
              replace H := Option.bind_eq_some_iff.mp H
              obtain ⟨⟨t163, t164⟩, A250, H⟩ := H
              replace H : ((octet_Get.f kj14 a0 (wrap64 (a1 + 2)) 2).bind fun bt165 => (if t164 = true then (if (t162 == bt165.2) = true then (if t162 = true then (if t161 = (wrap64 ((wrap64 (t163 * 65536)) + bt165.1)) then ((wellspringlaw01_live.f kj14).bind fun t167 => (some t167)) else (some false)) else ((wellspringlaw01_live.f kj14).bind fun t168 => (some t168))) else (some false)) else (if (t162 == false) = true then (if t162 = true then (if t161 = (wrap64 ((wrap64 (t163 * 65536)) + bt165.1)) then ((wellspringlaw01_live.f kj14).bind fun t169 => (some t169)) else (some false)) else ((wellspringlaw01_live.f kj14).bind fun t170 => (some t170))) else (some false)))) = some r := H
              have A25 := Aside0.mk A250
              clear A250
              replace H := Option.bind_eq_some_iff.mp H
              obtain ⟨⟨t165, t166⟩, A260, H⟩ := H
              replace H : (if t164 = true then (if (t162 == t166) = true then (if t162 = true then (if t161 = (wrap64 ((wrap64 (t163 * 65536)) + t165)) then ((wellspringlaw01_live.f kj14).bind fun t167 => (some t167)) else (some false)) else ((wellspringlaw01_live.f kj14).bind fun t168 => (some t168))) else (some false)) else (if (t162 == false) = true then (if t162 = true then (if t161 = (wrap64 ((wrap64 (t163 * 65536)) + t165)) then ((wellspringlaw01_live.f kj14).bind fun t169 => (some t169)) else (some false)) else ((wellspringlaw01_live.f kj14).bind fun t170 => (some t170))) else (some false))) = some r := H
              have A26 := Aside0.mk A260
              clear A260
              by_cases c27 : t164 = true
              · subst c27
                have H1 : (if (t162 == t166) = true then (if t162 = true then (if t161 = (wrap64 ((wrap64 (t163 * 65536)) + t165)) then ((wellspringlaw01_live.f kj14).bind fun t167 => (some t167)) else (some false)) else ((wellspringlaw01_live.f kj14).bind fun t168 => (some t168))) else (some false)) = some r := by rw [if_pos rfl] at H; exact H
                clear H
                have H := H1
                clear H1
                by_cases c28 : (t162 == t166) = true
                · rw [if_pos c28] at H
                  have c28b0 : (t162 == t166) = true := c28
                  (try (have c28b1 : decide (t162 = t166) = true := by simpa using c28))
                  (try (have c28b2 : (t162 == t166) = true := by simpa using c28))
                  clear c28
                  by_cases c29 : t162 = true
                  · subst c29
                    have H1 : (if t161 = (wrap64 ((wrap64 (t163 * 65536)) + t165)) then ((wellspringlaw01_live.f kj14).bind fun t167 => (some t167)) else (some false)) = some r := by rw [if_pos rfl] at H; exact H
                    clear H
                    have H := H1
                    clear H1
                    by_cases c30 : t161 = (wrap64 ((wrap64 (t163 * 65536)) + t165))
                    · rw [if_pos c30] at H
                      have c30b0 : (t161 == (wrap64 ((wrap64 (t163 * 65536)) + t165))) = true := beq_iff_eq.mpr c30
                      have c30b1 : (t161 != (wrap64 ((wrap64 (t163 * 65536)) + t165))) = false := bne_eq_false_iff_eq.mpr c30
                      clear c30
                      replace H := Option.bind_eq_some_iff.mp H
                      obtain ⟨t167, A310, H⟩ := H
                      replace H : (some t167) = some r := H
                      have A31 := Aside0.mk A310
                      clear A310
                      obtain rfl := Option.some.inj H
                      go_wp2_with (first | ((with_reducible refine gate_callee (f := 18) rfl ?_); refine goesL_ (some 81) rfl rfl Try.func18 (by kernel_rfl) rfl #[.string a0, .int .i64 a1, .int .i64 4] rfl (by (try simp only [List.map_toArray, List.map_cons, List.map_nil]); first | done | rfl | (simp only [List.length_drop, List.length_take]; rfl)) ?_; (with_reducible refine (octet_Get.calls kj14 a0 a1 4 t161 true _ A24.out).mono ?_); rintro e w' ⟨rfl, ⟨nd, rfl⟩⟩; refine ⟨_, rfl, ?_⟩) | ((with_reducible refine gate_callee (f := 18) rfl ?_); refine goesL_ (some 87) rfl rfl Try.func18 (by kernel_rfl) rfl #[.string a0, .int .i64 a1, .int .i64 2] rfl (by (try simp only [List.map_toArray, List.map_cons, List.map_nil]); first | done | rfl | (simp only [List.length_drop, List.length_take]; rfl)) ?_; (with_reducible refine (octet_Get.calls kj14 a0 a1 2 t163 true _ A25.out).mono ?_); rintro e w' ⟨rfl, ⟨nd, rfl⟩⟩; refine ⟨_, rfl, ?_⟩) | ((with_reducible refine gate_callee (f := 18) rfl ?_); refine goesL_ (some 94) rfl rfl Try.func18 (by kernel_rfl) rfl #[.string a0, .int .i64 (wrap64 (a1 + 2)), .int .i64 2] rfl (by (try simp only [List.map_toArray, List.map_cons, List.map_nil]); first | done | rfl | (simp only [List.length_drop, List.length_take]; rfl)) ?_; (with_reducible refine (octet_Get.calls kj14 a0 (wrap64 (a1 + 2)) 2 t165 t166 _ A26.out).mono ?_); rintro e w' ⟨rfl, ⟨nd, rfl⟩⟩; refine ⟨_, rfl, ?_⟩) | (go_at_call 15; (with_reducible refine (wellspringlaw01_live.calls kj14  t167 _ A31.out).mono ?_); rintro e w32 ⟨rfl, hb⟩; have n0_ := Aside0.mk (below_step (by repeat (first | (with_reducible first | exact HB.out | apply below_alloc | apply pw_below_drewN | apply below_drew1) | exact HB.out)) hb); clear HB; have HB := n0_; clear n0_; (try clear hb); (try clear hb2); (try clear hk); (try clear hi)))
                      go_ret
                      exact ⟨by first | rfl | (simp [errW_none, errW_some] <;> rfl) | (simp [*, errW_none, errW_some] <;> rfl), by repeat (first | (with_reducible first | exact HB.out | apply below_alloc | apply pw_below_drewN | apply below_drew1) | exact HB.out)⟩
                    · rw [if_neg c30] at H
                      have c30b0 : (t161 == (wrap64 ((wrap64 (t163 * 65536)) + t165))) = false := beq_eq_false_iff_ne.mpr c30
                      have c30b1 : (t161 != (wrap64 ((wrap64 (t163 * 65536)) + t165))) = true := bne_iff_ne.mpr c30
                      obtain rfl := Option.some.inj H
                      go_wp2_with (first | ((with_reducible refine gate_callee (f := 18) rfl ?_); refine goesL_ (some 81) rfl rfl Try.func18 (by kernel_rfl) rfl #[.string a0, .int .i64 a1, .int .i64 4] rfl (by (try simp only [List.map_toArray, List.map_cons, List.map_nil]); first | done | rfl | (simp only [List.length_drop, List.length_take]; rfl)) ?_; (with_reducible refine (octet_Get.calls kj14 a0 a1 4 t161 true _ A24.out).mono ?_); rintro e w' ⟨rfl, ⟨nd, rfl⟩⟩; refine ⟨_, rfl, ?_⟩) | ((with_reducible refine gate_callee (f := 18) rfl ?_); refine goesL_ (some 87) rfl rfl Try.func18 (by kernel_rfl) rfl #[.string a0, .int .i64 a1, .int .i64 2] rfl (by (try simp only [List.map_toArray, List.map_cons, List.map_nil]); first | done | rfl | (simp only [List.length_drop, List.length_take]; rfl)) ?_; (with_reducible refine (octet_Get.calls kj14 a0 a1 2 t163 true _ A25.out).mono ?_); rintro e w' ⟨rfl, ⟨nd, rfl⟩⟩; refine ⟨_, rfl, ?_⟩) | ((with_reducible refine gate_callee (f := 18) rfl ?_); refine goesL_ (some 94) rfl rfl Try.func18 (by kernel_rfl) rfl #[.string a0, .int .i64 (wrap64 (a1 + 2)), .int .i64 2] rfl (by (try simp only [List.map_toArray, List.map_cons, List.map_nil]); first | done | rfl | (simp only [List.length_drop, List.length_take]; rfl)) ?_; (with_reducible refine (octet_Get.calls kj14 a0 (wrap64 (a1 + 2)) 2 t165 t166 _ A26.out).mono ?_); rintro e w' ⟨rfl, ⟨nd, rfl⟩⟩; refine ⟨_, rfl, ?_⟩))
                      go_ret
                      exact ⟨by first | rfl | (simp [errW_none, errW_some] <;> rfl) | (simp [*, errW_none, errW_some] <;> rfl), by repeat (first | (with_reducible first | exact HB.out | apply below_alloc | apply pw_below_drewN | apply below_drew1) | exact HB.out)⟩
                  · replace c29 := Bool.eq_false_iff.mpr c29
                    subst c29
                    have H1 : ((wellspringlaw01_live.f kj14).bind fun t168 => (some t168)) = some r := by rw [if_neg (show ¬ (false = true) by decide)] at H; exact H
                    clear H
                    have H := H1
                    clear H1
                    replace H := Option.bind_eq_some_iff.mp H
                    obtain ⟨t168, A330, H⟩ := H
                    replace H : (some t168) = some r := H
                    have A33 := Aside0.mk A330
                    clear A330
                    obtain rfl := Option.some.inj H
                    go_wp2_with (first | ((with_reducible refine gate_callee (f := 18) rfl ?_); refine goesL_ (some 81) rfl rfl Try.func18 (by kernel_rfl) rfl #[.string a0, .int .i64 a1, .int .i64 4] rfl (by (try simp only [List.map_toArray, List.map_cons, List.map_nil]); first | done | rfl | (simp only [List.length_drop, List.length_take]; rfl)) ?_; (with_reducible refine (octet_Get.calls kj14 a0 a1 4 t161 false _ A24.out).mono ?_); rintro e w' ⟨rfl, ⟨nd, rfl⟩⟩; refine ⟨_, rfl, ?_⟩) | ((with_reducible refine gate_callee (f := 18) rfl ?_); refine goesL_ (some 87) rfl rfl Try.func18 (by kernel_rfl) rfl #[.string a0, .int .i64 a1, .int .i64 2] rfl (by (try simp only [List.map_toArray, List.map_cons, List.map_nil]); first | done | rfl | (simp only [List.length_drop, List.length_take]; rfl)) ?_; (with_reducible refine (octet_Get.calls kj14 a0 a1 2 t163 true _ A25.out).mono ?_); rintro e w' ⟨rfl, ⟨nd, rfl⟩⟩; refine ⟨_, rfl, ?_⟩) | ((with_reducible refine gate_callee (f := 18) rfl ?_); refine goesL_ (some 94) rfl rfl Try.func18 (by kernel_rfl) rfl #[.string a0, .int .i64 (wrap64 (a1 + 2)), .int .i64 2] rfl (by (try simp only [List.map_toArray, List.map_cons, List.map_nil]); first | done | rfl | (simp only [List.length_drop, List.length_take]; rfl)) ?_; (with_reducible refine (octet_Get.calls kj14 a0 (wrap64 (a1 + 2)) 2 t165 t166 _ A26.out).mono ?_); rintro e w' ⟨rfl, ⟨nd, rfl⟩⟩; refine ⟨_, rfl, ?_⟩) | (go_at_call 15; (with_reducible refine (wellspringlaw01_live.calls kj14  t168 _ A33.out).mono ?_); rintro e w34 ⟨rfl, hb⟩; have n0_ := Aside0.mk (below_step (by repeat (first | (with_reducible first | exact HB.out | apply below_alloc | apply pw_below_drewN | apply below_drew1) | exact HB.out)) hb); clear HB; have HB := n0_; clear n0_; (try clear hb); (try clear hb2); (try clear hk); (try clear hi)))
                    go_ret
                    exact ⟨by first | rfl | (simp [errW_none, errW_some] <;> rfl) | (simp [*, errW_none, errW_some] <;> rfl), by repeat (first | (with_reducible first | exact HB.out | apply below_alloc | apply pw_below_drewN | apply below_drew1) | exact HB.out)⟩
                · rw [if_neg c28] at H
                  have c28b0 : (t162 == t166) = false := by simpa using c28
                  (try (have c28b1 : decide (t162 = t166) = false := by simpa using c28))
                  (try (have c28b2 : (t162 == t166) = false := by simpa using c28))
                  (try (have c28b3 : ¬ (t162 = t166) := by simpa using c28))
                  clear c28
                  obtain rfl := Option.some.inj H
                  go_wp2_with (first | ((with_reducible refine gate_callee (f := 18) rfl ?_); refine goesL_ (some 81) rfl rfl Try.func18 (by kernel_rfl) rfl #[.string a0, .int .i64 a1, .int .i64 4] rfl (by (try simp only [List.map_toArray, List.map_cons, List.map_nil]); first | done | rfl | (simp only [List.length_drop, List.length_take]; rfl)) ?_; (with_reducible refine (octet_Get.calls kj14 a0 a1 4 t161 t162 _ A24.out).mono ?_); rintro e w' ⟨rfl, ⟨nd, rfl⟩⟩; refine ⟨_, rfl, ?_⟩) | ((with_reducible refine gate_callee (f := 18) rfl ?_); refine goesL_ (some 87) rfl rfl Try.func18 (by kernel_rfl) rfl #[.string a0, .int .i64 a1, .int .i64 2] rfl (by (try simp only [List.map_toArray, List.map_cons, List.map_nil]); first | done | rfl | (simp only [List.length_drop, List.length_take]; rfl)) ?_; (with_reducible refine (octet_Get.calls kj14 a0 a1 2 t163 true _ A25.out).mono ?_); rintro e w' ⟨rfl, ⟨nd, rfl⟩⟩; refine ⟨_, rfl, ?_⟩) | ((with_reducible refine gate_callee (f := 18) rfl ?_); refine goesL_ (some 94) rfl rfl Try.func18 (by kernel_rfl) rfl #[.string a0, .int .i64 (wrap64 (a1 + 2)), .int .i64 2] rfl (by (try simp only [List.map_toArray, List.map_cons, List.map_nil]); first | done | rfl | (simp only [List.length_drop, List.length_take]; rfl)) ?_; (with_reducible refine (octet_Get.calls kj14 a0 (wrap64 (a1 + 2)) 2 t165 t166 _ A26.out).mono ?_); rintro e w' ⟨rfl, ⟨nd, rfl⟩⟩; refine ⟨_, rfl, ?_⟩))
                  go_ret
                  exact ⟨by first | rfl | (simp [errW_none, errW_some] <;> rfl) | (simp [*, errW_none, errW_some] <;> rfl), by repeat (first | (with_reducible first | exact HB.out | apply below_alloc | apply pw_below_drewN | apply below_drew1) | exact HB.out)⟩
              · replace c27 := Bool.eq_false_iff.mpr c27
                subst c27
                have H1 : (if (t162 == false) = true then (if t162 = true then (if t161 = (wrap64 ((wrap64 (t163 * 65536)) + t165)) then ((wellspringlaw01_live.f kj14).bind fun t169 => (some t169)) else (some false)) else ((wellspringlaw01_live.f kj14).bind fun t170 => (some t170))) else (some false)) = some r := by rw [if_neg (show ¬ (false = true) by decide)] at H; exact H
                clear H
                have H := H1
                clear H1
                by_cases c35 : (t162 == false) = true
                · rw [if_pos c35] at H
                  have c35b0 : (t162 == false) = true := c35
                  (try (have c35b1 : decide (t162 = false) = true := by simpa using c35))
                  (try (have c35b2 : (t162 == false) = true := by simpa using c35))
                  clear c35
                  by_cases c36 : t162 = true
                  · subst c36
                    have H1 : (if t161 = (wrap64 ((wrap64 (t163 * 65536)) + t165)) then ((wellspringlaw01_live.f kj14).bind fun t169 => (some t169)) else (some false)) = some r := by rw [if_pos rfl] at H; exact H
                    clear H
                    have H := H1
                    clear H1
                    by_cases c37 : t161 = (wrap64 ((wrap64 (t163 * 65536)) + t165))
                    · rw [if_pos c37] at H
                      have c37b0 : (t161 == (wrap64 ((wrap64 (t163 * 65536)) + t165))) = true := beq_iff_eq.mpr c37
                      have c37b1 : (t161 != (wrap64 ((wrap64 (t163 * 65536)) + t165))) = false := bne_eq_false_iff_eq.mpr c37
                      clear c37
                      replace H := Option.bind_eq_some_iff.mp H
                      obtain ⟨t169, A380, H⟩ := H
                      replace H : (some t169) = some r := H
                      have A38 := Aside0.mk A380
                      clear A380
                      obtain rfl := Option.some.inj H
                      go_wp2_with (first | ((with_reducible refine gate_callee (f := 18) rfl ?_); refine goesL_ (some 81) rfl rfl Try.func18 (by kernel_rfl) rfl #[.string a0, .int .i64 a1, .int .i64 4] rfl (by (try simp only [List.map_toArray, List.map_cons, List.map_nil]); first | done | rfl | (simp only [List.length_drop, List.length_take]; rfl)) ?_; (with_reducible refine (octet_Get.calls kj14 a0 a1 4 t161 true _ A24.out).mono ?_); rintro e w' ⟨rfl, ⟨nd, rfl⟩⟩; refine ⟨_, rfl, ?_⟩) | ((with_reducible refine gate_callee (f := 18) rfl ?_); refine goesL_ (some 87) rfl rfl Try.func18 (by kernel_rfl) rfl #[.string a0, .int .i64 a1, .int .i64 2] rfl (by (try simp only [List.map_toArray, List.map_cons, List.map_nil]); first | done | rfl | (simp only [List.length_drop, List.length_take]; rfl)) ?_; (with_reducible refine (octet_Get.calls kj14 a0 a1 2 t163 false _ A25.out).mono ?_); rintro e w' ⟨rfl, ⟨nd, rfl⟩⟩; refine ⟨_, rfl, ?_⟩) | ((with_reducible refine gate_callee (f := 18) rfl ?_); refine goesL_ (some 94) rfl rfl Try.func18 (by kernel_rfl) rfl #[.string a0, .int .i64 (wrap64 (a1 + 2)), .int .i64 2] rfl (by (try simp only [List.map_toArray, List.map_cons, List.map_nil]); first | done | rfl | (simp only [List.length_drop, List.length_take]; rfl)) ?_; (with_reducible refine (octet_Get.calls kj14 a0 (wrap64 (a1 + 2)) 2 t165 t166 _ A26.out).mono ?_); rintro e w' ⟨rfl, ⟨nd, rfl⟩⟩; refine ⟨_, rfl, ?_⟩) | (go_at_call 15; (with_reducible refine (wellspringlaw01_live.calls kj14  t169 _ A38.out).mono ?_); rintro e w39 ⟨rfl, hb⟩; have n0_ := Aside0.mk (below_step (by repeat (first | (with_reducible first | exact HB.out | apply below_alloc | apply pw_below_drewN | apply below_drew1) | exact HB.out)) hb); clear HB; have HB := n0_; clear n0_; (try clear hb); (try clear hb2); (try clear hk); (try clear hi)))
                      go_ret
                      exact ⟨by first | rfl | (simp [errW_none, errW_some] <;> rfl) | (simp [*, errW_none, errW_some] <;> rfl), by repeat (first | (with_reducible first | exact HB.out | apply below_alloc | apply pw_below_drewN | apply below_drew1) | exact HB.out)⟩
                    · rw [if_neg c37] at H
                      have c37b0 : (t161 == (wrap64 ((wrap64 (t163 * 65536)) + t165))) = false := beq_eq_false_iff_ne.mpr c37
                      have c37b1 : (t161 != (wrap64 ((wrap64 (t163 * 65536)) + t165))) = true := bne_iff_ne.mpr c37
                      obtain rfl := Option.some.inj H
                      go_wp2_with (first | ((with_reducible refine gate_callee (f := 18) rfl ?_); refine goesL_ (some 81) rfl rfl Try.func18 (by kernel_rfl) rfl #[.string a0, .int .i64 a1, .int .i64 4] rfl (by (try simp only [List.map_toArray, List.map_cons, List.map_nil]); first | done | rfl | (simp only [List.length_drop, List.length_take]; rfl)) ?_; (with_reducible refine (octet_Get.calls kj14 a0 a1 4 t161 true _ A24.out).mono ?_); rintro e w' ⟨rfl, ⟨nd, rfl⟩⟩; refine ⟨_, rfl, ?_⟩) | ((with_reducible refine gate_callee (f := 18) rfl ?_); refine goesL_ (some 87) rfl rfl Try.func18 (by kernel_rfl) rfl #[.string a0, .int .i64 a1, .int .i64 2] rfl (by (try simp only [List.map_toArray, List.map_cons, List.map_nil]); first | done | rfl | (simp only [List.length_drop, List.length_take]; rfl)) ?_; (with_reducible refine (octet_Get.calls kj14 a0 a1 2 t163 false _ A25.out).mono ?_); rintro e w' ⟨rfl, ⟨nd, rfl⟩⟩; refine ⟨_, rfl, ?_⟩) | ((with_reducible refine gate_callee (f := 18) rfl ?_); refine goesL_ (some 94) rfl rfl Try.func18 (by kernel_rfl) rfl #[.string a0, .int .i64 (wrap64 (a1 + 2)), .int .i64 2] rfl (by (try simp only [List.map_toArray, List.map_cons, List.map_nil]); first | done | rfl | (simp only [List.length_drop, List.length_take]; rfl)) ?_; (with_reducible refine (octet_Get.calls kj14 a0 (wrap64 (a1 + 2)) 2 t165 t166 _ A26.out).mono ?_); rintro e w' ⟨rfl, ⟨nd, rfl⟩⟩; refine ⟨_, rfl, ?_⟩))
                      go_ret
                      exact ⟨by first | rfl | (simp [errW_none, errW_some] <;> rfl) | (simp [*, errW_none, errW_some] <;> rfl), by repeat (first | (with_reducible first | exact HB.out | apply below_alloc | apply pw_below_drewN | apply below_drew1) | exact HB.out)⟩
                  · replace c36 := Bool.eq_false_iff.mpr c36
                    subst c36
                    have H1 : ((wellspringlaw01_live.f kj14).bind fun t170 => (some t170)) = some r := by rw [if_neg (show ¬ (false = true) by decide)] at H; exact H
                    clear H
                    have H := H1
                    clear H1
                    replace H := Option.bind_eq_some_iff.mp H
                    obtain ⟨t170, A400, H⟩ := H
                    replace H : (some t170) = some r := H
                    have A40 := Aside0.mk A400
                    clear A400
                    obtain rfl := Option.some.inj H
                    go_wp2_with (first | ((with_reducible refine gate_callee (f := 18) rfl ?_); refine goesL_ (some 81) rfl rfl Try.func18 (by kernel_rfl) rfl #[.string a0, .int .i64 a1, .int .i64 4] rfl (by (try simp only [List.map_toArray, List.map_cons, List.map_nil]); first | done | rfl | (simp only [List.length_drop, List.length_take]; rfl)) ?_; (with_reducible refine (octet_Get.calls kj14 a0 a1 4 t161 false _ A24.out).mono ?_); rintro e w' ⟨rfl, ⟨nd, rfl⟩⟩; refine ⟨_, rfl, ?_⟩) | ((with_reducible refine gate_callee (f := 18) rfl ?_); refine goesL_ (some 87) rfl rfl Try.func18 (by kernel_rfl) rfl #[.string a0, .int .i64 a1, .int .i64 2] rfl (by (try simp only [List.map_toArray, List.map_cons, List.map_nil]); first | done | rfl | (simp only [List.length_drop, List.length_take]; rfl)) ?_; (with_reducible refine (octet_Get.calls kj14 a0 a1 2 t163 false _ A25.out).mono ?_); rintro e w' ⟨rfl, ⟨nd, rfl⟩⟩; refine ⟨_, rfl, ?_⟩) | ((with_reducible refine gate_callee (f := 18) rfl ?_); refine goesL_ (some 94) rfl rfl Try.func18 (by kernel_rfl) rfl #[.string a0, .int .i64 (wrap64 (a1 + 2)), .int .i64 2] rfl (by (try simp only [List.map_toArray, List.map_cons, List.map_nil]); first | done | rfl | (simp only [List.length_drop, List.length_take]; rfl)) ?_; (with_reducible refine (octet_Get.calls kj14 a0 (wrap64 (a1 + 2)) 2 t165 t166 _ A26.out).mono ?_); rintro e w' ⟨rfl, ⟨nd, rfl⟩⟩; refine ⟨_, rfl, ?_⟩) | (go_at_call 15; (with_reducible refine (wellspringlaw01_live.calls kj14  t170 _ A40.out).mono ?_); rintro e w41 ⟨rfl, hb⟩; have n0_ := Aside0.mk (below_step (by repeat (first | (with_reducible first | exact HB.out | apply below_alloc | apply pw_below_drewN | apply below_drew1) | exact HB.out)) hb); clear HB; have HB := n0_; clear n0_; (try clear hb); (try clear hb2); (try clear hk); (try clear hi)))
                    go_ret
                    exact ⟨by first | rfl | (simp [errW_none, errW_some] <;> rfl) | (simp [*, errW_none, errW_some] <;> rfl), by repeat (first | (with_reducible first | exact HB.out | apply below_alloc | apply pw_below_drewN | apply below_drew1) | exact HB.out)⟩
                · rw [if_neg c35] at H
                  have c35b0 : (t162 == false) = false := by simpa using c35
                  (try (have c35b1 : decide (t162 = false) = false := by simpa using c35))
                  (try (have c35b2 : (t162 == false) = false := by simpa using c35))
                  (try (have c35b3 : ¬ (t162 = false) := by simpa using c35))
                  clear c35
                  obtain rfl := Option.some.inj H
                  go_wp2_with (first | ((with_reducible refine gate_callee (f := 18) rfl ?_); refine goesL_ (some 81) rfl rfl Try.func18 (by kernel_rfl) rfl #[.string a0, .int .i64 a1, .int .i64 4] rfl (by (try simp only [List.map_toArray, List.map_cons, List.map_nil]); first | done | rfl | (simp only [List.length_drop, List.length_take]; rfl)) ?_; (with_reducible refine (octet_Get.calls kj14 a0 a1 4 t161 t162 _ A24.out).mono ?_); rintro e w' ⟨rfl, ⟨nd, rfl⟩⟩; refine ⟨_, rfl, ?_⟩) | ((with_reducible refine gate_callee (f := 18) rfl ?_); refine goesL_ (some 87) rfl rfl Try.func18 (by kernel_rfl) rfl #[.string a0, .int .i64 a1, .int .i64 2] rfl (by (try simp only [List.map_toArray, List.map_cons, List.map_nil]); first | done | rfl | (simp only [List.length_drop, List.length_take]; rfl)) ?_; (with_reducible refine (octet_Get.calls kj14 a0 a1 2 t163 false _ A25.out).mono ?_); rintro e w' ⟨rfl, ⟨nd, rfl⟩⟩; refine ⟨_, rfl, ?_⟩) | ((with_reducible refine gate_callee (f := 18) rfl ?_); refine goesL_ (some 94) rfl rfl Try.func18 (by kernel_rfl) rfl #[.string a0, .int .i64 (wrap64 (a1 + 2)), .int .i64 2] rfl (by (try simp only [List.map_toArray, List.map_cons, List.map_nil]); first | done | rfl | (simp only [List.length_drop, List.length_take]; rfl)) ?_; (with_reducible refine (octet_Get.calls kj14 a0 (wrap64 (a1 + 2)) 2 t165 t166 _ A26.out).mono ?_); rintro e w' ⟨rfl, ⟨nd, rfl⟩⟩; refine ⟨_, rfl, ?_⟩))
                  go_ret
                  exact ⟨by first | rfl | (simp [errW_none, errW_some] <;> rfl) | (simp [*, errW_none, errW_some] <;> rfl), by repeat (first | (with_reducible first | exact HB.out | apply below_alloc | apply pw_below_drewN | apply below_drew1) | exact HB.out)⟩

/-- THE ONE PURE STATEMENT of wellspringlaw01_OctetTakes: yours. -/
def wellspringlaw01_OctetTakes.Pure : Prop := ∀ (a0 : ByteArray) (a1 : Int) (a2 : Int), a0.size ≤ 140737488351232 → (Lit.int .i64 a1).wf = true → (Lit.int .i64 a2).wf = true → ∃ k, wellspringlaw01_OctetTakes.f k a0 a1 a2 = some true
theorem wellspringlaw01_OctetTakes.walk (P : wellspringlaw01_OctetTakes.Pure) (a0 : ByteArray) (a1 : Int) (a2 : Int) (w : World) (w0 : a0.size ≤ 140737488351232) (w1 : (Lit.int .i64 a1).wf = true) (w2 : (Lit.int .i64 a2).wf = true) :
    Calls Try.prog 7 #[.string a0, .int .i64 a1, .int .i64 a2] w fun e w' => e = .returned (.bool true) ∧ Below w.heap.size w w' := by
  obtain ⟨k, h⟩ := P a0 a1 a2 w0 w1 w2
  refine (wellspringlaw01_OctetTakes.calls k a0 a1 a2 true w h).mono ?_
  rintro e w' ⟨rfl, hd⟩
  exact ⟨rfl, hd⟩

end Go.Proofs.Ytmmnlfenaedjoaa.Q

-- Written by a program of this session (wip/tools/myprint.py), over the kit's printer; Lean checks it.
import Derived.Test.YtdkkanpbcifkfaaZQ0
import Derived.Test.YtdkkanpbcifkfaaZQ6
import Derived.Test.YtdkkanpbcifkfaaZQ7
import Derived.Test.YtdkkanpbcifkfaaZQ9
namespace Go.Proofs.Ytdkkanpbcifkfaa.ZQ
open Go.RowKit Go.Proofs.YtdkkanpbcifkfaaW.PrintWords Go.Proofs.YtdkkanpbcifkfaaW.PrintLast Go.Proofs.YtdkkanpbcifkfaaW.PrintMore
attribute [local go_sem] max2_int min2_int max_two min_two max_three min_three max_four min_four   -- for this text's walks alone
set_option linter.unusedVariables false
set_option linter.unusedSimpArgs false

/-! ### wellspringlaw04_CompBack: function 5 -/
mutual
def wellspringlaw04_CompBack.j0 : Nat → ByteArray → ByteArray → ByteArray → Bool → Option (Bool)
  | 0, _, _, _, _ => none
  | k + 1, x0, x1, x2, x27 => if x27 = true then ((wellspringlaw04_live.f k).bind fun t218 => (some t218)) else ((comp_Write.f k x0 (x1.size : Int) x2).bind fun t219 => ((wellspringref02_Check.f k x0).bind fun t220 => (if t220 = true then ((wellspringref02_Check.f k x2).bind fun t221 => (wellspringlaw04_CompBack.j1 k x0 x1 x2 t219 ((t219.toList == ([] : List UInt8)) != (!t221)))) else (wellspringlaw04_CompBack.j1 k x0 x1 x2 t219 ((t219.toList == ([] : List UInt8)) != true)))))
def wellspringlaw04_CompBack.j1 : Nat → ByteArray → ByteArray → ByteArray → ByteArray → Bool → Option (Bool)
  | 0, _, _, _, _, _ => none
  | k + 1, x0, x1, x2, x7, x44 => if x44 = true then (some false) else (if x7.toList = ([] : List UInt8) then ((wellspringlaw04_live.f k).bind fun t222 => (some t222)) else (if x1.size + x0.size ≤ 9223372036854775807 then (if (x1 ++ x0).size + x7.size ≤ 9223372036854775807 then (if ((x1 ++ x0) ++ x7).size + 1 ≤ 9223372036854775807 then ((comp_Read.f k (((x1 ++ x0) ++ x7) ++ (⟨#[122]⟩ : ByteArray)) (x1.size : Int)).bind fun bt223 => ((comp_Read.f k (((x1 ++ x0) ++ x7) ++ (⟨#[122]⟩ : ByteArray)) (wrap64 ((x1.size : Int) + (x0.size : Int)))).bind fun bt226 => (if bt223.1.toList = x0.toList then (if bt223.2.1 = (wrap64 ((x1.size : Int) + (x0.size : Int))) then (if bt223.2.2 = 0 then (if bt226.2.2 = 0 then ((wellspringref02_Same.f k bt226.1 x2).bind fun t229 => (if t229 = true then (if bt226.2.1 = (wrap64 (((((x1 ++ x0) ++ x7) ++ (⟨#[122]⟩ : ByteArray)).size : Int) - 1)) then (if (x7.size : Int) ≤ (x2.size : Int) then ((wellspringlaw04_live.f k).bind fun t230 => (some t230)) else (some false)) else (some false)) else (some false))) else (some false)) else (some false)) else (some false)) else (some false)))) else (none)) else (none)) else (none)))
end
def wellspringlaw04_CompBack.f (k : Nat) (a0 : ByteArray) (a1 : ByteArray) (a2 : ByteArray) : Option (Bool) := if (a0.size : Int) > 300 then (wellspringlaw04_CompBack.j0 k a0 a1 a2 true) else (if (a2.size : Int) > 300 then (wellspringlaw04_CompBack.j0 k a0 a1 a2 true) else (wellspringlaw04_CompBack.j0 k a0 a1 a2 (decide ((a1.size : Int) > 100))))
theorem wellspringlaw04_CompBack.mono_l : ∀ k, (∀ y0 y1 y2 y3, LeO (wellspringlaw04_CompBack.j0 k y0 y1 y2 y3) (wellspringlaw04_CompBack.j0 (k + 1) y0 y1 y2 y3)) ∧ (∀ y0 y1 y2 y3 y4, LeO (wellspringlaw04_CompBack.j1 k y0 y1 y2 y3 y4) (wellspringlaw04_CompBack.j1 (k + 1) y0 y1 y2 y3 y4))
  | 0 => ⟨fun _ _ _ _ r h => by simp [wellspringlaw04_CompBack.j0] at h, fun _ _ _ _ _ r h => by simp [wellspringlaw04_CompBack.j1] at h⟩
  | k + 1 => by
    obtain ⟨ih0, ih1⟩ := wellspringlaw04_CompBack.mono_l k
    refine ⟨?_, ?_⟩
    · intro y0 y1 y2 y3
      unfold wellspringlaw04_CompBack.j0
      repeat' first
      | (with_reducible exact ih0 _ _ _ _)
      | (with_reducible exact ih1 _ _ _ _ _)
      | (with_reducible exact comp_Read.mono _ _ _)
      | (with_reducible exact comp_Write.mono _ _ _ _)
      | (with_reducible exact wellspringlaw04_live.mono _)
      | (with_reducible exact wellspringref02_Check.mono _ _)
      | (with_reducible exact wellspringref02_Same.mono _ _ _)
      | (with_reducible exact LeO.refl _)
      | (with_reducible exact LeO.none _)
      | (with_reducible refine LeO.ite ?_ ?_)
      | (with_reducible refine LeO.bind ?_ (fun _ => ?_))
      | exact ih0 _ _ _ _
      | exact ih1 _ _ _ _ _
      | exact comp_Read.mono _ _ _
      | exact comp_Write.mono _ _ _ _
      | exact wellspringlaw04_live.mono _
      | exact wellspringref02_Check.mono _ _
      | exact wellspringref02_Same.mono _ _ _
      | exact LeO.none _
      | refine LeO.ite ?_ ?_
      | refine LeO.bind ?_ (fun _ => ?_)
    · intro y0 y1 y2 y3 y4
      unfold wellspringlaw04_CompBack.j1
      repeat' first
      | (with_reducible exact ih0 _ _ _ _)
      | (with_reducible exact ih1 _ _ _ _ _)
      | (with_reducible exact comp_Read.mono _ _ _)
      | (with_reducible exact comp_Write.mono _ _ _ _)
      | (with_reducible exact wellspringlaw04_live.mono _)
      | (with_reducible exact wellspringref02_Check.mono _ _)
      | (with_reducible exact wellspringref02_Same.mono _ _ _)
      | (with_reducible exact LeO.refl _)
      | (with_reducible exact LeO.none _)
      | (with_reducible refine LeO.ite ?_ ?_)
      | (with_reducible refine LeO.bind ?_ (fun _ => ?_))
      | exact ih0 _ _ _ _
      | exact ih1 _ _ _ _ _
      | exact comp_Read.mono _ _ _
      | exact comp_Write.mono _ _ _ _
      | exact wellspringlaw04_live.mono _
      | exact wellspringref02_Check.mono _ _
      | exact wellspringref02_Same.mono _ _ _
      | exact LeO.none _
      | refine LeO.ite ?_ ?_
      | refine LeO.bind ?_ (fun _ => ?_)
theorem wellspringlaw04_CompBack.mono : ∀ a0 a1 a2 k, LeO (wellspringlaw04_CompBack.f k a0 a1 a2) (wellspringlaw04_CompBack.f (k + 1) a0 a1 a2) := by
  intro a0 a1 a2 k
  obtain ⟨ih0, ih1⟩ := wellspringlaw04_CompBack.mono_l k
  unfold wellspringlaw04_CompBack.f
  repeat' first
      | (with_reducible exact ih0 _ _ _ _)
      | (with_reducible exact ih1 _ _ _ _ _)
      | (with_reducible exact comp_Read.mono _ _ _)
      | (with_reducible exact comp_Write.mono _ _ _ _)
      | (with_reducible exact wellspringlaw04_live.mono _)
      | (with_reducible exact wellspringref02_Check.mono _ _)
      | (with_reducible exact wellspringref02_Same.mono _ _ _)
      | (with_reducible exact LeO.refl _)
      | (with_reducible exact LeO.none _)
      | (with_reducible refine LeO.ite ?_ ?_)
      | (with_reducible refine LeO.bind ?_ (fun _ => ?_))
      | exact ih0 _ _ _ _
      | exact ih1 _ _ _ _ _
      | exact comp_Read.mono _ _ _
      | exact comp_Write.mono _ _ _ _
      | exact wellspringlaw04_live.mono _
      | exact wellspringref02_Check.mono _ _
      | exact wellspringref02_Same.mono _ _ _
      | exact LeO.none _
      | refine LeO.ite ?_ ?_
      | refine LeO.bind ?_ (fun _ => ?_)
set_option maxHeartbeats 8000000 in
set_option maxRecDepth 100000 in
theorem wellspringlaw04_CompBack.calls (k : Nat) (a0 : ByteArray) (a1 : ByteArray) (a2 : ByteArray) (r : Bool) (w : World) (h : wellspringlaw04_CompBack.f k a0 a1 a2 = some r) :
    Calls Try.prog 5 #[.string a0, .string a1, .string a2] w fun e w' => e = .returned (.bool r) ∧ Below w.heap.size w w' := by
  have HB := Aside0.mk (Below.refl w.heap.size w)
  have H : (if (a0.size : Int) > 300 then (wellspringlaw04_CompBack.j0 k a0 a1 a2 true) else (if (a2.size : Int) > 300 then (wellspringlaw04_CompBack.j0 k a0 a1 a2 true) else (wellspringlaw04_CompBack.j0 k a0 a1 a2 (decide ((a1.size : Int) > 100))))) = some r := h
  clear h
  have HC4 := Aside0.mk H
  clear H
  go_enter Try.func5, Try.ntmps5
  go_upto_region 1 with (fail)
  go_cut [27] (fun v27 wc => ∃ (kq : Nat) (x27_3 : Bool), v27 = .bool x27_3 ∧ Aside0 (wellspringlaw04_CompBack.j0 kq a0 a1 a2 x27_3 = some r) ∧ Aside0 (kq ≤ k) ∧ Aside0 (Below w.heap.size w wc))
  case first =>
    have H := HC4.out
    clear HC4
    by_cases c5 : (a0.size : Int) > 300
    · rw [if_pos c5] at H
      have c5b0 : decide (300 < (a0.size : Int)) = true := decide_eq_true c5
      have c5b1 : decide (300 < a0.size) = true := decide_eq_true (by omega)
      clear c5
      (first | rw [c5b0] | rw [c5b2] | (simp only [i64_w, i32_w]; rw [c5b0]) | skip)
      have H' := Aside0.mk H
      clear H
      go_wp2
      go_meet
      case rel => exact ⟨_, (true), (by first | rfl | (simp; done) | (simp [*]; done) | (simp [Go.Proofs.Ytdkkanpbcifkfaa.B.beq_not_bne]; done) | (simp [Go.Proofs.Ytdkkanpbcifkfaa.B.bne_not_beq]; done)), H', ⟨by first | omega | exact Nat.le_refl _⟩, ⟨by repeat (first | (with_reducible first | exact HB.out | apply below_alloc | apply pw_below_drewN | apply below_drew1) | exact HB.out)⟩⟩
    · rw [if_neg c5] at H
      have c5b0 : decide (300 < (a0.size : Int)) = false := decide_eq_false c5
      have c5b1 : decide (300 < a0.size) = false := decide_eq_false (by omega)
      clear c5
      (first | rw [c5b0] | rw [c5b2] | (simp only [i64_w, i32_w]; rw [c5b0]) | skip)
      by_cases c6 : (a2.size : Int) > 300
      · rw [if_pos c6] at H
        have c6b0 : decide (300 < (a2.size : Int)) = true := decide_eq_true c6
        have c6b1 : decide (300 < a2.size) = true := decide_eq_true (by omega)
        clear c6
        have H' := Aside0.mk H
        clear H
        go_wp2
        go_meet
        case rel => exact ⟨_, (true), (by first | rfl | (simp; done) | (simp [*]; done) | (simp [Go.Proofs.Ytdkkanpbcifkfaa.B.beq_not_bne]; done) | (simp [Go.Proofs.Ytdkkanpbcifkfaa.B.bne_not_beq]; done)), H', ⟨by first | omega | exact Nat.le_refl _⟩, ⟨by repeat (first | (with_reducible first | exact HB.out | apply below_alloc | apply pw_below_drewN | apply below_drew1) | exact HB.out)⟩⟩
      · rw [if_neg c6] at H
        have c6b0 : decide (300 < (a2.size : Int)) = false := decide_eq_false c6
        have c6b1 : decide (300 < a2.size) = false := decide_eq_false (by omega)
        clear c6
        have H' := Aside0.mk H
        clear H
        go_wp2
        go_meet
        case rel => exact ⟨_, (decide ((a1.size : Int) > 100)), (by first | rfl | (simp; done) | (simp [*]; done) | (simp [Go.Proofs.Ytdkkanpbcifkfaa.B.beq_not_bne]; done) | (simp [Go.Proofs.Ytdkkanpbcifkfaa.B.bne_not_beq]; done)), H', ⟨by first | omega | exact Nat.le_refl _⟩, ⟨by repeat (first | (with_reducible first | exact HB.out | apply below_alloc | apply pw_below_drewN | apply below_drew1) | exact HB.out)⟩⟩
  case rest =>
    clear HC4
    try clear p2
    try clear c5
    try clear c5b0
    try clear c5b1
    try clear c5b2
    try clear c6
    try clear c6b0
    try clear c6b1
    obtain ⟨kq, x27_3, rfl, HA, HJ3, HB⟩ := hcut
    cases kq with
    | zero => exact absurd HA.out (by simp [wellspringlaw04_CompBack.j0])
    | succ kj3 =>
      have H := HA.out
      clear HA
      simp only [wellspringlaw04_CompBack.j0] at H
      by_cases c7 : x27_3 = true
      · subst c7
        have H1 : ((wellspringlaw04_live.f kj3).bind fun t218 => (some t218)) = some r := by rw [if_pos rfl] at H; exact H
        clear H
        have H := H1
        clear H1
        replace H := Option.bind_eq_some_iff.mp H
        obtain ⟨t218, A80, H⟩ := H
        replace H : (some t218) = some r := H
        have A8 := Aside0.mk A80
        clear A80
        obtain rfl := Option.some.inj H
        go_wp2_with (first | ((with_reducible refine gate_callee (f := 20) rfl ?_); refine goesL_ (some 28) rfl rfl Try.func20 (by kernel_rfl) rfl #[] rfl (by (try simp only [List.map_toArray, List.map_cons, List.map_nil]); first | done | rfl | (simp only [List.length_drop, List.length_take]; rfl) | (rw [Go.Proofs.Ytdkkanpbcifkfaa.B.w64] <;> first | rfl | omega | (simp only [decide_eq_false_iff_not, decide_eq_true_eq, Int.not_lt, Nat.not_lt, gt_iff_lt] at * <;> omega))) ?_; (with_reducible refine (wellspringlaw04_live.calls kj3  t218 _ A8.out).mono ?_); rintro e w9 ⟨rfl, hb⟩; refine ⟨_, rfl, ?_⟩; have n0_ := Aside0.mk (below_step (by repeat (first | (with_reducible first | exact HB.out | apply below_alloc | apply pw_below_drewN | apply below_drew1) | exact HB.out)) hb); clear HB; have HB := n0_; clear n0_; (try clear hb); (try clear hb2); (try clear hk); (try clear hi)))
        go_ret
        exact ⟨by first | rfl | (simp [errW_none, errW_some] <;> rfl) | (simp [*, errW_none, errW_some] <;> rfl), by repeat (first | (with_reducible first | exact HB.out | apply below_alloc | apply pw_below_drewN | apply below_drew1) | exact HB.out)⟩
      · replace c7 := Bool.eq_false_iff.mpr c7
        subst c7
        have H1 : ((comp_Write.f kj3 a0 (a1.size : Int) a2).bind fun t219 => ((wellspringref02_Check.f kj3 a0).bind fun t220 => (if t220 = true then ((wellspringref02_Check.f kj3 a2).bind fun t221 => (wellspringlaw04_CompBack.j1 kj3 a0 a1 a2 t219 ((t219.toList == ([] : List UInt8)) != (!t221)))) else (wellspringlaw04_CompBack.j1 kj3 a0 a1 a2 t219 ((t219.toList == ([] : List UInt8)) != true))))) = some r := by rw [if_neg (show ¬ (false = true) by decide)] at H; exact H
        clear H
        have H := H1
        clear H1
        replace H := Option.bind_eq_some_iff.mp H
        obtain ⟨t219, A100, H⟩ := H
        replace H : ((wellspringref02_Check.f kj3 a0).bind fun t220 => (if t220 = true then ((wellspringref02_Check.f kj3 a2).bind fun t221 => (wellspringlaw04_CompBack.j1 kj3 a0 a1 a2 t219 ((t219.toList == ([] : List UInt8)) != (!t221)))) else (wellspringlaw04_CompBack.j1 kj3 a0 a1 a2 t219 ((t219.toList == ([] : List UInt8)) != true)))) = some r := H
        have A10 := Aside0.mk A100
        clear A100
        have HC11 := Aside0.mk H
        clear H
        go_upto_region 4 with (first | ((with_reducible refine gate_callee (f := 23) rfl ?_); refine goesL_ (some 33) rfl rfl Try.func23 (by kernel_rfl) rfl #[.string a0, .int .i64 (a1.size : Int), .string a2] rfl (by (try simp only [List.map_toArray, List.map_cons, List.map_nil]); first | done | rfl | (simp only [List.length_drop, List.length_take]; rfl) | (rw [Go.Proofs.Ytdkkanpbcifkfaa.B.w64] <;> first | rfl | omega | (simp only [decide_eq_false_iff_not, decide_eq_true_eq, Int.not_lt, Nat.not_lt, gt_iff_lt] at * <;> omega))) ?_; (with_reducible refine (comp_Write.calls kj3 a0 (a1.size : Int) a2 t219 _ A10.out).mono ?_); rintro e w12 ⟨rfl, hb⟩; refine ⟨_, rfl, ?_⟩; have n0_ := Aside0.mk (below_step (by repeat (first | (with_reducible first | exact HB.out | apply below_alloc | apply pw_below_drewN | apply below_drew1) | exact HB.out)) hb); clear HB; have HB := n0_; clear n0_; (try clear hb); (try clear hb2); (try clear hk); (try clear hi)))
        (try simp only [Act.put, List.setIfInBounds_toArray, List.set_cons_zero, List.set_cons_succ])
        go_cut [44] (fun v44 wc => ∃ (kq : Nat) (x44_10 : Bool), v44 = .bool x44_10 ∧ Aside0 (wellspringlaw04_CompBack.j1 kq a0 a1 a2 t219 x44_10 = some r) ∧ Aside0 (kq ≤ kj3) ∧ Aside0 (Below w.heap.size w wc))
        case first =>
          have H := HC11.out
          clear HC11
          replace H := Option.bind_eq_some_iff.mp H
          obtain ⟨t220, A130, H⟩ := H
          replace H : (if t220 = true then ((wellspringref02_Check.f kj3 a2).bind fun t221 => (wellspringlaw04_CompBack.j1 kj3 a0 a1 a2 t219 ((t219.toList == ([] : List UInt8)) != (!t221)))) else (wellspringlaw04_CompBack.j1 kj3 a0 a1 a2 t219 ((t219.toList == ([] : List UInt8)) != true))) = some r := H
          have A13 := Aside0.mk A130
          clear A130
          by_cases c14 : t220 = true
          · subst c14
            have H1 : ((wellspringref02_Check.f kj3 a2).bind fun t221 => (wellspringlaw04_CompBack.j1 kj3 a0 a1 a2 t219 ((t219.toList == ([] : List UInt8)) != (!t221)))) = some r := by rw [if_pos rfl] at H; exact H
            clear H
            have H := H1
            clear H1
            replace H := Option.bind_eq_some_iff.mp H
            obtain ⟨t221, A150, H⟩ := H
            replace H : (wellspringlaw04_CompBack.j1 kj3 a0 a1 a2 t219 ((t219.toList == ([] : List UInt8)) != (!t221))) = some r := H
            have A15 := Aside0.mk A150
            clear A150
            have H' := Aside0.mk H
            clear H
            go_wp2_with (first | ((with_reducible refine gate_callee (f := 25) rfl ?_); refine goesL_ (some 37) rfl rfl Try.func25 (by kernel_rfl) rfl #[.string a0] rfl (by (try simp only [List.map_toArray, List.map_cons, List.map_nil]); first | done | rfl | (simp only [List.length_drop, List.length_take]; rfl) | (rw [Go.Proofs.Ytdkkanpbcifkfaa.B.w64] <;> first | rfl | omega | (simp only [decide_eq_false_iff_not, decide_eq_true_eq, Int.not_lt, Nat.not_lt, gt_iff_lt] at * <;> omega))) ?_; (with_reducible refine (wellspringref02_Check.calls kj3 a0 true _ A13.out).mono ?_); rintro e w16 ⟨rfl, hb⟩; refine ⟨_, rfl, ?_⟩; have n0_ := Aside0.mk (below_step (by repeat (first | (with_reducible first | exact HB.out | apply below_alloc | apply pw_below_drewN | apply below_drew1) | exact HB.out)) hb); clear HB; have HB := n0_; clear n0_; (try clear hb); (try clear hb2); (try clear hk); (try clear hi)) | (go_at_call 25; (with_reducible refine (wellspringref02_Check.calls kj3 a2 t221 _ A15.out).mono ?_); rintro e w17 ⟨rfl, hb⟩; have n0_ := Aside0.mk (below_step (by repeat (first | (with_reducible first | exact HB.out | apply below_alloc | apply pw_below_drewN | apply below_drew1) | exact HB.out)) hb); clear HB; have HB := n0_; clear n0_; (try clear hb); (try clear hb2); (try clear hk); (try clear hi)))
            go_meet
            case rel => exact ⟨_, (((t219.toList == ([] : List UInt8)) != (!t221))), (by first | rfl | (simp; done) | (simp [*]; done) | (simp [Go.Proofs.Ytdkkanpbcifkfaa.B.beq_not_bne]; done) | (simp [Go.Proofs.Ytdkkanpbcifkfaa.B.bne_not_beq]; done)), H', ⟨by have := HJ3.out; first | omega | exact Nat.le_refl _⟩, ⟨by repeat (first | (with_reducible first | exact HB.out | apply below_alloc | apply pw_below_drewN | apply below_drew1) | exact HB.out)⟩⟩
          · replace c14 := Bool.eq_false_iff.mpr c14
            subst c14
            have H1 : (wellspringlaw04_CompBack.j1 kj3 a0 a1 a2 t219 ((t219.toList == ([] : List UInt8)) != true)) = some r := by rw [if_neg (show ¬ (false = true) by decide)] at H; exact H
            clear H
            have H := H1
            clear H1
            have H' := Aside0.mk H
            clear H
            go_wp2_with (first | ((with_reducible refine gate_callee (f := 25) rfl ?_); refine goesL_ (some 37) rfl rfl Try.func25 (by kernel_rfl) rfl #[.string a0] rfl (by (try simp only [List.map_toArray, List.map_cons, List.map_nil]); first | done | rfl | (simp only [List.length_drop, List.length_take]; rfl) | (rw [Go.Proofs.Ytdkkanpbcifkfaa.B.w64] <;> first | rfl | omega | (simp only [decide_eq_false_iff_not, decide_eq_true_eq, Int.not_lt, Nat.not_lt, gt_iff_lt] at * <;> omega))) ?_; (with_reducible refine (wellspringref02_Check.calls kj3 a0 false _ A13.out).mono ?_); rintro e w18 ⟨rfl, hb⟩; refine ⟨_, rfl, ?_⟩; have n0_ := Aside0.mk (below_step (by repeat (first | (with_reducible first | exact HB.out | apply below_alloc | apply pw_below_drewN | apply below_drew1) | exact HB.out)) hb); clear HB; have HB := n0_; clear n0_; (try clear hb); (try clear hb2); (try clear hk); (try clear hi)))
            go_meet
            case rel => exact ⟨_, (((t219.toList == ([] : List UInt8)) != true)), (by first | rfl | (simp; done) | (simp [*]; done) | (simp [Go.Proofs.Ytdkkanpbcifkfaa.B.beq_not_bne]; done) | (simp [Go.Proofs.Ytdkkanpbcifkfaa.B.bne_not_beq]; done)), H', ⟨by have := HJ3.out; first | omega | exact Nat.le_refl _⟩, ⟨by repeat (first | (with_reducible first | exact HB.out | apply below_alloc | apply pw_below_drewN | apply below_drew1) | exact HB.out)⟩⟩
        case rest =>
          clear HC11
          try clear c1
          try clear c2
          try clear p2
          try clear c5
          try clear c5b0
          try clear c5b1
          try clear c5b2
          try clear c6
          try clear c6b0
          try clear c6b1
          try clear c7
          try clear c14
          try clear p2
          obtain ⟨kq, x44_10, rfl, HA, HJ10, HB⟩ := hcut
          cases kq with
          | zero => exact absurd HA.out (by simp [wellspringlaw04_CompBack.j1])
          | succ kj10 =>
            have H := HA.out
            clear HA
            simp only [wellspringlaw04_CompBack.j1] at H
            by_cases c19 : x44_10 = true
            · subst c19
              have H1 : (some false) = some r := by rw [if_pos rfl] at H; exact H
              clear H
              have H := H1
              clear H1
              obtain rfl := Option.some.inj H
              go_wp2
              go_ret
              exact ⟨by first | rfl | (simp [errW_none, errW_some] <;> rfl) | (simp [*, errW_none, errW_some] <;> rfl), by repeat (first | (with_reducible first | exact HB.out | apply below_alloc | apply pw_below_drewN | apply below_drew1) | exact HB.out)⟩
            · replace c19 := Bool.eq_false_iff.mpr c19
              subst c19
              have H1 : (if t219.toList = ([] : List UInt8) then ((wellspringlaw04_live.f kj10).bind fun t222 => (some t222)) else (if a1.size + a0.size ≤ 9223372036854775807 then (if (a1 ++ a0).size + t219.size ≤ 9223372036854775807 then (if ((a1 ++ a0) ++ t219).size + 1 ≤ 9223372036854775807 then ((comp_Read.f kj10 (((a1 ++ a0) ++ t219) ++ (⟨#[122]⟩ : ByteArray)) (a1.size : Int)).bind fun bt223 => ((comp_Read.f kj10 (((a1 ++ a0) ++ t219) ++ (⟨#[122]⟩ : ByteArray)) (wrap64 ((a1.size : Int) + (a0.size : Int)))).bind fun bt226 => (if bt223.1.toList = a0.toList then (if bt223.2.1 = (wrap64 ((a1.size : Int) + (a0.size : Int))) then (if bt223.2.2 = 0 then (if bt226.2.2 = 0 then ((wellspringref02_Same.f kj10 bt226.1 a2).bind fun t229 => (if t229 = true then (if bt226.2.1 = (wrap64 (((((a1 ++ a0) ++ t219) ++ (⟨#[122]⟩ : ByteArray)).size : Int) - 1)) then (if (t219.size : Int) ≤ (a2.size : Int) then ((wellspringlaw04_live.f kj10).bind fun t230 => (some t230)) else (some false)) else (some false)) else (some false))) else (some false)) else (some false)) else (some false)) else (some false)))) else (none)) else (none)) else (none))) = some r := by rw [if_neg (show ¬ (false = true) by decide)] at H; exact H
              clear H
              have H := H1
              clear H1
              by_cases c20 : t219.toList = ([] : List UInt8)
              · rw [if_pos c20] at H
                have c20b0 : (t219.toList == ([] : List UInt8)) = true := beq_iff_eq.mpr c20
                have c20b1 : (t219.toList != ([] : List UInt8)) = false := bne_eq_false_iff_eq.mpr c20
                have c20b2 : t219.toList.isEmpty = true := List.isEmpty_iff.mpr c20
                clear c20
                replace H := Option.bind_eq_some_iff.mp H
                obtain ⟨t222, A210, H⟩ := H
                replace H : (some t222) = some r := H
                have A21 := Aside0.mk A210
                clear A210
                obtain rfl := Option.some.inj H
                go_wp2_with (first | ((with_reducible refine gate_callee (f := 20) rfl ?_); refine goesL_ (some 47) rfl rfl Try.func20 (by kernel_rfl) rfl #[] rfl (by (try simp only [List.map_toArray, List.map_cons, List.map_nil]); first | done | rfl | (simp only [List.length_drop, List.length_take]; rfl) | (rw [Go.Proofs.Ytdkkanpbcifkfaa.B.w64] <;> first | rfl | omega | (simp only [decide_eq_false_iff_not, decide_eq_true_eq, Int.not_lt, Nat.not_lt, gt_iff_lt] at * <;> omega))) ?_; (with_reducible refine (wellspringlaw04_live.calls kj10  t222 _ A21.out).mono ?_); rintro e w22 ⟨rfl, hb⟩; refine ⟨_, rfl, ?_⟩; have n0_ := Aside0.mk (below_step (by repeat (first | (with_reducible first | exact HB.out | apply below_alloc | apply pw_below_drewN | apply below_drew1) | exact HB.out)) hb); clear HB; have HB := n0_; clear n0_; (try clear hb); (try clear hb2); (try clear hk); (try clear hi)))
                go_ret
                exact ⟨by first | rfl | (simp [errW_none, errW_some] <;> rfl) | (simp [*, errW_none, errW_some] <;> rfl), by repeat (first | (with_reducible first | exact HB.out | apply below_alloc | apply pw_below_drewN | apply below_drew1) | exact HB.out)⟩
              · rw [if_neg c20] at H
                have c20b0 : (t219.toList == ([] : List UInt8)) = false := beq_eq_false_iff_ne.mpr c20
                have c20b1 : (t219.toList != ([] : List UInt8)) = true := bne_iff_ne.mpr c20
                have c20b2 : t219.toList.isEmpty = false := Bool.eq_false_iff.mpr (fun h_ => c20 (List.isEmpty_iff.mp h_))
                by_cases c23 : a1.size + a0.size ≤ 9223372036854775807
                · rw [if_pos c23] at H
                  have c23b0 := eq_true c23
                  have c23b1 : decide (a1.size + a0.size ≤ 9223372036854775807) = true := decide_eq_true c23
                  try have c23b2 : (9223372036854775807 < a1.size + a0.size) = False := eq_false (Nat.not_lt.2 c23)
                  by_cases c24 : (a1 ++ a0).size + t219.size ≤ 9223372036854775807
                  · rw [if_pos c24] at H
                    have c24b0 := eq_true c24
                    have c24b1 : decide ((a1 ++ a0).size + t219.size ≤ 9223372036854775807) = true := decide_eq_true c24
                    try have c24b2 : (9223372036854775807 < (a1 ++ a0).size + t219.size) = False := eq_false (Nat.not_lt.2 c24)
                    try have c24b4 : (9223372036854775807 < (a1.size + a0.size) + t219.size) = False := eq_false (by have h_ := c24; simp only [ByteArray.size_append] at h_; (first | omega | (simp at h_; omega)))
                    by_cases c25 : ((a1 ++ a0) ++ t219).size + 1 ≤ 9223372036854775807
                    · rw [if_pos c25] at H
                      have c25b0 := eq_true c25
                      have c25b1 : decide (((a1 ++ a0) ++ t219).size + 1 ≤ 9223372036854775807) = true := decide_eq_true c25
                      try have c25b2 : (9223372036854775807 < ((a1 ++ a0) ++ t219).size + 1) = False := eq_false (Nat.not_lt.2 c25)
                      try have c25b4 : (9223372036854775807 < ((a1.size + a0.size) + t219.size) + 1) = False := eq_false (by have h_ := c25; simp only [ByteArray.size_append] at h_; (first | omega | (simp at h_; omega)))
                      replace H := Option.bind_eq_some_iff.mp H
                      obtain ⟨⟨t223, t224, t225⟩, A260, H⟩ := H
                      replace H : ((comp_Read.f kj10 (((a1 ++ a0) ++ t219) ++ (⟨#[122]⟩ : ByteArray)) (wrap64 ((a1.size : Int) + (a0.size : Int)))).bind fun bt226 => (if t223.toList = a0.toList then (if t224 = (wrap64 ((a1.size : Int) + (a0.size : Int))) then (if t225 = 0 then (if bt226.2.2 = 0 then ((wellspringref02_Same.f kj10 bt226.1 a2).bind fun t229 => (if t229 = true then (if bt226.2.1 = (wrap64 (((((a1 ++ a0) ++ t219) ++ (⟨#[122]⟩ : ByteArray)).size : Int) - 1)) then (if (t219.size : Int) ≤ (a2.size : Int) then ((wellspringlaw04_live.f kj10).bind fun t230 => (some t230)) else (some false)) else (some false)) else (some false))) else (some false)) else (some false)) else (some false)) else (some false))) = some r := H
                      have A26 := Aside0.mk A260
                      clear A260
                      replace H := Option.bind_eq_some_iff.mp H
                      obtain ⟨⟨t226, t227, t228⟩, A270, H⟩ := H
                      replace H : (if t223.toList = a0.toList then (if t224 = (wrap64 ((a1.size : Int) + (a0.size : Int))) then (if t225 = 0 then (if t228 = 0 then ((wellspringref02_Same.f kj10 t226 a2).bind fun t229 => (if t229 = true then (if t227 = (wrap64 (((((a1 ++ a0) ++ t219) ++ (⟨#[122]⟩ : ByteArray)).size : Int) - 1)) then (if (t219.size : Int) ≤ (a2.size : Int) then ((wellspringlaw04_live.f kj10).bind fun t230 => (some t230)) else (some false)) else (some false)) else (some false))) else (some false)) else (some false)) else (some false)) else (some false)) = some r := H
                      have A27 := Aside0.mk A270
                      clear A270
                      by_cases c28 : t223.toList = a0.toList
                      · rw [if_pos c28] at H
                        have c28b0 : (t223.toList == a0.toList) = true := beq_iff_eq.mpr c28
                        have c28b1 : (t223.toList != a0.toList) = false := bne_eq_false_iff_eq.mpr c28
                        clear c28
                        by_cases c29 : t224 = (wrap64 ((a1.size : Int) + (a0.size : Int)))
                        · rw [if_pos c29] at H
                          have c29b0 : (t224 == (wrap64 ((a1.size : Int) + (a0.size : Int)))) = true := beq_iff_eq.mpr c29
                          have c29b1 : (t224 != (wrap64 ((a1.size : Int) + (a0.size : Int)))) = false := bne_eq_false_iff_eq.mpr c29
                          (try (have c29b2 : (t224 == (((a1.size : Int) + (a0.size : Int)))) = true := by have h_ : (t224 == (wrap64 ((a1.size : Int) + (a0.size : Int)))) = true := beq_iff_eq.mpr c29; rw [Go.Proofs.Ytdkkanpbcifkfaa.B.w64 (by omega) (by omega)] at h_; exact h_))
                          (try (have c29b3 : (t224 != (((a1.size : Int) + (a0.size : Int)))) = false := by have h_ : (t224 != (wrap64 ((a1.size : Int) + (a0.size : Int)))) = false := bne_eq_false_iff_eq.mpr c29; rw [Go.Proofs.Ytdkkanpbcifkfaa.B.w64 (by omega) (by omega)] at h_; exact h_))
                          clear c29
                          by_cases c30 : t225 = 0
                          · rw [if_pos c30] at H
                            have c30b0 : (t225 == 0) = true := beq_iff_eq.mpr c30
                            have c30b1 : (t225 != 0) = false := bne_eq_false_iff_eq.mpr c30
                            clear c30
                            by_cases c31 : t228 = 0
                            · rw [if_pos c31] at H
                              have c31b0 : (t228 == 0) = true := beq_iff_eq.mpr c31
                              have c31b1 : (t228 != 0) = false := bne_eq_false_iff_eq.mpr c31
                              clear c31
                              replace H := Option.bind_eq_some_iff.mp H
                              obtain ⟨t229, A320, H⟩ := H
                              replace H : (if t229 = true then (if t227 = (wrap64 (((((a1 ++ a0) ++ t219) ++ (⟨#[122]⟩ : ByteArray)).size : Int) - 1)) then (if (t219.size : Int) ≤ (a2.size : Int) then ((wellspringlaw04_live.f kj10).bind fun t230 => (some t230)) else (some false)) else (some false)) else (some false)) = some r := H
                              have A32 := Aside0.mk A320
                              clear A320
                              by_cases c33 : t229 = true
                              · subst c33
                                have H1 : (if t227 = (wrap64 (((((a1 ++ a0) ++ t219) ++ (⟨#[122]⟩ : ByteArray)).size : Int) - 1)) then (if (t219.size : Int) ≤ (a2.size : Int) then ((wellspringlaw04_live.f kj10).bind fun t230 => (some t230)) else (some false)) else (some false)) = some r := by rw [if_pos rfl] at H; exact H
                                clear H
                                have H := H1
                                clear H1
                                by_cases c34 : t227 = (wrap64 (((((a1 ++ a0) ++ t219) ++ (⟨#[122]⟩ : ByteArray)).size : Int) - 1))
                                · rw [if_pos c34] at H
                                  have c34b0 : (t227 == (wrap64 (((((a1 ++ a0) ++ t219) ++ (⟨#[122]⟩ : ByteArray)).size : Int) - 1))) = true := beq_iff_eq.mpr c34
                                  have c34b1 : (t227 != (wrap64 (((((a1 ++ a0) ++ t219) ++ (⟨#[122]⟩ : ByteArray)).size : Int) - 1))) = false := bne_eq_false_iff_eq.mpr c34
                                  (try (have c34b2 : (t227 == (wrap64 (((((a1.size : Int) + (a0.size : Int)) + (t219.size : Int)) + 1) - 1))) = true := by have h_ : (t227 == (wrap64 (((((a1 ++ a0) ++ t219) ++ (⟨#[122]⟩ : ByteArray)).size : Int) - 1))) = true := beq_iff_eq.mpr c34; rw [show ((((a1 ++ a0) ++ t219) ++ (⟨#[122]⟩ : ByteArray)).size : Int) = ((((a1.size : Int) + (a0.size : Int)) + (t219.size : Int)) + 1) from by (simp only [ByteArray.size_append, Int.natCast_add]; first | done | rfl)] at h_; (first | exact h_ | (simp only [Int.add_sub_cancel] at h_; exact h_))))
                                  (try (have c34b3 : (t227 == (wrap64 (((a1.size : Int) + (a0.size : Int)) + (t219.size : Int)))) = true := by have h_ : (t227 == (wrap64 (((((a1 ++ a0) ++ t219) ++ (⟨#[122]⟩ : ByteArray)).size : Int) - 1))) = true := beq_iff_eq.mpr c34; rw [show ((((a1 ++ a0) ++ t219) ++ (⟨#[122]⟩ : ByteArray)).size : Int) = ((((a1.size : Int) + (a0.size : Int)) + (t219.size : Int)) + 1) from by (simp only [ByteArray.size_append, Int.natCast_add]; first | done | rfl)] at h_; (first | exact h_ | (simp only [Int.add_sub_cancel] at h_; exact h_))))
                                  (try (have c34b4 : (t227 != (wrap64 (((((a1.size : Int) + (a0.size : Int)) + (t219.size : Int)) + 1) - 1))) = false := by have h_ : (t227 != (wrap64 (((((a1 ++ a0) ++ t219) ++ (⟨#[122]⟩ : ByteArray)).size : Int) - 1))) = false := bne_eq_false_iff_eq.mpr c34; rw [show ((((a1 ++ a0) ++ t219) ++ (⟨#[122]⟩ : ByteArray)).size : Int) = ((((a1.size : Int) + (a0.size : Int)) + (t219.size : Int)) + 1) from by (simp only [ByteArray.size_append, Int.natCast_add]; first | done | rfl)] at h_; (first | exact h_ | (simp only [Int.add_sub_cancel] at h_; exact h_))))
                                  (try (have c34b5 : (t227 != (wrap64 (((a1.size : Int) + (a0.size : Int)) + (t219.size : Int)))) = false := by have h_ : (t227 != (wrap64 (((((a1 ++ a0) ++ t219) ++ (⟨#[122]⟩ : ByteArray)).size : Int) - 1))) = false := bne_eq_false_iff_eq.mpr c34; rw [show ((((a1 ++ a0) ++ t219) ++ (⟨#[122]⟩ : ByteArray)).size : Int) = ((((a1.size : Int) + (a0.size : Int)) + (t219.size : Int)) + 1) from by (simp only [ByteArray.size_append, Int.natCast_add]; first | done | rfl)] at h_; (first | exact h_ | (simp only [Int.add_sub_cancel] at h_; exact h_))))
                                  (try (have c34b6 : (t227 == ((((((a1 ++ a0) ++ t219) ++ (⟨#[122]⟩ : ByteArray)).size : Int) - 1))) = true := by have h_ : (t227 == (wrap64 (((((a1 ++ a0) ++ t219) ++ (⟨#[122]⟩ : ByteArray)).size : Int) - 1))) = true := beq_iff_eq.mpr c34; rw [Go.Proofs.Ytdkkanpbcifkfaa.B.w64 (by omega) (by omega)] at h_; exact h_))
                                  (try (have c34b7 : (t227 != ((((((a1 ++ a0) ++ t219) ++ (⟨#[122]⟩ : ByteArray)).size : Int) - 1))) = false := by have h_ : (t227 != (wrap64 (((((a1 ++ a0) ++ t219) ++ (⟨#[122]⟩ : ByteArray)).size : Int) - 1))) = false := bne_eq_false_iff_eq.mpr c34; rw [Go.Proofs.Ytdkkanpbcifkfaa.B.w64 (by omega) (by omega)] at h_; exact h_))
                                  (try (have c34b8 : (t227 == ((((((a1.size : Int) + (a0.size : Int)) + (t219.size : Int)) + 1) - 1))) = true := by have h_ : (t227 == (wrap64 (((((a1.size : Int) + (a0.size : Int)) + (t219.size : Int)) + 1) - 1))) = true := by have h_ : (t227 == (wrap64 (((((a1 ++ a0) ++ t219) ++ (⟨#[122]⟩ : ByteArray)).size : Int) - 1))) = true := beq_iff_eq.mpr c34; rw [show ((((a1 ++ a0) ++ t219) ++ (⟨#[122]⟩ : ByteArray)).size : Int) = ((((a1.size : Int) + (a0.size : Int)) + (t219.size : Int)) + 1) from by (simp only [ByteArray.size_append, Int.natCast_add]; first | done | rfl)] at h_; (first | exact h_ | (simp only [Int.add_sub_cancel] at h_; exact h_)); rw [Go.Proofs.Ytdkkanpbcifkfaa.B.w64 (by omega) (by omega)] at h_; exact h_))
                                  (try (have c34b9 : (t227 == ((((a1.size : Int) + (a0.size : Int)) + (t219.size : Int)))) = true := by have h_ : (t227 == (wrap64 (((a1.size : Int) + (a0.size : Int)) + (t219.size : Int)))) = true := by have h_ : (t227 == (wrap64 (((((a1 ++ a0) ++ t219) ++ (⟨#[122]⟩ : ByteArray)).size : Int) - 1))) = true := beq_iff_eq.mpr c34; rw [show ((((a1 ++ a0) ++ t219) ++ (⟨#[122]⟩ : ByteArray)).size : Int) = ((((a1.size : Int) + (a0.size : Int)) + (t219.size : Int)) + 1) from by (simp only [ByteArray.size_append, Int.natCast_add]; first | done | rfl)] at h_; (first | exact h_ | (simp only [Int.add_sub_cancel] at h_; exact h_)); rw [Go.Proofs.Ytdkkanpbcifkfaa.B.w64 (by omega) (by omega)] at h_; exact h_))
                                  (try (have c34b10 : (t227 != ((((((a1.size : Int) + (a0.size : Int)) + (t219.size : Int)) + 1) - 1))) = false := by have h_ : (t227 != (wrap64 (((((a1.size : Int) + (a0.size : Int)) + (t219.size : Int)) + 1) - 1))) = false := by have h_ : (t227 != (wrap64 (((((a1 ++ a0) ++ t219) ++ (⟨#[122]⟩ : ByteArray)).size : Int) - 1))) = false := bne_eq_false_iff_eq.mpr c34; rw [show ((((a1 ++ a0) ++ t219) ++ (⟨#[122]⟩ : ByteArray)).size : Int) = ((((a1.size : Int) + (a0.size : Int)) + (t219.size : Int)) + 1) from by (simp only [ByteArray.size_append, Int.natCast_add]; first | done | rfl)] at h_; (first | exact h_ | (simp only [Int.add_sub_cancel] at h_; exact h_)); rw [Go.Proofs.Ytdkkanpbcifkfaa.B.w64 (by omega) (by omega)] at h_; exact h_))
                                  (try (have c34b11 : (t227 != ((((a1.size : Int) + (a0.size : Int)) + (t219.size : Int)))) = false := by have h_ : (t227 != (wrap64 (((a1.size : Int) + (a0.size : Int)) + (t219.size : Int)))) = false := by have h_ : (t227 != (wrap64 (((((a1 ++ a0) ++ t219) ++ (⟨#[122]⟩ : ByteArray)).size : Int) - 1))) = false := bne_eq_false_iff_eq.mpr c34; rw [show ((((a1 ++ a0) ++ t219) ++ (⟨#[122]⟩ : ByteArray)).size : Int) = ((((a1.size : Int) + (a0.size : Int)) + (t219.size : Int)) + 1) from by (simp only [ByteArray.size_append, Int.natCast_add]; first | done | rfl)] at h_; (first | exact h_ | (simp only [Int.add_sub_cancel] at h_; exact h_)); rw [Go.Proofs.Ytdkkanpbcifkfaa.B.w64 (by omega) (by omega)] at h_; exact h_))
                                  clear c34
                                  by_cases c35 : (t219.size : Int) ≤ (a2.size : Int)
                                  · rw [if_pos c35] at H
                                    have c35b0 : decide ((t219.size : Int) ≤ (a2.size : Int)) = true := decide_eq_true c35
                                    have c35b1 : decide (t219.size ≤ a2.size) = true := decide_eq_true (Int.ofNat_le.mp c35)
                                    clear c35
                                    replace H := Option.bind_eq_some_iff.mp H
                                    obtain ⟨t230, A360, H⟩ := H
                                    replace H : (some t230) = some r := H
                                    have A36 := Aside0.mk A360
                                    clear A360
                                    obtain rfl := Option.some.inj H
                                    go_wp2_with (first | ((with_reducible refine gate_callee (f := 21) rfl ?_); refine goesL_ (some 58) rfl rfl Try.func21 (by kernel_rfl) rfl #[.string (((a1 ++ a0) ++ t219) ++ (⟨#[122]⟩ : ByteArray)), .int .i64 (a1.size : Int)] rfl (by (try simp only [List.map_toArray, List.map_cons, List.map_nil]); first | done | rfl | (simp only [List.length_drop, List.length_take]; rfl) | (rw [Go.Proofs.Ytdkkanpbcifkfaa.B.w64] <;> first | rfl | omega | (simp only [decide_eq_false_iff_not, decide_eq_true_eq, Int.not_lt, Nat.not_lt, gt_iff_lt] at * <;> omega))) ?_; (with_reducible refine (comp_Read.calls kj10 (((a1 ++ a0) ++ t219) ++ (⟨#[122]⟩ : ByteArray)) (a1.size : Int) t223 t224 t225 _ A26.out).mono ?_); rintro e w37 ⟨rfl, hb⟩; refine ⟨_, rfl, ?_⟩; have n0_ := Aside0.mk (below_step (by repeat (first | (with_reducible first | exact HB.out | apply below_alloc | apply pw_below_drewN | apply below_drew1) | exact HB.out)) hb); clear HB; have HB := n0_; clear n0_; (try clear hb); (try clear hb2); (try clear hk); (try clear hi)) | ((with_reducible refine gate_callee (f := 21) rfl ?_); refine goesL_ (some 69) rfl rfl Try.func21 (by kernel_rfl) rfl #[.string (((a1 ++ a0) ++ t219) ++ (⟨#[122]⟩ : ByteArray)), .int .i64 (wrap64 ((a1.size : Int) + (a0.size : Int)))] rfl (by (try simp only [List.map_toArray, List.map_cons, List.map_nil]); first | done | rfl | (simp only [List.length_drop, List.length_take]; rfl) | (rw [Go.Proofs.Ytdkkanpbcifkfaa.B.w64] <;> first | rfl | omega | (simp only [decide_eq_false_iff_not, decide_eq_true_eq, Int.not_lt, Nat.not_lt, gt_iff_lt] at * <;> omega))) ?_; (with_reducible refine (comp_Read.calls kj10 (((a1 ++ a0) ++ t219) ++ (⟨#[122]⟩ : ByteArray)) (wrap64 ((a1.size : Int) + (a0.size : Int))) t226 t227 t228 _ A27.out).mono ?_); rintro e w38 ⟨rfl, hb⟩; refine ⟨_, rfl, ?_⟩; have n0_ := Aside0.mk (below_step (by repeat (first | (with_reducible first | exact HB.out | apply below_alloc | apply pw_below_drewN | apply below_drew1) | exact HB.out)) hb); clear HB; have HB := n0_; clear n0_; (try clear hb); (try clear hb2); (try clear hk); (try clear hi)) | (go_at_call 26; (with_reducible refine (wellspringref02_Same.calls kj10 t226 a2 true _ A32.out).mono ?_); rintro e w39 ⟨rfl, hb⟩; have n0_ := Aside0.mk (below_step (by repeat (first | (with_reducible first | exact HB.out | apply below_alloc | apply pw_below_drewN | apply below_drew1) | exact HB.out)) hb); clear HB; have HB := n0_; clear n0_; (try clear hb); (try clear hb2); (try clear hk); (try clear hi)) | (go_at_call 20; (with_reducible refine (wellspringlaw04_live.calls kj10  t230 _ A36.out).mono ?_); rintro e w40 ⟨rfl, hb⟩; have n0_ := Aside0.mk (below_step (by repeat (first | (with_reducible first | exact HB.out | apply below_alloc | apply pw_below_drewN | apply below_drew1) | exact HB.out)) hb); clear HB; have HB := n0_; clear n0_; (try clear hb); (try clear hb2); (try clear hk); (try clear hi)))
                                    go_ret
                                    exact ⟨by first | rfl | (simp [errW_none, errW_some] <;> rfl) | (simp [*, errW_none, errW_some] <;> rfl), by repeat (first | (with_reducible first | exact HB.out | apply below_alloc | apply pw_below_drewN | apply below_drew1) | exact HB.out)⟩
                                  · rw [if_neg c35] at H
                                    have c35b0 : decide ((t219.size : Int) ≤ (a2.size : Int)) = false := decide_eq_false c35
                                    have c35b1 : decide (t219.size ≤ a2.size) = false := decide_eq_false (fun h => c35 (Int.ofNat_le.mpr h))
                                    clear c35
                                    obtain rfl := Option.some.inj H
                                    go_wp2_with (first | ((with_reducible refine gate_callee (f := 21) rfl ?_); refine goesL_ (some 58) rfl rfl Try.func21 (by kernel_rfl) rfl #[.string (((a1 ++ a0) ++ t219) ++ (⟨#[122]⟩ : ByteArray)), .int .i64 (a1.size : Int)] rfl (by (try simp only [List.map_toArray, List.map_cons, List.map_nil]); first | done | rfl | (simp only [List.length_drop, List.length_take]; rfl) | (rw [Go.Proofs.Ytdkkanpbcifkfaa.B.w64] <;> first | rfl | omega | (simp only [decide_eq_false_iff_not, decide_eq_true_eq, Int.not_lt, Nat.not_lt, gt_iff_lt] at * <;> omega))) ?_; (with_reducible refine (comp_Read.calls kj10 (((a1 ++ a0) ++ t219) ++ (⟨#[122]⟩ : ByteArray)) (a1.size : Int) t223 t224 t225 _ A26.out).mono ?_); rintro e w41 ⟨rfl, hb⟩; refine ⟨_, rfl, ?_⟩; have n0_ := Aside0.mk (below_step (by repeat (first | (with_reducible first | exact HB.out | apply below_alloc | apply pw_below_drewN | apply below_drew1) | exact HB.out)) hb); clear HB; have HB := n0_; clear n0_; (try clear hb); (try clear hb2); (try clear hk); (try clear hi)) | ((with_reducible refine gate_callee (f := 21) rfl ?_); refine goesL_ (some 69) rfl rfl Try.func21 (by kernel_rfl) rfl #[.string (((a1 ++ a0) ++ t219) ++ (⟨#[122]⟩ : ByteArray)), .int .i64 (wrap64 ((a1.size : Int) + (a0.size : Int)))] rfl (by (try simp only [List.map_toArray, List.map_cons, List.map_nil]); first | done | rfl | (simp only [List.length_drop, List.length_take]; rfl) | (rw [Go.Proofs.Ytdkkanpbcifkfaa.B.w64] <;> first | rfl | omega | (simp only [decide_eq_false_iff_not, decide_eq_true_eq, Int.not_lt, Nat.not_lt, gt_iff_lt] at * <;> omega))) ?_; (with_reducible refine (comp_Read.calls kj10 (((a1 ++ a0) ++ t219) ++ (⟨#[122]⟩ : ByteArray)) (wrap64 ((a1.size : Int) + (a0.size : Int))) t226 t227 t228 _ A27.out).mono ?_); rintro e w42 ⟨rfl, hb⟩; refine ⟨_, rfl, ?_⟩; have n0_ := Aside0.mk (below_step (by repeat (first | (with_reducible first | exact HB.out | apply below_alloc | apply pw_below_drewN | apply below_drew1) | exact HB.out)) hb); clear HB; have HB := n0_; clear n0_; (try clear hb); (try clear hb2); (try clear hk); (try clear hi)) | (go_at_call 26; (with_reducible refine (wellspringref02_Same.calls kj10 t226 a2 true _ A32.out).mono ?_); rintro e w43 ⟨rfl, hb⟩; have n0_ := Aside0.mk (below_step (by repeat (first | (with_reducible first | exact HB.out | apply below_alloc | apply pw_below_drewN | apply below_drew1) | exact HB.out)) hb); clear HB; have HB := n0_; clear n0_; (try clear hb); (try clear hb2); (try clear hk); (try clear hi)))
                                    go_ret
                                    exact ⟨by first | rfl | (simp [errW_none, errW_some] <;> rfl) | (simp [*, errW_none, errW_some] <;> rfl), by repeat (first | (with_reducible first | exact HB.out | apply below_alloc | apply pw_below_drewN | apply below_drew1) | exact HB.out)⟩
                                · rw [if_neg c34] at H
                                  have c34b0 : (t227 == (wrap64 (((((a1 ++ a0) ++ t219) ++ (⟨#[122]⟩ : ByteArray)).size : Int) - 1))) = false := beq_eq_false_iff_ne.mpr c34
                                  have c34b1 : (t227 != (wrap64 (((((a1 ++ a0) ++ t219) ++ (⟨#[122]⟩ : ByteArray)).size : Int) - 1))) = true := bne_iff_ne.mpr c34
                                  (try (have c34b2 : (t227 == (wrap64 (((((a1.size : Int) + (a0.size : Int)) + (t219.size : Int)) + 1) - 1))) = false := by have h_ : (t227 == (wrap64 (((((a1 ++ a0) ++ t219) ++ (⟨#[122]⟩ : ByteArray)).size : Int) - 1))) = false := beq_eq_false_iff_ne.mpr c34; rw [show ((((a1 ++ a0) ++ t219) ++ (⟨#[122]⟩ : ByteArray)).size : Int) = ((((a1.size : Int) + (a0.size : Int)) + (t219.size : Int)) + 1) from by (simp only [ByteArray.size_append, Int.natCast_add]; first | done | rfl)] at h_; (first | exact h_ | (simp only [Int.add_sub_cancel] at h_; exact h_))))
                                  (try (have c34b3 : (t227 == (wrap64 (((a1.size : Int) + (a0.size : Int)) + (t219.size : Int)))) = false := by have h_ : (t227 == (wrap64 (((((a1 ++ a0) ++ t219) ++ (⟨#[122]⟩ : ByteArray)).size : Int) - 1))) = false := beq_eq_false_iff_ne.mpr c34; rw [show ((((a1 ++ a0) ++ t219) ++ (⟨#[122]⟩ : ByteArray)).size : Int) = ((((a1.size : Int) + (a0.size : Int)) + (t219.size : Int)) + 1) from by (simp only [ByteArray.size_append, Int.natCast_add]; first | done | rfl)] at h_; (first | exact h_ | (simp only [Int.add_sub_cancel] at h_; exact h_))))
                                  (try (have c34b4 : (t227 != (wrap64 (((((a1.size : Int) + (a0.size : Int)) + (t219.size : Int)) + 1) - 1))) = true := by have h_ : (t227 != (wrap64 (((((a1 ++ a0) ++ t219) ++ (⟨#[122]⟩ : ByteArray)).size : Int) - 1))) = true := bne_iff_ne.mpr c34; rw [show ((((a1 ++ a0) ++ t219) ++ (⟨#[122]⟩ : ByteArray)).size : Int) = ((((a1.size : Int) + (a0.size : Int)) + (t219.size : Int)) + 1) from by (simp only [ByteArray.size_append, Int.natCast_add]; first | done | rfl)] at h_; (first | exact h_ | (simp only [Int.add_sub_cancel] at h_; exact h_))))
                                  (try (have c34b5 : (t227 != (wrap64 (((a1.size : Int) + (a0.size : Int)) + (t219.size : Int)))) = true := by have h_ : (t227 != (wrap64 (((((a1 ++ a0) ++ t219) ++ (⟨#[122]⟩ : ByteArray)).size : Int) - 1))) = true := bne_iff_ne.mpr c34; rw [show ((((a1 ++ a0) ++ t219) ++ (⟨#[122]⟩ : ByteArray)).size : Int) = ((((a1.size : Int) + (a0.size : Int)) + (t219.size : Int)) + 1) from by (simp only [ByteArray.size_append, Int.natCast_add]; first | done | rfl)] at h_; (first | exact h_ | (simp only [Int.add_sub_cancel] at h_; exact h_))))
                                  (try (have c34b6 : (t227 == ((((((a1 ++ a0) ++ t219) ++ (⟨#[122]⟩ : ByteArray)).size : Int) - 1))) = false := by have h_ : (t227 == (wrap64 (((((a1 ++ a0) ++ t219) ++ (⟨#[122]⟩ : ByteArray)).size : Int) - 1))) = false := beq_eq_false_iff_ne.mpr c34; rw [Go.Proofs.Ytdkkanpbcifkfaa.B.w64 (by omega) (by omega)] at h_; exact h_))
                                  (try (have c34b7 : (t227 != ((((((a1 ++ a0) ++ t219) ++ (⟨#[122]⟩ : ByteArray)).size : Int) - 1))) = true := by have h_ : (t227 != (wrap64 (((((a1 ++ a0) ++ t219) ++ (⟨#[122]⟩ : ByteArray)).size : Int) - 1))) = true := bne_iff_ne.mpr c34; rw [Go.Proofs.Ytdkkanpbcifkfaa.B.w64 (by omega) (by omega)] at h_; exact h_))
                                  (try (have c34b8 : (t227 == ((((((a1.size : Int) + (a0.size : Int)) + (t219.size : Int)) + 1) - 1))) = false := by have h_ : (t227 == (wrap64 (((((a1.size : Int) + (a0.size : Int)) + (t219.size : Int)) + 1) - 1))) = false := by have h_ : (t227 == (wrap64 (((((a1 ++ a0) ++ t219) ++ (⟨#[122]⟩ : ByteArray)).size : Int) - 1))) = false := beq_eq_false_iff_ne.mpr c34; rw [show ((((a1 ++ a0) ++ t219) ++ (⟨#[122]⟩ : ByteArray)).size : Int) = ((((a1.size : Int) + (a0.size : Int)) + (t219.size : Int)) + 1) from by (simp only [ByteArray.size_append, Int.natCast_add]; first | done | rfl)] at h_; (first | exact h_ | (simp only [Int.add_sub_cancel] at h_; exact h_)); rw [Go.Proofs.Ytdkkanpbcifkfaa.B.w64 (by omega) (by omega)] at h_; exact h_))
                                  (try (have c34b9 : (t227 == ((((a1.size : Int) + (a0.size : Int)) + (t219.size : Int)))) = false := by have h_ : (t227 == (wrap64 (((a1.size : Int) + (a0.size : Int)) + (t219.size : Int)))) = false := by have h_ : (t227 == (wrap64 (((((a1 ++ a0) ++ t219) ++ (⟨#[122]⟩ : ByteArray)).size : Int) - 1))) = false := beq_eq_false_iff_ne.mpr c34; rw [show ((((a1 ++ a0) ++ t219) ++ (⟨#[122]⟩ : ByteArray)).size : Int) = ((((a1.size : Int) + (a0.size : Int)) + (t219.size : Int)) + 1) from by (simp only [ByteArray.size_append, Int.natCast_add]; first | done | rfl)] at h_; (first | exact h_ | (simp only [Int.add_sub_cancel] at h_; exact h_)); rw [Go.Proofs.Ytdkkanpbcifkfaa.B.w64 (by omega) (by omega)] at h_; exact h_))
                                  (try (have c34b10 : (t227 != ((((((a1.size : Int) + (a0.size : Int)) + (t219.size : Int)) + 1) - 1))) = true := by have h_ : (t227 != (wrap64 (((((a1.size : Int) + (a0.size : Int)) + (t219.size : Int)) + 1) - 1))) = true := by have h_ : (t227 != (wrap64 (((((a1 ++ a0) ++ t219) ++ (⟨#[122]⟩ : ByteArray)).size : Int) - 1))) = true := bne_iff_ne.mpr c34; rw [show ((((a1 ++ a0) ++ t219) ++ (⟨#[122]⟩ : ByteArray)).size : Int) = ((((a1.size : Int) + (a0.size : Int)) + (t219.size : Int)) + 1) from by (simp only [ByteArray.size_append, Int.natCast_add]; first | done | rfl)] at h_; (first | exact h_ | (simp only [Int.add_sub_cancel] at h_; exact h_)); rw [Go.Proofs.Ytdkkanpbcifkfaa.B.w64 (by omega) (by omega)] at h_; exact h_))
                                  (try (have c34b11 : (t227 != ((((a1.size : Int) + (a0.size : Int)) + (t219.size : Int)))) = true := by have h_ : (t227 != (wrap64 (((a1.size : Int) + (a0.size : Int)) + (t219.size : Int)))) = true := by have h_ : (t227 != (wrap64 (((((a1 ++ a0) ++ t219) ++ (⟨#[122]⟩ : ByteArray)).size : Int) - 1))) = true := bne_iff_ne.mpr c34; rw [show ((((a1 ++ a0) ++ t219) ++ (⟨#[122]⟩ : ByteArray)).size : Int) = ((((a1.size : Int) + (a0.size : Int)) + (t219.size : Int)) + 1) from by (simp only [ByteArray.size_append, Int.natCast_add]; first | done | rfl)] at h_; (first | exact h_ | (simp only [Int.add_sub_cancel] at h_; exact h_)); rw [Go.Proofs.Ytdkkanpbcifkfaa.B.w64 (by omega) (by omega)] at h_; exact h_))
                                  obtain rfl := Option.some.inj H
                                  go_wp2_with (first | ((with_reducible refine gate_callee (f := 21) rfl ?_); refine goesL_ (some 58) rfl rfl Try.func21 (by kernel_rfl) rfl #[.string (((a1 ++ a0) ++ t219) ++ (⟨#[122]⟩ : ByteArray)), .int .i64 (a1.size : Int)] rfl (by (try simp only [List.map_toArray, List.map_cons, List.map_nil]); first | done | rfl | (simp only [List.length_drop, List.length_take]; rfl) | (rw [Go.Proofs.Ytdkkanpbcifkfaa.B.w64] <;> first | rfl | omega | (simp only [decide_eq_false_iff_not, decide_eq_true_eq, Int.not_lt, Nat.not_lt, gt_iff_lt] at * <;> omega))) ?_; (with_reducible refine (comp_Read.calls kj10 (((a1 ++ a0) ++ t219) ++ (⟨#[122]⟩ : ByteArray)) (a1.size : Int) t223 t224 t225 _ A26.out).mono ?_); rintro e w44 ⟨rfl, hb⟩; refine ⟨_, rfl, ?_⟩; have n0_ := Aside0.mk (below_step (by repeat (first | (with_reducible first | exact HB.out | apply below_alloc | apply pw_below_drewN | apply below_drew1) | exact HB.out)) hb); clear HB; have HB := n0_; clear n0_; (try clear hb); (try clear hb2); (try clear hk); (try clear hi)) | ((with_reducible refine gate_callee (f := 21) rfl ?_); refine goesL_ (some 69) rfl rfl Try.func21 (by kernel_rfl) rfl #[.string (((a1 ++ a0) ++ t219) ++ (⟨#[122]⟩ : ByteArray)), .int .i64 (wrap64 ((a1.size : Int) + (a0.size : Int)))] rfl (by (try simp only [List.map_toArray, List.map_cons, List.map_nil]); first | done | rfl | (simp only [List.length_drop, List.length_take]; rfl) | (rw [Go.Proofs.Ytdkkanpbcifkfaa.B.w64] <;> first | rfl | omega | (simp only [decide_eq_false_iff_not, decide_eq_true_eq, Int.not_lt, Nat.not_lt, gt_iff_lt] at * <;> omega))) ?_; (with_reducible refine (comp_Read.calls kj10 (((a1 ++ a0) ++ t219) ++ (⟨#[122]⟩ : ByteArray)) (wrap64 ((a1.size : Int) + (a0.size : Int))) t226 t227 t228 _ A27.out).mono ?_); rintro e w45 ⟨rfl, hb⟩; refine ⟨_, rfl, ?_⟩; have n0_ := Aside0.mk (below_step (by repeat (first | (with_reducible first | exact HB.out | apply below_alloc | apply pw_below_drewN | apply below_drew1) | exact HB.out)) hb); clear HB; have HB := n0_; clear n0_; (try clear hb); (try clear hb2); (try clear hk); (try clear hi)) | (go_at_call 26; (with_reducible refine (wellspringref02_Same.calls kj10 t226 a2 true _ A32.out).mono ?_); rintro e w46 ⟨rfl, hb⟩; have n0_ := Aside0.mk (below_step (by repeat (first | (with_reducible first | exact HB.out | apply below_alloc | apply pw_below_drewN | apply below_drew1) | exact HB.out)) hb); clear HB; have HB := n0_; clear n0_; (try clear hb); (try clear hb2); (try clear hk); (try clear hi)))
                                  go_ret
                                  exact ⟨by first | rfl | (simp [errW_none, errW_some] <;> rfl) | (simp [*, errW_none, errW_some] <;> rfl), by repeat (first | (with_reducible first | exact HB.out | apply below_alloc | apply pw_below_drewN | apply below_drew1) | exact HB.out)⟩
                              · replace c33 := Bool.eq_false_iff.mpr c33
                                subst c33
                                have H1 : (some false) = some r := by rw [if_neg (show ¬ (false = true) by decide)] at H; exact H
                                clear H
                                have H := H1
                                clear H1
                                obtain rfl := Option.some.inj H
                                go_wp2_with (first | ((with_reducible refine gate_callee (f := 21) rfl ?_); refine goesL_ (some 58) rfl rfl Try.func21 (by kernel_rfl) rfl #[.string (((a1 ++ a0) ++ t219) ++ (⟨#[122]⟩ : ByteArray)), .int .i64 (a1.size : Int)] rfl (by (try simp only [List.map_toArray, List.map_cons, List.map_nil]); first | done | rfl | (simp only [List.length_drop, List.length_take]; rfl) | (rw [Go.Proofs.Ytdkkanpbcifkfaa.B.w64] <;> first | rfl | omega | (simp only [decide_eq_false_iff_not, decide_eq_true_eq, Int.not_lt, Nat.not_lt, gt_iff_lt] at * <;> omega))) ?_; (with_reducible refine (comp_Read.calls kj10 (((a1 ++ a0) ++ t219) ++ (⟨#[122]⟩ : ByteArray)) (a1.size : Int) t223 t224 t225 _ A26.out).mono ?_); rintro e w47 ⟨rfl, hb⟩; refine ⟨_, rfl, ?_⟩; have n0_ := Aside0.mk (below_step (by repeat (first | (with_reducible first | exact HB.out | apply below_alloc | apply pw_below_drewN | apply below_drew1) | exact HB.out)) hb); clear HB; have HB := n0_; clear n0_; (try clear hb); (try clear hb2); (try clear hk); (try clear hi)) | ((with_reducible refine gate_callee (f := 21) rfl ?_); refine goesL_ (some 69) rfl rfl Try.func21 (by kernel_rfl) rfl #[.string (((a1 ++ a0) ++ t219) ++ (⟨#[122]⟩ : ByteArray)), .int .i64 (wrap64 ((a1.size : Int) + (a0.size : Int)))] rfl (by (try simp only [List.map_toArray, List.map_cons, List.map_nil]); first | done | rfl | (simp only [List.length_drop, List.length_take]; rfl) | (rw [Go.Proofs.Ytdkkanpbcifkfaa.B.w64] <;> first | rfl | omega | (simp only [decide_eq_false_iff_not, decide_eq_true_eq, Int.not_lt, Nat.not_lt, gt_iff_lt] at * <;> omega))) ?_; (with_reducible refine (comp_Read.calls kj10 (((a1 ++ a0) ++ t219) ++ (⟨#[122]⟩ : ByteArray)) (wrap64 ((a1.size : Int) + (a0.size : Int))) t226 t227 t228 _ A27.out).mono ?_); rintro e w48 ⟨rfl, hb⟩; refine ⟨_, rfl, ?_⟩; have n0_ := Aside0.mk (below_step (by repeat (first | (with_reducible first | exact HB.out | apply below_alloc | apply pw_below_drewN | apply below_drew1) | exact HB.out)) hb); clear HB; have HB := n0_; clear n0_; (try clear hb); (try clear hb2); (try clear hk); (try clear hi)) | (go_at_call 26; (with_reducible refine (wellspringref02_Same.calls kj10 t226 a2 false _ A32.out).mono ?_); rintro e w49 ⟨rfl, hb⟩; have n0_ := Aside0.mk (below_step (by repeat (first | (with_reducible first | exact HB.out | apply below_alloc | apply pw_below_drewN | apply below_drew1) | exact HB.out)) hb); clear HB; have HB := n0_; clear n0_; (try clear hb); (try clear hb2); (try clear hk); (try clear hi)))
                                go_ret
                                exact ⟨by first | rfl | (simp [errW_none, errW_some] <;> rfl) | (simp [*, errW_none, errW_some] <;> rfl), by repeat (first | (with_reducible first | exact HB.out | apply below_alloc | apply pw_below_drewN | apply below_drew1) | exact HB.out)⟩
                            · rw [if_neg c31] at H
                              have c31b0 : (t228 == 0) = false := beq_eq_false_iff_ne.mpr c31
                              have c31b1 : (t228 != 0) = true := bne_iff_ne.mpr c31
                              obtain rfl := Option.some.inj H
                              go_wp2_with (first | ((with_reducible refine gate_callee (f := 21) rfl ?_); refine goesL_ (some 58) rfl rfl Try.func21 (by kernel_rfl) rfl #[.string (((a1 ++ a0) ++ t219) ++ (⟨#[122]⟩ : ByteArray)), .int .i64 (a1.size : Int)] rfl (by (try simp only [List.map_toArray, List.map_cons, List.map_nil]); first | done | rfl | (simp only [List.length_drop, List.length_take]; rfl) | (rw [Go.Proofs.Ytdkkanpbcifkfaa.B.w64] <;> first | rfl | omega | (simp only [decide_eq_false_iff_not, decide_eq_true_eq, Int.not_lt, Nat.not_lt, gt_iff_lt] at * <;> omega))) ?_; (with_reducible refine (comp_Read.calls kj10 (((a1 ++ a0) ++ t219) ++ (⟨#[122]⟩ : ByteArray)) (a1.size : Int) t223 t224 t225 _ A26.out).mono ?_); rintro e w50 ⟨rfl, hb⟩; refine ⟨_, rfl, ?_⟩; have n0_ := Aside0.mk (below_step (by repeat (first | (with_reducible first | exact HB.out | apply below_alloc | apply pw_below_drewN | apply below_drew1) | exact HB.out)) hb); clear HB; have HB := n0_; clear n0_; (try clear hb); (try clear hb2); (try clear hk); (try clear hi)) | ((with_reducible refine gate_callee (f := 21) rfl ?_); refine goesL_ (some 69) rfl rfl Try.func21 (by kernel_rfl) rfl #[.string (((a1 ++ a0) ++ t219) ++ (⟨#[122]⟩ : ByteArray)), .int .i64 (wrap64 ((a1.size : Int) + (a0.size : Int)))] rfl (by (try simp only [List.map_toArray, List.map_cons, List.map_nil]); first | done | rfl | (simp only [List.length_drop, List.length_take]; rfl) | (rw [Go.Proofs.Ytdkkanpbcifkfaa.B.w64] <;> first | rfl | omega | (simp only [decide_eq_false_iff_not, decide_eq_true_eq, Int.not_lt, Nat.not_lt, gt_iff_lt] at * <;> omega))) ?_; (with_reducible refine (comp_Read.calls kj10 (((a1 ++ a0) ++ t219) ++ (⟨#[122]⟩ : ByteArray)) (wrap64 ((a1.size : Int) + (a0.size : Int))) t226 t227 t228 _ A27.out).mono ?_); rintro e w51 ⟨rfl, hb⟩; refine ⟨_, rfl, ?_⟩; have n0_ := Aside0.mk (below_step (by repeat (first | (with_reducible first | exact HB.out | apply below_alloc | apply pw_below_drewN | apply below_drew1) | exact HB.out)) hb); clear HB; have HB := n0_; clear n0_; (try clear hb); (try clear hb2); (try clear hk); (try clear hi)))
                              go_ret
                              exact ⟨by first | rfl | (simp [errW_none, errW_some] <;> rfl) | (simp [*, errW_none, errW_some] <;> rfl), by repeat (first | (with_reducible first | exact HB.out | apply below_alloc | apply pw_below_drewN | apply below_drew1) | exact HB.out)⟩
                          · rw [if_neg c30] at H
                            have c30b0 : (t225 == 0) = false := beq_eq_false_iff_ne.mpr c30
                            have c30b1 : (t225 != 0) = true := bne_iff_ne.mpr c30
                            obtain rfl := Option.some.inj H
                            go_wp2_with (first | ((with_reducible refine gate_callee (f := 21) rfl ?_); refine goesL_ (some 58) rfl rfl Try.func21 (by kernel_rfl) rfl #[.string (((a1 ++ a0) ++ t219) ++ (⟨#[122]⟩ : ByteArray)), .int .i64 (a1.size : Int)] rfl (by (try simp only [List.map_toArray, List.map_cons, List.map_nil]); first | done | rfl | (simp only [List.length_drop, List.length_take]; rfl) | (rw [Go.Proofs.Ytdkkanpbcifkfaa.B.w64] <;> first | rfl | omega | (simp only [decide_eq_false_iff_not, decide_eq_true_eq, Int.not_lt, Nat.not_lt, gt_iff_lt] at * <;> omega))) ?_; (with_reducible refine (comp_Read.calls kj10 (((a1 ++ a0) ++ t219) ++ (⟨#[122]⟩ : ByteArray)) (a1.size : Int) t223 t224 t225 _ A26.out).mono ?_); rintro e w52 ⟨rfl, hb⟩; refine ⟨_, rfl, ?_⟩; have n0_ := Aside0.mk (below_step (by repeat (first | (with_reducible first | exact HB.out | apply below_alloc | apply pw_below_drewN | apply below_drew1) | exact HB.out)) hb); clear HB; have HB := n0_; clear n0_; (try clear hb); (try clear hb2); (try clear hk); (try clear hi)) | ((with_reducible refine gate_callee (f := 21) rfl ?_); refine goesL_ (some 69) rfl rfl Try.func21 (by kernel_rfl) rfl #[.string (((a1 ++ a0) ++ t219) ++ (⟨#[122]⟩ : ByteArray)), .int .i64 (wrap64 ((a1.size : Int) + (a0.size : Int)))] rfl (by (try simp only [List.map_toArray, List.map_cons, List.map_nil]); first | done | rfl | (simp only [List.length_drop, List.length_take]; rfl) | (rw [Go.Proofs.Ytdkkanpbcifkfaa.B.w64] <;> first | rfl | omega | (simp only [decide_eq_false_iff_not, decide_eq_true_eq, Int.not_lt, Nat.not_lt, gt_iff_lt] at * <;> omega))) ?_; (with_reducible refine (comp_Read.calls kj10 (((a1 ++ a0) ++ t219) ++ (⟨#[122]⟩ : ByteArray)) (wrap64 ((a1.size : Int) + (a0.size : Int))) t226 t227 t228 _ A27.out).mono ?_); rintro e w53 ⟨rfl, hb⟩; refine ⟨_, rfl, ?_⟩; have n0_ := Aside0.mk (below_step (by repeat (first | (with_reducible first | exact HB.out | apply below_alloc | apply pw_below_drewN | apply below_drew1) | exact HB.out)) hb); clear HB; have HB := n0_; clear n0_; (try clear hb); (try clear hb2); (try clear hk); (try clear hi)))
                            go_ret
                            exact ⟨by first | rfl | (simp [errW_none, errW_some] <;> rfl) | (simp [*, errW_none, errW_some] <;> rfl), by repeat (first | (with_reducible first | exact HB.out | apply below_alloc | apply pw_below_drewN | apply below_drew1) | exact HB.out)⟩
                        · rw [if_neg c29] at H
                          have c29b0 : (t224 == (wrap64 ((a1.size : Int) + (a0.size : Int)))) = false := beq_eq_false_iff_ne.mpr c29
                          have c29b1 : (t224 != (wrap64 ((a1.size : Int) + (a0.size : Int)))) = true := bne_iff_ne.mpr c29
                          (try (have c29b2 : (t224 == (((a1.size : Int) + (a0.size : Int)))) = false := by have h_ : (t224 == (wrap64 ((a1.size : Int) + (a0.size : Int)))) = false := beq_eq_false_iff_ne.mpr c29; rw [Go.Proofs.Ytdkkanpbcifkfaa.B.w64 (by omega) (by omega)] at h_; exact h_))
                          (try (have c29b3 : (t224 != (((a1.size : Int) + (a0.size : Int)))) = true := by have h_ : (t224 != (wrap64 ((a1.size : Int) + (a0.size : Int)))) = true := bne_iff_ne.mpr c29; rw [Go.Proofs.Ytdkkanpbcifkfaa.B.w64 (by omega) (by omega)] at h_; exact h_))
                          obtain rfl := Option.some.inj H
                          go_wp2_with (first | ((with_reducible refine gate_callee (f := 21) rfl ?_); refine goesL_ (some 58) rfl rfl Try.func21 (by kernel_rfl) rfl #[.string (((a1 ++ a0) ++ t219) ++ (⟨#[122]⟩ : ByteArray)), .int .i64 (a1.size : Int)] rfl (by (try simp only [List.map_toArray, List.map_cons, List.map_nil]); first | done | rfl | (simp only [List.length_drop, List.length_take]; rfl) | (rw [Go.Proofs.Ytdkkanpbcifkfaa.B.w64] <;> first | rfl | omega | (simp only [decide_eq_false_iff_not, decide_eq_true_eq, Int.not_lt, Nat.not_lt, gt_iff_lt] at * <;> omega))) ?_; (with_reducible refine (comp_Read.calls kj10 (((a1 ++ a0) ++ t219) ++ (⟨#[122]⟩ : ByteArray)) (a1.size : Int) t223 t224 t225 _ A26.out).mono ?_); rintro e w54 ⟨rfl, hb⟩; refine ⟨_, rfl, ?_⟩; have n0_ := Aside0.mk (below_step (by repeat (first | (with_reducible first | exact HB.out | apply below_alloc | apply pw_below_drewN | apply below_drew1) | exact HB.out)) hb); clear HB; have HB := n0_; clear n0_; (try clear hb); (try clear hb2); (try clear hk); (try clear hi)) | ((with_reducible refine gate_callee (f := 21) rfl ?_); refine goesL_ (some 69) rfl rfl Try.func21 (by kernel_rfl) rfl #[.string (((a1 ++ a0) ++ t219) ++ (⟨#[122]⟩ : ByteArray)), .int .i64 (wrap64 ((a1.size : Int) + (a0.size : Int)))] rfl (by (try simp only [List.map_toArray, List.map_cons, List.map_nil]); first | done | rfl | (simp only [List.length_drop, List.length_take]; rfl) | (rw [Go.Proofs.Ytdkkanpbcifkfaa.B.w64] <;> first | rfl | omega | (simp only [decide_eq_false_iff_not, decide_eq_true_eq, Int.not_lt, Nat.not_lt, gt_iff_lt] at * <;> omega))) ?_; (with_reducible refine (comp_Read.calls kj10 (((a1 ++ a0) ++ t219) ++ (⟨#[122]⟩ : ByteArray)) (wrap64 ((a1.size : Int) + (a0.size : Int))) t226 t227 t228 _ A27.out).mono ?_); rintro e w55 ⟨rfl, hb⟩; refine ⟨_, rfl, ?_⟩; have n0_ := Aside0.mk (below_step (by repeat (first | (with_reducible first | exact HB.out | apply below_alloc | apply pw_below_drewN | apply below_drew1) | exact HB.out)) hb); clear HB; have HB := n0_; clear n0_; (try clear hb); (try clear hb2); (try clear hk); (try clear hi)))
                          go_ret
                          exact ⟨by first | rfl | (simp [errW_none, errW_some] <;> rfl) | (simp [*, errW_none, errW_some] <;> rfl), by repeat (first | (with_reducible first | exact HB.out | apply below_alloc | apply pw_below_drewN | apply below_drew1) | exact HB.out)⟩
                      · rw [if_neg c28] at H
                        have c28b0 : (t223.toList == a0.toList) = false := beq_eq_false_iff_ne.mpr c28
                        have c28b1 : (t223.toList != a0.toList) = true := bne_iff_ne.mpr c28
                        obtain rfl := Option.some.inj H
                        go_wp2_with (first | ((with_reducible refine gate_callee (f := 21) rfl ?_); refine goesL_ (some 58) rfl rfl Try.func21 (by kernel_rfl) rfl #[.string (((a1 ++ a0) ++ t219) ++ (⟨#[122]⟩ : ByteArray)), .int .i64 (a1.size : Int)] rfl (by (try simp only [List.map_toArray, List.map_cons, List.map_nil]); first | done | rfl | (simp only [List.length_drop, List.length_take]; rfl) | (rw [Go.Proofs.Ytdkkanpbcifkfaa.B.w64] <;> first | rfl | omega | (simp only [decide_eq_false_iff_not, decide_eq_true_eq, Int.not_lt, Nat.not_lt, gt_iff_lt] at * <;> omega))) ?_; (with_reducible refine (comp_Read.calls kj10 (((a1 ++ a0) ++ t219) ++ (⟨#[122]⟩ : ByteArray)) (a1.size : Int) t223 t224 t225 _ A26.out).mono ?_); rintro e w56 ⟨rfl, hb⟩; refine ⟨_, rfl, ?_⟩; have n0_ := Aside0.mk (below_step (by repeat (first | (with_reducible first | exact HB.out | apply below_alloc | apply pw_below_drewN | apply below_drew1) | exact HB.out)) hb); clear HB; have HB := n0_; clear n0_; (try clear hb); (try clear hb2); (try clear hk); (try clear hi)) | ((with_reducible refine gate_callee (f := 21) rfl ?_); refine goesL_ (some 69) rfl rfl Try.func21 (by kernel_rfl) rfl #[.string (((a1 ++ a0) ++ t219) ++ (⟨#[122]⟩ : ByteArray)), .int .i64 (wrap64 ((a1.size : Int) + (a0.size : Int)))] rfl (by (try simp only [List.map_toArray, List.map_cons, List.map_nil]); first | done | rfl | (simp only [List.length_drop, List.length_take]; rfl) | (rw [Go.Proofs.Ytdkkanpbcifkfaa.B.w64] <;> first | rfl | omega | (simp only [decide_eq_false_iff_not, decide_eq_true_eq, Int.not_lt, Nat.not_lt, gt_iff_lt] at * <;> omega))) ?_; (with_reducible refine (comp_Read.calls kj10 (((a1 ++ a0) ++ t219) ++ (⟨#[122]⟩ : ByteArray)) (wrap64 ((a1.size : Int) + (a0.size : Int))) t226 t227 t228 _ A27.out).mono ?_); rintro e w57 ⟨rfl, hb⟩; refine ⟨_, rfl, ?_⟩; have n0_ := Aside0.mk (below_step (by repeat (first | (with_reducible first | exact HB.out | apply below_alloc | apply pw_below_drewN | apply below_drew1) | exact HB.out)) hb); clear HB; have HB := n0_; clear n0_; (try clear hb); (try clear hb2); (try clear hk); (try clear hi)))
                        go_ret
                        exact ⟨by first | rfl | (simp [errW_none, errW_some] <;> rfl) | (simp [*, errW_none, errW_some] <;> rfl), by repeat (first | (with_reducible first | exact HB.out | apply below_alloc | apply pw_below_drewN | apply below_drew1) | exact HB.out)⟩
                    · rw [if_neg c25] at H
                      exact absurd H (by simp)
                  · rw [if_neg c24] at H
                    exact absurd H (by simp)
                · rw [if_neg c23] at H
                  exact absurd H (by simp)

/-- THE ONE PURE STATEMENT of wellspringlaw04_CompBack: yours. -/
def wellspringlaw04_CompBack.Pure : Prop := ∀ (a0 : ByteArray) (a1 : ByteArray) (a2 : ByteArray), a0.size ≤ 140737488351232 → a1.size ≤ 140737488351232 → a2.size ≤ 140737488351232 → ∃ k, wellspringlaw04_CompBack.f k a0 a1 a2 = some true
theorem wellspringlaw04_CompBack.walk (P : wellspringlaw04_CompBack.Pure) (a0 : ByteArray) (a1 : ByteArray) (a2 : ByteArray) (w : World) (w0 : a0.size ≤ 140737488351232) (w1 : a1.size ≤ 140737488351232) (w2 : a2.size ≤ 140737488351232) :
    Calls Try.prog 5 #[.string a0, .string a1, .string a2] w fun e w' => e = .returned (.bool true) ∧ Below w.heap.size w w' := by
  obtain ⟨k, h⟩ := P a0 a1 a2 w0 w1 w2
  refine (wellspringlaw04_CompBack.calls k a0 a1 a2 true w h).mono ?_
  rintro e w' ⟨rfl, hd⟩
  exact ⟨rfl, hd⟩

end Go.Proofs.Ytdkkanpbcifkfaa.ZQ

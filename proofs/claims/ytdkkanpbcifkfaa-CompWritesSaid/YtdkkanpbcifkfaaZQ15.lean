-- Written by a program of this session (wip/tools/myprint.py), over the kit's printer; Lean checks it.
import Derived.Test.YtdkkanpbcifkfaaZQ0
import Derived.Test.YtdkkanpbcifkfaaZQ7
import Derived.Test.YtdkkanpbcifkfaaZQ9
namespace Go.Proofs.Ytdkkanpbcifkfaa.ZQ
open Go.RowKit Go.Proofs.YtdkkanpbcifkfaaW.PrintWords Go.Proofs.YtdkkanpbcifkfaaW.PrintLast Go.Proofs.YtdkkanpbcifkfaaW.PrintMore
attribute [local go_sem] max2_int min2_int max_two min_two max_three min_three max_four min_four   -- for this text's walks alone
set_option linter.unusedVariables false
set_option linter.unusedSimpArgs false

/-! ### wellspringlaw04_CompPrefix: function 8 -/
mutual
def wellspringlaw04_CompPrefix.j0 : Nat → ByteArray → Int → Int → Bool → Option (Bool)
  | 0, _, _, _, _ => none
  | k + 1, x0, x1, x2, x28 => if x28 = true then ((wellspringlaw04_live.f k).bind fun t239 => (some t239)) else ((comp_Read.f k x0 x1).bind fun bt240 => (if x0.size + 2 ≤ 9223372036854775807 then ((comp_Read.f k (x0 ++ (⟨#[0, 1]⟩ : ByteArray)) x1).bind fun bt243 => (if bt240.2.2 = 0 then (if bt243.1.toList = bt240.1.toList then (if bt243.2.1 = bt240.2.1 then (wellspringlaw04_CompPrefix.j1 k x0 x1 x2 bt240.1 bt240.2.1 bt240.2.2 (bt243.2.2 != 0)) else (wellspringlaw04_CompPrefix.j1 k x0 x1 x2 bt240.1 bt240.2.1 bt240.2.2 true)) else (wellspringlaw04_CompPrefix.j1 k x0 x1 x2 bt240.1 bt240.2.1 bt240.2.2 true)) else (wellspringlaw04_CompPrefix.j1 k x0 x1 x2 bt240.1 bt240.2.1 bt240.2.2 false))) else (none)))
def wellspringlaw04_CompPrefix.j1 : Nat → ByteArray → Int → Int → ByteArray → Int → Int → Bool → Option (Bool)
  | 0, _, _, _, _, _, _, _ => none
  | k + 1, x0, x1, x2, x7, x8, x9, x60 => if x60 = true then (some false) else (if 0 ≤ x2 then (if x2 ≤ (x0.size : Int) then ((comp_Read.f k (x0.extract 0 (x2 : Int).toNat) x1).bind fun bt246 => (if bt246.2.2 = 0 then (if bt246.1.toList = x7.toList then (if bt246.2.1 = x8 then (if x9 = 0 then (if x9 = 3 then (some false) else ((wellspringlaw04_live.f k).bind fun t249 => (some t249))) else (some false)) else (some false)) else (some false)) else (if x9 = 3 then ((wellspringlaw04_live.f k).bind fun t250 => (some t250)) else ((wellspringlaw04_live.f k).bind fun t251 => (some t251))))) else (none)) else (none))
end
def wellspringlaw04_CompPrefix.f (k : Nat) (a0 : ByteArray) (a1 : Int) (a2 : Int) : Option (Bool) := if (a0.size : Int) > 2000 then (wellspringlaw04_CompPrefix.j0 k a0 a1 a2 true) else (if a2 < 0 then (wellspringlaw04_CompPrefix.j0 k a0 a1 a2 true) else (wellspringlaw04_CompPrefix.j0 k a0 a1 a2 (decide (a2 > (a0.size : Int)))))
theorem wellspringlaw04_CompPrefix.mono_l : ∀ k, (∀ y0 y1 y2 y3, LeO (wellspringlaw04_CompPrefix.j0 k y0 y1 y2 y3) (wellspringlaw04_CompPrefix.j0 (k + 1) y0 y1 y2 y3)) ∧ (∀ y0 y1 y2 y3 y4 y5 y6, LeO (wellspringlaw04_CompPrefix.j1 k y0 y1 y2 y3 y4 y5 y6) (wellspringlaw04_CompPrefix.j1 (k + 1) y0 y1 y2 y3 y4 y5 y6))
  | 0 => ⟨fun _ _ _ _ r h => by simp [wellspringlaw04_CompPrefix.j0] at h, fun _ _ _ _ _ _ _ r h => by simp [wellspringlaw04_CompPrefix.j1] at h⟩
  | k + 1 => by
    obtain ⟨ih0, ih1⟩ := wellspringlaw04_CompPrefix.mono_l k
    refine ⟨?_, ?_⟩
    · intro y0 y1 y2 y3
      unfold wellspringlaw04_CompPrefix.j0
      repeat' first
      | (with_reducible exact ih0 _ _ _ _)
      | (with_reducible exact ih1 _ _ _ _ _ _ _)
      | (with_reducible exact comp_Read.mono _ _ _)
      | (with_reducible exact wellspringlaw04_live.mono _)
      | (with_reducible exact LeO.refl _)
      | (with_reducible exact LeO.none _)
      | (with_reducible refine LeO.ite ?_ ?_)
      | (with_reducible refine LeO.bind ?_ (fun _ => ?_))
      | exact ih0 _ _ _ _
      | exact ih1 _ _ _ _ _ _ _
      | exact comp_Read.mono _ _ _
      | exact wellspringlaw04_live.mono _
      | exact LeO.none _
      | refine LeO.ite ?_ ?_
      | refine LeO.bind ?_ (fun _ => ?_)
    · intro y0 y1 y2 y3 y4 y5 y6
      unfold wellspringlaw04_CompPrefix.j1
      repeat' first
      | (with_reducible exact ih0 _ _ _ _)
      | (with_reducible exact ih1 _ _ _ _ _ _ _)
      | (with_reducible exact comp_Read.mono _ _ _)
      | (with_reducible exact wellspringlaw04_live.mono _)
      | (with_reducible exact LeO.refl _)
      | (with_reducible exact LeO.none _)
      | (with_reducible refine LeO.ite ?_ ?_)
      | (with_reducible refine LeO.bind ?_ (fun _ => ?_))
      | exact ih0 _ _ _ _
      | exact ih1 _ _ _ _ _ _ _
      | exact comp_Read.mono _ _ _
      | exact wellspringlaw04_live.mono _
      | exact LeO.none _
      | refine LeO.ite ?_ ?_
      | refine LeO.bind ?_ (fun _ => ?_)
theorem wellspringlaw04_CompPrefix.mono : ∀ a0 a1 a2 k, LeO (wellspringlaw04_CompPrefix.f k a0 a1 a2) (wellspringlaw04_CompPrefix.f (k + 1) a0 a1 a2) := by
  intro a0 a1 a2 k
  obtain ⟨ih0, ih1⟩ := wellspringlaw04_CompPrefix.mono_l k
  unfold wellspringlaw04_CompPrefix.f
  repeat' first
      | (with_reducible exact ih0 _ _ _ _)
      | (with_reducible exact ih1 _ _ _ _ _ _ _)
      | (with_reducible exact comp_Read.mono _ _ _)
      | (with_reducible exact wellspringlaw04_live.mono _)
      | (with_reducible exact LeO.refl _)
      | (with_reducible exact LeO.none _)
      | (with_reducible refine LeO.ite ?_ ?_)
      | (with_reducible refine LeO.bind ?_ (fun _ => ?_))
      | exact ih0 _ _ _ _
      | exact ih1 _ _ _ _ _ _ _
      | exact comp_Read.mono _ _ _
      | exact wellspringlaw04_live.mono _
      | exact LeO.none _
      | refine LeO.ite ?_ ?_
      | refine LeO.bind ?_ (fun _ => ?_)
set_option maxHeartbeats 8000000 in
set_option maxRecDepth 100000 in
theorem wellspringlaw04_CompPrefix.calls (k : Nat) (a0 : ByteArray) (a1 : Int) (a2 : Int) (r : Bool) (w : World) (h : wellspringlaw04_CompPrefix.f k a0 a1 a2 = some r) :
    Calls Try.prog 8 #[.string a0, .int .i64 a1, .int .i64 a2] w fun e w' => e = .returned (.bool r) ∧ Below w.heap.size w w' := by
  have HB := Aside0.mk (Below.refl w.heap.size w)
  have H : (if (a0.size : Int) > 2000 then (wellspringlaw04_CompPrefix.j0 k a0 a1 a2 true) else (if a2 < 0 then (wellspringlaw04_CompPrefix.j0 k a0 a1 a2 true) else (wellspringlaw04_CompPrefix.j0 k a0 a1 a2 (decide (a2 > (a0.size : Int)))))) = some r := h
  clear h
  have HC4 := Aside0.mk H
  clear H
  go_enter Try.func8, Try.ntmps8
  go_upto_region 1 with (fail)
  go_cut [28] (fun v28 wc => ∃ (kq : Nat) (x28_3 : Bool), v28 = .bool x28_3 ∧ Aside0 (wellspringlaw04_CompPrefix.j0 kq a0 a1 a2 x28_3 = some r) ∧ Aside0 (kq ≤ k) ∧ Aside0 (Below w.heap.size w wc))
  case first =>
    have H := HC4.out
    clear HC4
    by_cases c5 : (a0.size : Int) > 2000
    · rw [if_pos c5] at H
      have c5b0 : decide (2000 < (a0.size : Int)) = true := decide_eq_true c5
      have c5b1 : decide (2000 < a0.size) = true := decide_eq_true (by omega)
      clear c5
      (first | rw [c5b0] | rw [c5b2] | (simp only [i64_w, i32_w]; rw [c5b0]) | skip)
      have H' := Aside0.mk H
      clear H
      go_wp2
      go_meet
      case rel => exact ⟨_, (true), (by first | rfl | (simp; done) | (simp [*]; done) | (simp [Go.Proofs.Ytdkkanpbcifkfaa.B.beq_not_bne]; done) | (simp [Go.Proofs.Ytdkkanpbcifkfaa.B.bne_not_beq]; done)), H', ⟨by first | omega | exact Nat.le_refl _⟩, ⟨by repeat (first | (with_reducible first | exact HB.out | apply below_alloc | apply pw_below_drewN | apply below_drew1) | exact HB.out)⟩⟩
    · rw [if_neg c5] at H
      have c5b0 : decide (2000 < (a0.size : Int)) = false := decide_eq_false c5
      have c5b1 : decide (2000 < a0.size) = false := decide_eq_false (by omega)
      clear c5
      (first | rw [c5b0] | rw [c5b2] | (simp only [i64_w, i32_w]; rw [c5b0]) | skip)
      by_cases c6 : a2 < 0
      · rw [if_pos c6] at H
        have c6b0 : decide (a2 < 0) = true := decide_eq_true c6
        clear c6
        have H' := Aside0.mk H
        clear H
        go_wp2
        go_meet
        case rel => exact ⟨_, (true), (by first | rfl | (simp; done) | (simp [*]; done) | (simp [Go.Proofs.Ytdkkanpbcifkfaa.B.beq_not_bne]; done) | (simp [Go.Proofs.Ytdkkanpbcifkfaa.B.bne_not_beq]; done)), H', ⟨by first | omega | exact Nat.le_refl _⟩, ⟨by repeat (first | (with_reducible first | exact HB.out | apply below_alloc | apply pw_below_drewN | apply below_drew1) | exact HB.out)⟩⟩
      · rw [if_neg c6] at H
        have c6b0 : decide (a2 < 0) = false := decide_eq_false c6
        clear c6
        have H' := Aside0.mk H
        clear H
        go_wp2
        go_meet
        case rel => exact ⟨_, (decide (a2 > (a0.size : Int))), (by first | rfl | (simp; done) | (simp [*]; done) | (simp [Go.Proofs.Ytdkkanpbcifkfaa.B.beq_not_bne]; done) | (simp [Go.Proofs.Ytdkkanpbcifkfaa.B.bne_not_beq]; done)), H', ⟨by first | omega | exact Nat.le_refl _⟩, ⟨by repeat (first | (with_reducible first | exact HB.out | apply below_alloc | apply pw_below_drewN | apply below_drew1) | exact HB.out)⟩⟩
  case rest =>
    clear HC4
    try clear p2
    try clear c5
    try clear c5b0
    try clear c5b1
    try clear c5b2
    try clear c6
    try clear c6b0
    obtain ⟨kq, x28_3, rfl, HA, HJ3, HB⟩ := hcut
    cases kq with
    | zero => exact absurd HA.out (by simp [wellspringlaw04_CompPrefix.j0])
    | succ kj3 =>
      have H := HA.out
      clear HA
      simp only [wellspringlaw04_CompPrefix.j0] at H
      by_cases c7 : x28_3 = true
      · subst c7
        have H1 : ((wellspringlaw04_live.f kj3).bind fun t239 => (some t239)) = some r := by rw [if_pos rfl] at H; exact H
        clear H
        have H := H1
        clear H1
        replace H := Option.bind_eq_some_iff.mp H
        obtain ⟨t239, A80, H⟩ := H
        replace H : (some t239) = some r := H
        have A8 := Aside0.mk A80
        clear A80
        obtain rfl := Option.some.inj H
        go_wp2_with (first | ((with_reducible refine gate_callee (f := 20) rfl ?_); refine goesL_ (some 29) rfl rfl Try.func20 (by kernel_rfl) rfl #[] rfl (by (try simp only [List.map_toArray, List.map_cons, List.map_nil]); first | done | rfl | (simp only [List.length_drop, List.length_take]; rfl) | (rw [Go.Proofs.Ytdkkanpbcifkfaa.B.w64] <;> first | rfl | omega | (simp only [decide_eq_false_iff_not, decide_eq_true_eq, Int.not_lt, Nat.not_lt, gt_iff_lt] at * <;> omega))) ?_; (with_reducible refine (wellspringlaw04_live.calls kj3  t239 _ A8.out).mono ?_); rintro e w9 ⟨rfl, hb⟩; refine ⟨_, rfl, ?_⟩; have n0_ := Aside0.mk (below_step (by repeat (first | (with_reducible first | exact HB.out | apply below_alloc | apply pw_below_drewN | apply below_drew1) | exact HB.out)) hb); clear HB; have HB := n0_; clear n0_; (try clear hb); (try clear hb2); (try clear hk); (try clear hi)))
        go_ret
        exact ⟨by first | rfl | (simp [errW_none, errW_some] <;> rfl) | (simp [*, errW_none, errW_some] <;> rfl), by repeat (first | (with_reducible first | exact HB.out | apply below_alloc | apply pw_below_drewN | apply below_drew1) | exact HB.out)⟩
      · replace c7 := Bool.eq_false_iff.mpr c7
        subst c7
        have H1 : ((comp_Read.f kj3 a0 a1).bind fun bt240 => (if a0.size + 2 ≤ 9223372036854775807 then ((comp_Read.f kj3 (a0 ++ (⟨#[0, 1]⟩ : ByteArray)) a1).bind fun bt243 => (if bt240.2.2 = 0 then (if bt243.1.toList = bt240.1.toList then (if bt243.2.1 = bt240.2.1 then (wellspringlaw04_CompPrefix.j1 kj3 a0 a1 a2 bt240.1 bt240.2.1 bt240.2.2 (bt243.2.2 != 0)) else (wellspringlaw04_CompPrefix.j1 kj3 a0 a1 a2 bt240.1 bt240.2.1 bt240.2.2 true)) else (wellspringlaw04_CompPrefix.j1 kj3 a0 a1 a2 bt240.1 bt240.2.1 bt240.2.2 true)) else (wellspringlaw04_CompPrefix.j1 kj3 a0 a1 a2 bt240.1 bt240.2.1 bt240.2.2 false))) else (none))) = some r := by rw [if_neg (show ¬ (false = true) by decide)] at H; exact H
        clear H
        have H := H1
        clear H1
        replace H := Option.bind_eq_some_iff.mp H
        obtain ⟨⟨t240, t241, t242⟩, A100, H⟩ := H
        replace H : (if a0.size + 2 ≤ 9223372036854775807 then ((comp_Read.f kj3 (a0 ++ (⟨#[0, 1]⟩ : ByteArray)) a1).bind fun bt243 => (if t242 = 0 then (if bt243.1.toList = t240.toList then (if bt243.2.1 = t241 then (wellspringlaw04_CompPrefix.j1 kj3 a0 a1 a2 t240 t241 t242 (bt243.2.2 != 0)) else (wellspringlaw04_CompPrefix.j1 kj3 a0 a1 a2 t240 t241 t242 true)) else (wellspringlaw04_CompPrefix.j1 kj3 a0 a1 a2 t240 t241 t242 true)) else (wellspringlaw04_CompPrefix.j1 kj3 a0 a1 a2 t240 t241 t242 false))) else (none)) = some r := H
        have A10 := Aside0.mk A100
        clear A100
        by_cases c11 : a0.size + 2 ≤ 9223372036854775807
        · rw [if_pos c11] at H
          have c11b0 := eq_true c11
          have c11b1 : decide (a0.size + 2 ≤ 9223372036854775807) = true := decide_eq_true c11
          try have c11b2 : (9223372036854775807 < a0.size + 2) = False := eq_false (Nat.not_lt.2 c11)
          replace H := Option.bind_eq_some_iff.mp H
          obtain ⟨⟨t243, t244, t245⟩, A120, H⟩ := H
          replace H : (if t242 = 0 then (if t243.toList = t240.toList then (if t244 = t241 then (wellspringlaw04_CompPrefix.j1 kj3 a0 a1 a2 t240 t241 t242 (t245 != 0)) else (wellspringlaw04_CompPrefix.j1 kj3 a0 a1 a2 t240 t241 t242 true)) else (wellspringlaw04_CompPrefix.j1 kj3 a0 a1 a2 t240 t241 t242 true)) else (wellspringlaw04_CompPrefix.j1 kj3 a0 a1 a2 t240 t241 t242 false)) = some r := H
          have A12 := Aside0.mk A120
          clear A120
          have HC13 := Aside0.mk H
          clear H
          go_upto_region 5 with (first | ((with_reducible refine gate_callee (f := 21) rfl ?_); refine goesL_ (some 33) rfl rfl Try.func21 (by kernel_rfl) rfl #[.string a0, .int .i64 a1] rfl (by (try simp only [List.map_toArray, List.map_cons, List.map_nil]); first | done | rfl | (simp only [List.length_drop, List.length_take]; rfl) | (rw [Go.Proofs.Ytdkkanpbcifkfaa.B.w64] <;> first | rfl | omega | (simp only [decide_eq_false_iff_not, decide_eq_true_eq, Int.not_lt, Nat.not_lt, gt_iff_lt] at * <;> omega))) ?_; (with_reducible refine (comp_Read.calls kj3 a0 a1 t240 t241 t242 _ A10.out).mono ?_); rintro e w14 ⟨rfl, hb⟩; refine ⟨_, rfl, ?_⟩; have n0_ := Aside0.mk (below_step (by repeat (first | (with_reducible first | exact HB.out | apply below_alloc | apply pw_below_drewN | apply below_drew1) | exact HB.out)) hb); clear HB; have HB := n0_; clear n0_; (try clear hb); (try clear hb2); (try clear hk); (try clear hi)) | ((with_reducible refine gate_callee (f := 21) rfl ?_); refine goesL_ (some 41) rfl rfl Try.func21 (by kernel_rfl) rfl #[.string (a0 ++ (⟨#[0, 1]⟩ : ByteArray)), .int .i64 a1] rfl (by (try simp only [List.map_toArray, List.map_cons, List.map_nil]); first | done | rfl | (simp only [List.length_drop, List.length_take]; rfl) | (rw [Go.Proofs.Ytdkkanpbcifkfaa.B.w64] <;> first | rfl | omega | (simp only [decide_eq_false_iff_not, decide_eq_true_eq, Int.not_lt, Nat.not_lt, gt_iff_lt] at * <;> omega))) ?_; (with_reducible refine (comp_Read.calls kj3 (a0 ++ (⟨#[0, 1]⟩ : ByteArray)) a1 t243 t244 t245 _ A12.out).mono ?_); rintro e w15 ⟨rfl, hb⟩; refine ⟨_, rfl, ?_⟩; have n0_ := Aside0.mk (below_step (by repeat (first | (with_reducible first | exact HB.out | apply below_alloc | apply pw_below_drewN | apply below_drew1) | exact HB.out)) hb); clear HB; have HB := n0_; clear n0_; (try clear hb); (try clear hb2); (try clear hk); (try clear hi)))
          (try simp only [Act.put, List.setIfInBounds_toArray, List.set_cons_zero, List.set_cons_succ])
          go_cut [60] (fun v60 wc => ∃ (kq : Nat) (x60_12 : Bool), v60 = .bool x60_12 ∧ Aside0 (wellspringlaw04_CompPrefix.j1 kq a0 a1 a2 t240 t241 t242 x60_12 = some r) ∧ Aside0 (kq ≤ kj3) ∧ Aside0 (Below w.heap.size w wc))
          case first =>
            have H := HC13.out
            clear HC13
            by_cases c16 : t242 = 0
            · rw [if_pos c16] at H
              have c16b0 : (t242 == 0) = true := beq_iff_eq.mpr c16
              have c16b1 : (t242 != 0) = false := bne_eq_false_iff_eq.mpr c16
              clear c16
              (first | rw [c16b0] | rw [c16b2] | (simp only [i64_w, i32_w]; rw [c16b0]) | skip)
              by_cases c17 : t243.toList = t240.toList
              · rw [if_pos c17] at H
                have c17b0 : (t243.toList == t240.toList) = true := beq_iff_eq.mpr c17
                have c17b1 : (t243.toList != t240.toList) = false := bne_eq_false_iff_eq.mpr c17
                clear c17
                by_cases c18 : t244 = t241
                · rw [if_pos c18] at H
                  have c18b0 : (t244 == t241) = true := beq_iff_eq.mpr c18
                  have c18b1 : (t244 != t241) = false := bne_eq_false_iff_eq.mpr c18
                  clear c18
                  have H' := Aside0.mk H
                  clear H
                  go_wp2
                  go_meet
                  case rel => exact ⟨_, ((t245 != 0)), (by first | rfl | (simp; done) | (simp [*]; done) | (simp [Go.Proofs.Ytdkkanpbcifkfaa.B.beq_not_bne]; done) | (simp [Go.Proofs.Ytdkkanpbcifkfaa.B.bne_not_beq]; done)), H', ⟨by have := HJ3.out; first | omega | exact Nat.le_refl _⟩, ⟨by repeat (first | (with_reducible first | exact HB.out | apply below_alloc | apply pw_below_drewN | apply below_drew1) | exact HB.out)⟩⟩
                · rw [if_neg c18] at H
                  have c18b0 : (t244 == t241) = false := beq_eq_false_iff_ne.mpr c18
                  have c18b1 : (t244 != t241) = true := bne_iff_ne.mpr c18
                  have H' := Aside0.mk H
                  clear H
                  go_wp2
                  go_meet
                  case rel => exact ⟨_, (true), (by first | rfl | (simp; done) | (simp [*]; done) | (simp [Go.Proofs.Ytdkkanpbcifkfaa.B.beq_not_bne]; done) | (simp [Go.Proofs.Ytdkkanpbcifkfaa.B.bne_not_beq]; done)), H', ⟨by have := HJ3.out; first | omega | exact Nat.le_refl _⟩, ⟨by repeat (first | (with_reducible first | exact HB.out | apply below_alloc | apply pw_below_drewN | apply below_drew1) | exact HB.out)⟩⟩
              · rw [if_neg c17] at H
                have c17b0 : (t243.toList == t240.toList) = false := beq_eq_false_iff_ne.mpr c17
                have c17b1 : (t243.toList != t240.toList) = true := bne_iff_ne.mpr c17
                have H' := Aside0.mk H
                clear H
                go_wp2
                go_meet
                case rel => exact ⟨_, (true), (by first | rfl | (simp; done) | (simp [*]; done) | (simp [Go.Proofs.Ytdkkanpbcifkfaa.B.beq_not_bne]; done) | (simp [Go.Proofs.Ytdkkanpbcifkfaa.B.bne_not_beq]; done)), H', ⟨by have := HJ3.out; first | omega | exact Nat.le_refl _⟩, ⟨by repeat (first | (with_reducible first | exact HB.out | apply below_alloc | apply pw_below_drewN | apply below_drew1) | exact HB.out)⟩⟩
            · rw [if_neg c16] at H
              have c16b0 : (t242 == 0) = false := beq_eq_false_iff_ne.mpr c16
              have c16b1 : (t242 != 0) = true := bne_iff_ne.mpr c16
              (first | rw [c16b0] | rw [c16b2] | (simp only [i64_w, i32_w]; rw [c16b0]) | skip)
              have H' := Aside0.mk H
              clear H
              go_wp2
              go_meet
              case rel => exact ⟨_, (false), (by first | rfl | (simp; done) | (simp [*]; done) | (simp [Go.Proofs.Ytdkkanpbcifkfaa.B.beq_not_bne]; done) | (simp [Go.Proofs.Ytdkkanpbcifkfaa.B.bne_not_beq]; done)), H', ⟨by have := HJ3.out; first | omega | exact Nat.le_refl _⟩, ⟨by repeat (first | (with_reducible first | exact HB.out | apply below_alloc | apply pw_below_drewN | apply below_drew1) | exact HB.out)⟩⟩
          case rest =>
            clear HC13
            try clear c1
            try clear c2
            try clear p2
            try clear c5
            try clear c5b0
            try clear c5b1
            try clear c5b2
            try clear c6
            try clear c6b0
            try clear c7
            try clear c8
            try clear c11
            try clear c11b0
            try clear c11b1
            try clear c11b2
            try clear c16
            try clear c16b0
            try clear c16b1
            try clear c16b2
            try clear c17
            try clear c17b0
            try clear c17b1
            try clear c18
            try clear c18b0
            try clear c18b1
            try clear p2
            obtain ⟨kq, x60_12, rfl, HA, HJ12, HB⟩ := hcut
            cases kq with
            | zero => exact absurd HA.out (by simp [wellspringlaw04_CompPrefix.j1])
            | succ kj12 =>
              have H := HA.out
              clear HA
              simp only [wellspringlaw04_CompPrefix.j1] at H
              by_cases c19 : x60_12 = true
              · subst c19
                have H1 : (some false) = some r := by rw [if_pos rfl] at H; exact H
                clear H
                have H := H1
                clear H1
                obtain rfl := Option.some.inj H
                go_wp2
                go_ret
                exact ⟨by first | rfl | (simp [errW_none, errW_some] <;> rfl) | (simp [*, errW_none, errW_some] <;> rfl), by repeat (first | (with_reducible first | exact HB.out | apply below_alloc | apply pw_below_drewN | apply below_drew1) | exact HB.out)⟩
              · replace c19 := Bool.eq_false_iff.mpr c19
                subst c19
                have H1 : (if 0 ≤ a2 then (if a2 ≤ (a0.size : Int) then ((comp_Read.f kj12 (a0.extract 0 (a2 : Int).toNat) a1).bind fun bt246 => (if bt246.2.2 = 0 then (if bt246.1.toList = t240.toList then (if bt246.2.1 = t241 then (if t242 = 0 then (if t242 = 3 then (some false) else ((wellspringlaw04_live.f kj12).bind fun t249 => (some t249))) else (some false)) else (some false)) else (some false)) else (if t242 = 3 then ((wellspringlaw04_live.f kj12).bind fun t250 => (some t250)) else ((wellspringlaw04_live.f kj12).bind fun t251 => (some t251))))) else (none)) else (none)) = some r := by rw [if_neg (show ¬ (false = true) by decide)] at H; exact H
                clear H
                have H := H1
                clear H1
                by_cases c20 : 0 ≤ a2
                · rw [if_pos c20] at H
                  have c20b0 := eq_true c20
                  have c20b1 : decide (0 ≤ a2) = true := decide_eq_true c20
                  clear c20
                  by_cases c21 : a2 ≤ (a0.size : Int)
                  · rw [if_pos c21] at H
                    have c21b0 := eq_true c21
                    have c21b1 : decide (a2 ≤ (a0.size : Int)) = true := decide_eq_true c21
                    clear c21
                    replace H := Option.bind_eq_some_iff.mp H
                    obtain ⟨⟨t246, t247, t248⟩, A220, H⟩ := H
                    replace H : (if t248 = 0 then (if t246.toList = t240.toList then (if t247 = t241 then (if t242 = 0 then (if t242 = 3 then (some false) else ((wellspringlaw04_live.f kj12).bind fun t249 => (some t249))) else (some false)) else (some false)) else (some false)) else (if t242 = 3 then ((wellspringlaw04_live.f kj12).bind fun t250 => (some t250)) else ((wellspringlaw04_live.f kj12).bind fun t251 => (some t251)))) = some r := H
                    have A22 := Aside0.mk A220
                    clear A220
                    by_cases c23 : t248 = 0
                    · rw [if_pos c23] at H
                      have c23b0 : (t248 == 0) = true := beq_iff_eq.mpr c23
                      have c23b1 : (t248 != 0) = false := bne_eq_false_iff_eq.mpr c23
                      clear c23
                      by_cases c24 : t246.toList = t240.toList
                      · rw [if_pos c24] at H
                        have c24b0 : (t246.toList == t240.toList) = true := beq_iff_eq.mpr c24
                        have c24b1 : (t246.toList != t240.toList) = false := bne_eq_false_iff_eq.mpr c24
                        clear c24
                        by_cases c25 : t247 = t241
                        · rw [if_pos c25] at H
                          have c25b0 : (t247 == t241) = true := beq_iff_eq.mpr c25
                          have c25b1 : (t247 != t241) = false := bne_eq_false_iff_eq.mpr c25
                          clear c25
                          by_cases c26 : t242 = 0
                          · rw [if_pos c26] at H
                            have c26b0 : (t242 == 0) = true := beq_iff_eq.mpr c26
                            have c26b1 : (t242 != 0) = false := bne_eq_false_iff_eq.mpr c26
                            clear c26
                            by_cases c27 : t242 = 3
                            · rw [if_pos c27] at H
                              have c27b0 : (t242 == 3) = true := beq_iff_eq.mpr c27
                              have c27b1 : (t242 != 3) = false := bne_eq_false_iff_eq.mpr c27
                              clear c27
                              obtain rfl := Option.some.inj H
                              go_wp2_with (first | ((with_reducible refine gate_callee (f := 21) rfl ?_); refine goesL_ (some 66) rfl rfl Try.func21 (by kernel_rfl) rfl #[.string (a0.extract 0 (a2 : Int).toNat), .int .i64 a1] rfl (by (try simp only [List.map_toArray, List.map_cons, List.map_nil]); first | done | rfl | (simp only [List.length_drop, List.length_take]; rfl) | (rw [Go.Proofs.Ytdkkanpbcifkfaa.B.w64] <;> first | rfl | omega | (simp only [decide_eq_false_iff_not, decide_eq_true_eq, Int.not_lt, Nat.not_lt, gt_iff_lt] at * <;> omega))) ?_; (with_reducible refine (comp_Read.calls kj12 (a0.extract 0 (a2 : Int).toNat) a1 t246 t247 t248 _ A22.out).mono ?_); rintro e w28 ⟨rfl, hb⟩; refine ⟨_, rfl, ?_⟩; have n0_ := Aside0.mk (below_step (by repeat (first | (with_reducible first | exact HB.out | apply below_alloc | apply pw_below_drewN | apply below_drew1) | exact HB.out)) hb); clear HB; have HB := n0_; clear n0_; (try clear hb); (try clear hb2); (try clear hk); (try clear hi)))
                              go_ret
                              exact ⟨by first | rfl | (simp [errW_none, errW_some] <;> rfl) | (simp [*, errW_none, errW_some] <;> rfl), by repeat (first | (with_reducible first | exact HB.out | apply below_alloc | apply pw_below_drewN | apply below_drew1) | exact HB.out)⟩
                            · rw [if_neg c27] at H
                              have c27b0 : (t242 == 3) = false := beq_eq_false_iff_ne.mpr c27
                              have c27b1 : (t242 != 3) = true := bne_iff_ne.mpr c27
                              replace H := Option.bind_eq_some_iff.mp H
                              obtain ⟨t249, A290, H⟩ := H
                              replace H : (some t249) = some r := H
                              have A29 := Aside0.mk A290
                              clear A290
                              obtain rfl := Option.some.inj H
                              go_wp2_with (first | ((with_reducible refine gate_callee (f := 21) rfl ?_); refine goesL_ (some 66) rfl rfl Try.func21 (by kernel_rfl) rfl #[.string (a0.extract 0 (a2 : Int).toNat), .int .i64 a1] rfl (by (try simp only [List.map_toArray, List.map_cons, List.map_nil]); first | done | rfl | (simp only [List.length_drop, List.length_take]; rfl) | (rw [Go.Proofs.Ytdkkanpbcifkfaa.B.w64] <;> first | rfl | omega | (simp only [decide_eq_false_iff_not, decide_eq_true_eq, Int.not_lt, Nat.not_lt, gt_iff_lt] at * <;> omega))) ?_; (with_reducible refine (comp_Read.calls kj12 (a0.extract 0 (a2 : Int).toNat) a1 t246 t247 t248 _ A22.out).mono ?_); rintro e w30 ⟨rfl, hb⟩; refine ⟨_, rfl, ?_⟩; have n0_ := Aside0.mk (below_step (by repeat (first | (with_reducible first | exact HB.out | apply below_alloc | apply pw_below_drewN | apply below_drew1) | exact HB.out)) hb); clear HB; have HB := n0_; clear n0_; (try clear hb); (try clear hb2); (try clear hk); (try clear hi)) | (go_at_call 20; (with_reducible refine (wellspringlaw04_live.calls kj12  t249 _ A29.out).mono ?_); rintro e w31 ⟨rfl, hb⟩; have n0_ := Aside0.mk (below_step (by repeat (first | (with_reducible first | exact HB.out | apply below_alloc | apply pw_below_drewN | apply below_drew1) | exact HB.out)) hb); clear HB; have HB := n0_; clear n0_; (try clear hb); (try clear hb2); (try clear hk); (try clear hi)))
                              go_ret
                              exact ⟨by first | rfl | (simp [errW_none, errW_some] <;> rfl) | (simp [*, errW_none, errW_some] <;> rfl), by repeat (first | (with_reducible first | exact HB.out | apply below_alloc | apply pw_below_drewN | apply below_drew1) | exact HB.out)⟩
                          · rw [if_neg c26] at H
                            have c26b0 : (t242 == 0) = false := beq_eq_false_iff_ne.mpr c26
                            have c26b1 : (t242 != 0) = true := bne_iff_ne.mpr c26
                            obtain rfl := Option.some.inj H
                            go_wp2_with (first | ((with_reducible refine gate_callee (f := 21) rfl ?_); refine goesL_ (some 66) rfl rfl Try.func21 (by kernel_rfl) rfl #[.string (a0.extract 0 (a2 : Int).toNat), .int .i64 a1] rfl (by (try simp only [List.map_toArray, List.map_cons, List.map_nil]); first | done | rfl | (simp only [List.length_drop, List.length_take]; rfl) | (rw [Go.Proofs.Ytdkkanpbcifkfaa.B.w64] <;> first | rfl | omega | (simp only [decide_eq_false_iff_not, decide_eq_true_eq, Int.not_lt, Nat.not_lt, gt_iff_lt] at * <;> omega))) ?_; (with_reducible refine (comp_Read.calls kj12 (a0.extract 0 (a2 : Int).toNat) a1 t246 t247 t248 _ A22.out).mono ?_); rintro e w32 ⟨rfl, hb⟩; refine ⟨_, rfl, ?_⟩; have n0_ := Aside0.mk (below_step (by repeat (first | (with_reducible first | exact HB.out | apply below_alloc | apply pw_below_drewN | apply below_drew1) | exact HB.out)) hb); clear HB; have HB := n0_; clear n0_; (try clear hb); (try clear hb2); (try clear hk); (try clear hi)))
                            go_ret
                            exact ⟨by first | rfl | (simp [errW_none, errW_some] <;> rfl) | (simp [*, errW_none, errW_some] <;> rfl), by repeat (first | (with_reducible first | exact HB.out | apply below_alloc | apply pw_below_drewN | apply below_drew1) | exact HB.out)⟩
                        · rw [if_neg c25] at H
                          have c25b0 : (t247 == t241) = false := beq_eq_false_iff_ne.mpr c25
                          have c25b1 : (t247 != t241) = true := bne_iff_ne.mpr c25
                          obtain rfl := Option.some.inj H
                          go_wp2_with (first | ((with_reducible refine gate_callee (f := 21) rfl ?_); refine goesL_ (some 66) rfl rfl Try.func21 (by kernel_rfl) rfl #[.string (a0.extract 0 (a2 : Int).toNat), .int .i64 a1] rfl (by (try simp only [List.map_toArray, List.map_cons, List.map_nil]); first | done | rfl | (simp only [List.length_drop, List.length_take]; rfl) | (rw [Go.Proofs.Ytdkkanpbcifkfaa.B.w64] <;> first | rfl | omega | (simp only [decide_eq_false_iff_not, decide_eq_true_eq, Int.not_lt, Nat.not_lt, gt_iff_lt] at * <;> omega))) ?_; (with_reducible refine (comp_Read.calls kj12 (a0.extract 0 (a2 : Int).toNat) a1 t246 t247 t248 _ A22.out).mono ?_); rintro e w33 ⟨rfl, hb⟩; refine ⟨_, rfl, ?_⟩; have n0_ := Aside0.mk (below_step (by repeat (first | (with_reducible first | exact HB.out | apply below_alloc | apply pw_below_drewN | apply below_drew1) | exact HB.out)) hb); clear HB; have HB := n0_; clear n0_; (try clear hb); (try clear hb2); (try clear hk); (try clear hi)))
                          go_ret
                          exact ⟨by first | rfl | (simp [errW_none, errW_some] <;> rfl) | (simp [*, errW_none, errW_some] <;> rfl), by repeat (first | (with_reducible first | exact HB.out | apply below_alloc | apply pw_below_drewN | apply below_drew1) | exact HB.out)⟩
                      · rw [if_neg c24] at H
                        have c24b0 : (t246.toList == t240.toList) = false := beq_eq_false_iff_ne.mpr c24
                        have c24b1 : (t246.toList != t240.toList) = true := bne_iff_ne.mpr c24
                        obtain rfl := Option.some.inj H
                        go_wp2_with (first | ((with_reducible refine gate_callee (f := 21) rfl ?_); refine goesL_ (some 66) rfl rfl Try.func21 (by kernel_rfl) rfl #[.string (a0.extract 0 (a2 : Int).toNat), .int .i64 a1] rfl (by (try simp only [List.map_toArray, List.map_cons, List.map_nil]); first | done | rfl | (simp only [List.length_drop, List.length_take]; rfl) | (rw [Go.Proofs.Ytdkkanpbcifkfaa.B.w64] <;> first | rfl | omega | (simp only [decide_eq_false_iff_not, decide_eq_true_eq, Int.not_lt, Nat.not_lt, gt_iff_lt] at * <;> omega))) ?_; (with_reducible refine (comp_Read.calls kj12 (a0.extract 0 (a2 : Int).toNat) a1 t246 t247 t248 _ A22.out).mono ?_); rintro e w34 ⟨rfl, hb⟩; refine ⟨_, rfl, ?_⟩; have n0_ := Aside0.mk (below_step (by repeat (first | (with_reducible first | exact HB.out | apply below_alloc | apply pw_below_drewN | apply below_drew1) | exact HB.out)) hb); clear HB; have HB := n0_; clear n0_; (try clear hb); (try clear hb2); (try clear hk); (try clear hi)))
                        go_ret
                        exact ⟨by first | rfl | (simp [errW_none, errW_some] <;> rfl) | (simp [*, errW_none, errW_some] <;> rfl), by repeat (first | (with_reducible first | exact HB.out | apply below_alloc | apply pw_below_drewN | apply below_drew1) | exact HB.out)⟩
                    · rw [if_neg c23] at H
                      have c23b0 : (t248 == 0) = false := beq_eq_false_iff_ne.mpr c23
                      have c23b1 : (t248 != 0) = true := bne_iff_ne.mpr c23
                      by_cases c35 : t242 = 3
                      · rw [if_pos c35] at H
                        have c35b0 : (t242 == 3) = true := beq_iff_eq.mpr c35
                        have c35b1 : (t242 != 3) = false := bne_eq_false_iff_eq.mpr c35
                        clear c35
                        replace H := Option.bind_eq_some_iff.mp H
                        obtain ⟨t250, A360, H⟩ := H
                        replace H : (some t250) = some r := H
                        have A36 := Aside0.mk A360
                        clear A360
                        obtain rfl := Option.some.inj H
                        go_wp2_with (first | ((with_reducible refine gate_callee (f := 21) rfl ?_); refine goesL_ (some 66) rfl rfl Try.func21 (by kernel_rfl) rfl #[.string (a0.extract 0 (a2 : Int).toNat), .int .i64 a1] rfl (by (try simp only [List.map_toArray, List.map_cons, List.map_nil]); first | done | rfl | (simp only [List.length_drop, List.length_take]; rfl) | (rw [Go.Proofs.Ytdkkanpbcifkfaa.B.w64] <;> first | rfl | omega | (simp only [decide_eq_false_iff_not, decide_eq_true_eq, Int.not_lt, Nat.not_lt, gt_iff_lt] at * <;> omega))) ?_; (with_reducible refine (comp_Read.calls kj12 (a0.extract 0 (a2 : Int).toNat) a1 t246 t247 t248 _ A22.out).mono ?_); rintro e w37 ⟨rfl, hb⟩; refine ⟨_, rfl, ?_⟩; have n0_ := Aside0.mk (below_step (by repeat (first | (with_reducible first | exact HB.out | apply below_alloc | apply pw_below_drewN | apply below_drew1) | exact HB.out)) hb); clear HB; have HB := n0_; clear n0_; (try clear hb); (try clear hb2); (try clear hk); (try clear hi)) | (go_at_call 20; (with_reducible refine (wellspringlaw04_live.calls kj12  t250 _ A36.out).mono ?_); rintro e w38 ⟨rfl, hb⟩; have n0_ := Aside0.mk (below_step (by repeat (first | (with_reducible first | exact HB.out | apply below_alloc | apply pw_below_drewN | apply below_drew1) | exact HB.out)) hb); clear HB; have HB := n0_; clear n0_; (try clear hb); (try clear hb2); (try clear hk); (try clear hi)))
                        go_ret
                        exact ⟨by first | rfl | (simp [errW_none, errW_some] <;> rfl) | (simp [*, errW_none, errW_some] <;> rfl), by repeat (first | (with_reducible first | exact HB.out | apply below_alloc | apply pw_below_drewN | apply below_drew1) | exact HB.out)⟩
                      · rw [if_neg c35] at H
                        have c35b0 : (t242 == 3) = false := beq_eq_false_iff_ne.mpr c35
                        have c35b1 : (t242 != 3) = true := bne_iff_ne.mpr c35
                        replace H := Option.bind_eq_some_iff.mp H
                        obtain ⟨t251, A390, H⟩ := H
                        replace H : (some t251) = some r := H
                        have A39 := Aside0.mk A390
                        clear A390
                        obtain rfl := Option.some.inj H
                        go_wp2_with (first | ((with_reducible refine gate_callee (f := 21) rfl ?_); refine goesL_ (some 66) rfl rfl Try.func21 (by kernel_rfl) rfl #[.string (a0.extract 0 (a2 : Int).toNat), .int .i64 a1] rfl (by (try simp only [List.map_toArray, List.map_cons, List.map_nil]); first | done | rfl | (simp only [List.length_drop, List.length_take]; rfl) | (rw [Go.Proofs.Ytdkkanpbcifkfaa.B.w64] <;> first | rfl | omega | (simp only [decide_eq_false_iff_not, decide_eq_true_eq, Int.not_lt, Nat.not_lt, gt_iff_lt] at * <;> omega))) ?_; (with_reducible refine (comp_Read.calls kj12 (a0.extract 0 (a2 : Int).toNat) a1 t246 t247 t248 _ A22.out).mono ?_); rintro e w40 ⟨rfl, hb⟩; refine ⟨_, rfl, ?_⟩; have n0_ := Aside0.mk (below_step (by repeat (first | (with_reducible first | exact HB.out | apply below_alloc | apply pw_below_drewN | apply below_drew1) | exact HB.out)) hb); clear HB; have HB := n0_; clear n0_; (try clear hb); (try clear hb2); (try clear hk); (try clear hi)) | (go_at_call 20; (with_reducible refine (wellspringlaw04_live.calls kj12  t251 _ A39.out).mono ?_); rintro e w41 ⟨rfl, hb⟩; have n0_ := Aside0.mk (below_step (by repeat (first | (with_reducible first | exact HB.out | apply below_alloc | apply pw_below_drewN | apply below_drew1) | exact HB.out)) hb); clear HB; have HB := n0_; clear n0_; (try clear hb); (try clear hb2); (try clear hk); (try clear hi)))
                        go_ret
                        exact ⟨by first | rfl | (simp [errW_none, errW_some] <;> rfl) | (simp [*, errW_none, errW_some] <;> rfl), by repeat (first | (with_reducible first | exact HB.out | apply below_alloc | apply pw_below_drewN | apply below_drew1) | exact HB.out)⟩
                  · rw [if_neg c21] at H
                    exact absurd H (by simp)
                · rw [if_neg c20] at H
                  exact absurd H (by simp)
        · rw [if_neg c11] at H
          exact absurd H (by simp)

/-- THE ONE PURE STATEMENT of wellspringlaw04_CompPrefix: yours. -/
def wellspringlaw04_CompPrefix.Pure : Prop := ∀ (a0 : ByteArray) (a1 : Int) (a2 : Int), a0.size ≤ 140737488351232 → (Lit.int .i64 a1).wf = true → (Lit.int .i64 a2).wf = true → ∃ k, wellspringlaw04_CompPrefix.f k a0 a1 a2 = some true
theorem wellspringlaw04_CompPrefix.walk (P : wellspringlaw04_CompPrefix.Pure) (a0 : ByteArray) (a1 : Int) (a2 : Int) (w : World) (w0 : a0.size ≤ 140737488351232) (w1 : (Lit.int .i64 a1).wf = true) (w2 : (Lit.int .i64 a2).wf = true) :
    Calls Try.prog 8 #[.string a0, .int .i64 a1, .int .i64 a2] w fun e w' => e = .returned (.bool true) ∧ Below w.heap.size w w' := by
  obtain ⟨k, h⟩ := P a0 a1 a2 w0 w1 w2
  refine (wellspringlaw04_CompPrefix.calls k a0 a1 a2 true w h).mono ?_
  rintro e w' ⟨rfl, hd⟩
  exact ⟨rfl, hd⟩

end Go.Proofs.Ytdkkanpbcifkfaa.ZQ

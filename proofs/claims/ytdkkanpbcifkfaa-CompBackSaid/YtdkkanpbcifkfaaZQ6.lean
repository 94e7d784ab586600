-- Written by a program of this session (wip/tools/myprint.py), over the kit's printer; Lean checks it.
import Derived.Test.YtdkkanpbcifkfaaZQ0
import Derived.Test.YtdkkanpbcifkfaaZRow
import Derived.Test.YtdkkanpbcifkfaaZBld
import Derived.BigRegion
import Derived.Laws.BitsLemmas
namespace Go.Proofs.Ytdkkanpbcifkfaa.ZQ
open Go.RowKit Go.Proofs.YtdkkanpbcifkfaaW.PrintWords Go.Proofs.YtdkkanpbcifkfaaW.PrintLast Go.Proofs.YtdkkanpbcifkfaaW.PrintMore
attribute [local go_sem] max2_int min2_int max_two min_two max_three min_three max_four min_four   -- for this text's walks alone
set_option linter.unusedVariables false
set_option linter.unusedSimpArgs false

/-! ### wellspringref02_Labels: function 69 -/
mutual
def wellspringref02_Labels.j0 : Nat → ByteArray → List ByteArray → Bool → Option (List ByteArray × Bool)
  | 0, _, _, _ => none
  | k + 1, x0, x4, x14 => if x14 = true then (some (([] : List ByteArray), false)) else (wellspringref02_Labels.l0 k x0 x4 0)
def wellspringref02_Labels.l0 : Nat → ByteArray → List ByteArray → Int → Option (List ByteArray × Bool)
  | 0, _, _, _ => none
  | k + 1, x0, x4, x5 => if x5 < (x0.size : Int) then (if 0 ≤ x5 then (if (wrap64 (bt x0 x5)) = 0 then (some (x4, (x5 == (wrap64 ((x0.size : Int) - 1))))) else (if (wrap64 (bt x0 x5)) > 63 then (some (([] : List ByteArray), false)) else (if (wrap64 (bt x0 x5)) ≥ (wrap64 ((x0.size : Int) - x5)) then (some (([] : List ByteArray), false)) else (if 0 ≤ (wrap64 (x5 + 1)) then (if (wrap64 (x5 + 1)) ≤ (wrap64 ((wrap64 (x5 + 1)) + (wrap64 (bt x0 x5)))) then (if (wrap64 ((wrap64 (x5 + 1)) + (wrap64 (bt x0 x5)))) ≤ (x0.size : Int) then (if x4.length < 8796093022208 then (wellspringref02_Labels.l0 k x0 (x4 ++ [x0.extract ((wrap64 (x5 + 1)) : Int).toNat ((wrap64 ((wrap64 (x5 + 1)) + (wrap64 (bt x0 x5)))) : Int).toNat]) (wrap64 ((wrap64 (x5 + 1)) + (wrap64 (bt x0 x5))))) else (none)) else (none)) else (none)) else (none))))) else (none)) else (some (([] : List ByteArray), false))
end
def wellspringref02_Labels.f (k : Nat) (a0 : ByteArray) : Option (List ByteArray × Bool) := if (a0.size : Int) < 1 then (wellspringref02_Labels.j0 k a0 ([] : List ByteArray) true) else (wellspringref02_Labels.j0 k a0 ([] : List ByteArray) (decide ((a0.size : Int) > 255)))
theorem wellspringref02_Labels.mono_l : ∀ k, (∀ y0 y1 y2, LeO (wellspringref02_Labels.j0 k y0 y1 y2) (wellspringref02_Labels.j0 (k + 1) y0 y1 y2)) ∧ (∀ y0 y1 y2, LeO (wellspringref02_Labels.l0 k y0 y1 y2) (wellspringref02_Labels.l0 (k + 1) y0 y1 y2))
  | 0 => ⟨fun _ _ _ r h => by simp [wellspringref02_Labels.j0] at h, fun _ _ _ r h => by simp [wellspringref02_Labels.l0] at h⟩
  | k + 1 => by
    obtain ⟨ih0, ih1⟩ := wellspringref02_Labels.mono_l k
    refine ⟨?_, ?_⟩
    · intro y0 y1 y2
      unfold wellspringref02_Labels.j0
      repeat' first
      | (with_reducible exact ih0 _ _ _)
      | (with_reducible exact ih1 _ _ _)
      | (with_reducible exact LeO.refl _)
      | (with_reducible exact LeO.none _)
      | (with_reducible refine LeO.ite ?_ ?_)
      | (with_reducible refine LeO.bind ?_ (fun _ => ?_))
      | exact ih0 _ _ _
      | exact ih1 _ _ _
      | exact LeO.none _
      | refine LeO.ite ?_ ?_
      | refine LeO.bind ?_ (fun _ => ?_)
    · intro y0 y1 y2
      unfold wellspringref02_Labels.l0
      repeat' first
      | (with_reducible exact ih0 _ _ _)
      | (with_reducible exact ih1 _ _ _)
      | (with_reducible exact LeO.refl _)
      | (with_reducible exact LeO.none _)
      | (with_reducible refine LeO.ite ?_ ?_)
      | (with_reducible refine LeO.bind ?_ (fun _ => ?_))
      | exact ih0 _ _ _
      | exact ih1 _ _ _
      | exact LeO.none _
      | refine LeO.ite ?_ ?_
      | refine LeO.bind ?_ (fun _ => ?_)
theorem wellspringref02_Labels.mono : ∀ a0 k, LeO (wellspringref02_Labels.f k a0) (wellspringref02_Labels.f (k + 1) a0) := by
  intro a0 k
  obtain ⟨ih0, ih1⟩ := wellspringref02_Labels.mono_l k
  unfold wellspringref02_Labels.f
  repeat' first
      | (with_reducible exact ih0 _ _ _)
      | (with_reducible exact ih1 _ _ _)
      | (with_reducible exact LeO.refl _)
      | (with_reducible exact LeO.none _)
      | (with_reducible refine LeO.ite ?_ ?_)
      | (with_reducible refine LeO.bind ?_ (fun _ => ?_))
      | exact ih0 _ _ _
      | exact ih1 _ _ _
      | exact LeO.none _
      | refine LeO.ite ?_ ?_
      | refine LeO.bind ?_ (fun _ => ?_)
set_option maxHeartbeats 8000000 in
set_option maxRecDepth 100000 in
theorem wellspringref02_Labels.calls (k : Nat) (a0 : ByteArray) (r1 : List ByteArray) (r2 : Bool) (w : World) (h : wellspringref02_Labels.f k a0 = some (r1, r2)) :
    Calls Try.prog 69 #[.string a0] w fun e w' => ∃ v0_ : Value, e = .returned (.tuple #[v0_, .bool r2]) ∧ Kd.R Kd.string 9 w' w.heap.size (fun _ => True) v0_ r1 ∧ Below w.heap.size w w' := by
  have HB := Aside0.mk (Below.refl w.heap.size w)
  have H : (if (a0.size : Int) < 1 then (wellspringref02_Labels.j0 k a0 ([] : List ByteArray) true) else (wellspringref02_Labels.j0 k a0 ([] : List ByteArray) (decide ((a0.size : Int) > 255)))) = some (r1, r2) := h
  clear h
  have HC2 := Aside0.mk H
  clear H
  go_enter Try.func69, Try.ntmps69
  go_upto_region 2 with (fail)
  go_cut [14] (fun v14 wc => ∃ (kq : Nat) (x14_1 : Bool), v14 = .bool x14_1 ∧ Aside0 (wellspringref02_Labels.j0 kq a0 ([] : List ByteArray) x14_1 = some (r1, r2)) ∧ Aside0 (kq ≤ k) ∧ Aside0 (Kd.R Kd.string 9 wc w.heap.size (fun _ => True) (.slice none 0 0) ([] : List ByteArray)) ∧ Aside0 (Below w.heap.size w wc))
  case first =>
    have H := HC2.out
    clear HC2
    by_cases c3 : (a0.size : Int) < 1
    · rw [if_pos c3] at H
      have c3b0 : decide ((a0.size : Int) < 1) = true := decide_eq_true c3
      have c3b1 : decide (a0.size < 1) = true := decide_eq_true (by omega)
      clear c3
      (first | rw [c3b0] | rw [c3b2] | (simp only [i64_w, i32_w]; rw [c3b0]) | skip)
      have H' := Aside0.mk H
      clear H
      go_wp2
      go_meet
      case rel => exact ⟨_, (true), (by first | rfl | (simp; done) | (simp [*]; done) | (simp [Go.Proofs.Ytdkkanpbcifkfaa.B.beq_not_bne]; done) | (simp [Go.Proofs.Ytdkkanpbcifkfaa.B.bne_not_beq]; done)), H', ⟨by first | omega | exact Nat.le_refl _⟩, ⟨by first | exact Kd.R_nil _ _ _ _ _ | exact Kd.N_nil _ _ _ _ _ | exact Kd.V_nil _ _ _ _ _ | exact Kd.Q_nil _ _ _ _ _ | exact Kd.S_nil _ _ _ _ _⟩, ⟨by repeat (first | (with_reducible first | exact HB.out | apply below_alloc | apply pw_below_drewN | apply below_drew1) | exact HB.out)⟩⟩
    · rw [if_neg c3] at H
      have c3b0 : decide ((a0.size : Int) < 1) = false := decide_eq_false c3
      have c3b1 : decide (a0.size < 1) = false := decide_eq_false (by omega)
      clear c3
      (first | rw [c3b0] | rw [c3b2] | (simp only [i64_w, i32_w]; rw [c3b0]) | skip)
      have H' := Aside0.mk H
      clear H
      go_wp2
      go_meet
      case rel => exact ⟨_, (decide ((a0.size : Int) > 255)), (by first | rfl | (simp; done) | (simp [*]; done) | (simp [Go.Proofs.Ytdkkanpbcifkfaa.B.beq_not_bne]; done) | (simp [Go.Proofs.Ytdkkanpbcifkfaa.B.bne_not_beq]; done)), H', ⟨by first | omega | exact Nat.le_refl _⟩, ⟨by first | exact Kd.R_nil _ _ _ _ _ | exact Kd.N_nil _ _ _ _ _ | exact Kd.V_nil _ _ _ _ _ | exact Kd.Q_nil _ _ _ _ _ | exact Kd.S_nil _ _ _ _ _⟩, ⟨by repeat (first | (with_reducible first | exact HB.out | apply below_alloc | apply pw_below_drewN | apply below_drew1) | exact HB.out)⟩⟩
  case rest =>
    clear HC2
    try clear p2
    try clear c3
    try clear c3b0
    try clear c3b1
    try clear c3b2
    obtain ⟨kq, x14_1, rfl, HA, HJ1, HO_4, HB⟩ := hcut
    cases kq with
    | zero => exact absurd HA.out (by simp [wellspringref02_Labels.j0])
    | succ kj1 =>
      have H := HA.out
      clear HA
      simp only [wellspringref02_Labels.j0] at H
      by_cases c4 : x14_1 = true
      · subst c4
        have H1 : (some (([] : List ByteArray), false)) = some (r1, r2) := by rw [if_pos rfl] at H; exact H
        clear H
        have H := H1
        clear H1
        simp only [Option.some.injEq, Prod.mk.injEq] at H
        obtain ⟨rfl, rfl⟩ := H
        go_wp2
        go_ret2
        exact ⟨_, by first | rfl | (simp [errW_none, errW_some] <;> rfl) | (simp [*, errW_none, errW_some] <;> rfl), by first | exact Kd.R_nil _ _ _ _ _ | exact Kd.N_nil _ _ _ _ _ | exact Kd.V_nil _ _ _ _ _ | exact Kd.Q_nil _ _ _ _ _ | exact Kd.S_nil _ _ _ _ _, by repeat (first | (with_reducible first | exact HB.out | apply below_alloc | apply pw_below_drewN | apply below_drew1) | exact HB.out)⟩
      · replace c4 := Bool.eq_false_iff.mpr c4
        subst c4
        have H1 : (wellspringref02_Labels.l0 kj1 a0 ([] : List ByteArray) 0) = some (r1, r2) := by rw [if_neg (show ¬ (false = true) by decide)] at H; exact H
        clear H
        have H := H1
        clear H1
        have H' := Aside0.mk H
        clear H
        go_wp2
        go_loopg [4, 5] kj1 (fun kq v4 v5 w' => ∃ (x4_2 : List ByteArray) (x5_2 : Int), v5 = .int .i64 x5_2 ∧ Aside0 (wellspringref02_Labels.l0 kq a0 x4_2 x5_2 = some (r1, r2)) ∧ Aside0 (kq ≤ kj1) ∧ Aside0 (Kd.R Kd.string 9 w' w.heap.size (fun _ => True) v4 x4_2) ∧ Aside0 (Below w.heap.size w w'))
        case atStart => exact ⟨(([] : List ByteArray)), (0), (by first | rfl | (simp; done) | (simp [*]; done) | (simp [Go.Proofs.Ytdkkanpbcifkfaa.B.beq_not_bne]; done) | (simp [Go.Proofs.Ytdkkanpbcifkfaa.B.bne_not_beq]; done)), H', ⟨Nat.le_refl _⟩, ⟨by (with_reducible repeat (first | apply Kd.R_alloc | apply Kd.R_drewN | apply Kd.R_drew)); exact HO_4.out⟩, ⟨by repeat (first | (with_reducible first | exact HB.out | apply below_alloc | apply pw_below_drewN | apply below_drew1) | exact HB.out)⟩⟩
        case round =>
          clear H'
          try clear p2
          try clear c3
          try clear c3b0
          try clear c3b1
          try clear c3b2
          try clear c4
          try clear p2
          obtain ⟨x4_2, x5_2, rfl, HA, HK2, HO_4, HB⟩ := hrel
          cases gk with
          | zero => exact absurd HA.out (by simp [wellspringref02_Labels.l0])
          | succ k2 =>
            have H := HA.out
            clear HA
            simp only [wellspringref02_Labels.l0] at H
            by_cases c5 : x5_2 < (a0.size : Int)
            · rw [if_pos c5] at H
              have c5b0 : decide (x5_2 < (a0.size : Int)) = true := decide_eq_true c5
              clear c5
              by_cases c6 : 0 ≤ x5_2
              · rw [if_pos c6] at H
                have c6b0 : decide (0 ≤ x5_2) = true := decide_eq_true c6
                clear c6
                by_cases c8 : (wrap64 (bt a0 x5_2)) = 0
                · rw [if_pos c8] at H
                  have c8b0 : ((wrap64 (bt a0 x5_2)) == 0) = true := beq_iff_eq.mpr c8
                  have c8b1 : ((wrap64 (bt a0 x5_2)) != 0) = false := bne_eq_false_iff_eq.mpr c8
                  (try (have c8b2 : (((bt a0 x5_2)) == 0) = true := by have h_ : ((wrap64 (bt a0 x5_2)) == 0) = true := beq_iff_eq.mpr c8; rw [Go.Proofs.Ytdkkanpbcifkfaa.B.w64 (by omega) (by omega)] at h_; exact h_))
                  (try (have c8b3 : (((bt a0 x5_2)) != 0) = false := by have h_ : ((wrap64 (bt a0 x5_2)) != 0) = false := bne_eq_false_iff_eq.mpr c8; rw [Go.Proofs.Ytdkkanpbcifkfaa.B.w64 (by omega) (by omega)] at h_; exact h_))
                  clear c8
                  simp only [Option.some.injEq, Prod.mk.injEq] at H
                  obtain ⟨rfl, rfl⟩ := H
                  have p7 : 0 ≤ (x5_2 : Int) := of_decide_eq_true (by first | (with_reducible assumption) | assumption)
                  have q7 : x5_2 < (a0.size : Int) := of_decide_eq_true (by first | (with_reducible assumption) | assumption)
                  have hx7 := bt_at a0 x5_2
                  replace p7 := eq_true p7
                  replace q7 := eq_true q7
                  go_wp2
                  go_ret2
                  exact ⟨_, by first | rfl | (simp [errW_none, errW_some] <;> rfl) | (simp [*, errW_none, errW_some] <;> rfl), by (with_reducible repeat (first | apply Kd.R_alloc | apply Kd.R_drewN | apply Kd.R_drew)); exact HO_4.out, by repeat (first | (with_reducible first | exact HB.out | apply below_alloc | apply pw_below_drewN | apply below_drew1) | exact HB.out)⟩
                · rw [if_neg c8] at H
                  have c8b0 : ((wrap64 (bt a0 x5_2)) == 0) = false := beq_eq_false_iff_ne.mpr c8
                  have c8b1 : ((wrap64 (bt a0 x5_2)) != 0) = true := bne_iff_ne.mpr c8
                  (try (have c8b2 : (((bt a0 x5_2)) == 0) = false := by have h_ : ((wrap64 (bt a0 x5_2)) == 0) = false := beq_eq_false_iff_ne.mpr c8; rw [Go.Proofs.Ytdkkanpbcifkfaa.B.w64 (by omega) (by omega)] at h_; exact h_))
                  (try (have c8b3 : (((bt a0 x5_2)) != 0) = true := by have h_ : ((wrap64 (bt a0 x5_2)) != 0) = true := bne_iff_ne.mpr c8; rw [Go.Proofs.Ytdkkanpbcifkfaa.B.w64 (by omega) (by omega)] at h_; exact h_))
                  by_cases c9 : (wrap64 (bt a0 x5_2)) > 63
                  · rw [if_pos c9] at H
                    have c9b0 : decide (63 < (wrap64 (bt a0 x5_2))) = true := decide_eq_true c9
                    (try (have c9b1 : decide (63 < ((bt a0 x5_2))) = true := by have h_ : decide (63 < (wrap64 (bt a0 x5_2))) = true := decide_eq_true c9; rw [Go.Proofs.Ytdkkanpbcifkfaa.B.w64 (by omega) (by omega)] at h_; exact h_))
                    clear c9
                    simp only [Option.some.injEq, Prod.mk.injEq] at H
                    obtain ⟨rfl, rfl⟩ := H
                    have p7 : 0 ≤ (x5_2 : Int) := of_decide_eq_true (by first | (with_reducible assumption) | assumption)
                    have q7 : x5_2 < (a0.size : Int) := of_decide_eq_true (by first | (with_reducible assumption) | assumption)
                    have hx7 := bt_at a0 x5_2
                    replace p7 := eq_true p7
                    replace q7 := eq_true q7
                    go_wp2
                    go_ret2
                    exact ⟨_, by first | rfl | (simp [errW_none, errW_some] <;> rfl) | (simp [*, errW_none, errW_some] <;> rfl), by first | exact Kd.R_nil _ _ _ _ _ | exact Kd.N_nil _ _ _ _ _ | exact Kd.V_nil _ _ _ _ _ | exact Kd.Q_nil _ _ _ _ _ | exact Kd.S_nil _ _ _ _ _, by repeat (first | (with_reducible first | exact HB.out | apply below_alloc | apply pw_below_drewN | apply below_drew1) | exact HB.out)⟩
                  · rw [if_neg c9] at H
                    have c9b0 : decide (63 < (wrap64 (bt a0 x5_2))) = false := decide_eq_false c9
                    (try (have c9b1 : decide (63 < ((bt a0 x5_2))) = false := by have h_ : decide (63 < (wrap64 (bt a0 x5_2))) = false := decide_eq_false c9; rw [Go.Proofs.Ytdkkanpbcifkfaa.B.w64 (by omega) (by omega)] at h_; exact h_))
                    clear c9
                    by_cases c10 : (wrap64 (bt a0 x5_2)) ≥ (wrap64 ((a0.size : Int) - x5_2))
                    · rw [if_pos c10] at H
                      have c10b0 : decide ((wrap64 ((a0.size : Int) - x5_2)) ≤ (wrap64 (bt a0 x5_2))) = true := decide_eq_true c10
                      (try (have c10b1 : decide ((((a0.size : Int) - x5_2)) ≤ ((bt a0 x5_2))) = true := by have h_ : decide ((wrap64 ((a0.size : Int) - x5_2)) ≤ (wrap64 (bt a0 x5_2))) = true := decide_eq_true c10; rw [Go.Proofs.Ytdkkanpbcifkfaa.B.w64 (by omega) (by omega)] at h_; rw [Go.Proofs.Ytdkkanpbcifkfaa.B.w64 (by omega) (by omega)] at h_; exact h_))
                      clear c10
                      simp only [Option.some.injEq, Prod.mk.injEq] at H
                      obtain ⟨rfl, rfl⟩ := H
                      have p7 : 0 ≤ (x5_2 : Int) := of_decide_eq_true (by first | (with_reducible assumption) | assumption)
                      have q7 : x5_2 < (a0.size : Int) := of_decide_eq_true (by first | (with_reducible assumption) | assumption)
                      have hx7 := bt_at a0 x5_2
                      replace p7 := eq_true p7
                      replace q7 := eq_true q7
                      go_wp2
                      go_ret2
                      exact ⟨_, by first | rfl | (simp [errW_none, errW_some] <;> rfl) | (simp [*, errW_none, errW_some] <;> rfl), by first | exact Kd.R_nil _ _ _ _ _ | exact Kd.N_nil _ _ _ _ _ | exact Kd.V_nil _ _ _ _ _ | exact Kd.Q_nil _ _ _ _ _ | exact Kd.S_nil _ _ _ _ _, by repeat (first | (with_reducible first | exact HB.out | apply below_alloc | apply pw_below_drewN | apply below_drew1) | exact HB.out)⟩
                    · rw [if_neg c10] at H
                      have c10b0 : decide ((wrap64 ((a0.size : Int) - x5_2)) ≤ (wrap64 (bt a0 x5_2))) = false := decide_eq_false c10
                      (try (have c10b1 : decide ((((a0.size : Int) - x5_2)) ≤ ((bt a0 x5_2))) = false := by have h_ : decide ((wrap64 ((a0.size : Int) - x5_2)) ≤ (wrap64 (bt a0 x5_2))) = false := decide_eq_false c10; rw [Go.Proofs.Ytdkkanpbcifkfaa.B.w64 (by omega) (by omega)] at h_; rw [Go.Proofs.Ytdkkanpbcifkfaa.B.w64 (by omega) (by omega)] at h_; exact h_))
                      clear c10
                      obtain ⟨ji11, hji11⟩ : ∃ j_ : Int, (wrap64 (x5_2 + 1)) = j_ := ⟨_, rfl⟩
                      replace H : (if 0 ≤ (ji11) then (if (ji11) ≤ (wrap64 ((ji11) + (wrap64 (bt a0 x5_2)))) then (if (wrap64 ((ji11) + (wrap64 (bt a0 x5_2)))) ≤ (a0.size : Int) then (if x4_2.length < 8796093022208 then (wellspringref02_Labels.l0 k2 a0 (x4_2 ++ [a0.extract ((ji11) : Int).toNat ((wrap64 ((ji11) + (wrap64 (bt a0 x5_2)))) : Int).toNat]) (wrap64 ((ji11) + (wrap64 (bt a0 x5_2))))) else (none)) else (none)) else (none)) else (none)) = some (r1, r2) := by first | (rw [hji11] at H; exact H) | (simp only [hji11] at H ⊢; exact H)
                      have hji11w : (IntKind.i64.wrap (x5_2 + 1)) = ji11 := (i64_w _).trans hji11
                      by_cases c12 : 0 ≤ (ji11)
                      · rw [if_pos c12] at H
                        have c12b0 := eq_true c12
                        have c12b1 : decide (0 ≤ (ji11)) = true := decide_eq_true c12
                        clear c12
                        by_cases c13 : (ji11) ≤ (wrap64 ((ji11) + (wrap64 (bt a0 x5_2))))
                        · rw [if_pos c13] at H
                          have c13b0 := eq_true c13
                          have c13b1 : decide ((ji11) ≤ (wrap64 ((ji11) + (wrap64 (bt a0 x5_2))))) = true := decide_eq_true c13
                          by_cases c14 : (wrap64 ((ji11) + (wrap64 (bt a0 x5_2)))) ≤ (a0.size : Int)
                          · rw [if_pos c14] at H
                            have c14b0 := eq_true c14
                            have c14b1 : decide ((wrap64 ((ji11) + (wrap64 (bt a0 x5_2)))) ≤ (a0.size : Int)) = true := decide_eq_true c14
                            by_cases c15 : x4_2.length < 8796093022208
                            · rw [if_pos c15] at H
                              have LMc15 := Aside0.mk c15
                              clear c15
                              obtain ⟨y182, hy182⟩ : ∃ y_ : List ByteArray, y_ = (x4_2 ++ [a0.extract ((ji11) : Int).toNat ((wrap64 ((ji11) + (wrap64 (bt a0 x5_2)))) : Int).toNat]) := ⟨_, rfl⟩
                              replace H : (wellspringref02_Labels.l0 k2 a0 y182 (wrap64 ((ji11) + (wrap64 (bt a0 x5_2))))) = some (r1, r2) := by first | (rw [hy182]; with_reducible exact H) | (have H2_ := (Option.bind_some _ _).symm.trans H; rw [hy182]; with_reducible exact H2_) | (have H2_ := (Option.bind_some _ _).symm.trans H; with_reducible exact H2_) | with_reducible exact H | (rw [hy182]; exact H) | exact H
                              have Ny182 := Aside0.mk hy182
                              clear hy182
                              have H' := Aside0.mk H
                              clear H
                              have p7 : 0 ≤ (x5_2 : Int) := of_decide_eq_true (by first | (with_reducible assumption) | assumption)
                              have q7 : x5_2 < (a0.size : Int) := of_decide_eq_true (by first | (with_reducible assumption) | assumption)
                              have hx7 := bt_at a0 x5_2
                              replace p7 := eq_true p7
                              replace q7 := eq_true q7
                              go_wp2_with (first | ((with_reducible refine gate_builtin (b := .append) (xs := #[.tmp 41, .tmp 50]) rfl ?_); (try (refine gate_guard (by rfl) ?_; dsimp only)); at_builtin; refine Kd.R_append Kd.string (w0 := w) w.heap.size rfl (.tmp 41) (.tmp 50) 32 9 (.string ⟨#[]⟩) 16 rfl Try.underlying32 info9 rfl (by decide) (by omega) u4 x4_2 (a0.extract ((ji11) : Int).toNat ((wrap64 ((ji11) + (wrap64 (bt a0 x5_2)))) : Int).toNat) [.string (a0.extract ((ji11) : Int).toNat ((wrap64 ((ji11) + (wrap64 (bt a0 x5_2)))) : Int).toNat)] (fun _ => True) (fun _ => False) rfl rfl ?aP (fun _ hk => hk.elim) ?aF ?aO ?aB ?aS ?aL ?_; (case aP => exact rfl); (case aB => exact (by repeat (first | (with_reducible first | exact HB.out | apply below_alloc | apply pw_below_drewN | apply below_drew1) | exact HB.out))); (case aF => exact (fun _ _ => trivial)); (case aO => exact (by (with_reducible repeat (first | apply Kd.R_alloc | apply Kd.R_drewN | apply Kd.R_drew)); exact HO_4.out)); (case aS => exact (below_size (by repeat (first | (with_reducible first | exact HB.out | apply below_alloc | apply pw_below_drewN | apply below_drew1) | exact HB.out)))); (case aL => have := LMc15.out; omega); intro v183 w16 ho hb hg hat; rw [← Ny182.out] at ho; have n0_ := Aside0.mk (hb); have n1_ := Aside0.mk (ho); clear HB; clear HO_4; have HB := n0_; have HO184 := n1_; clear n0_ n1_; clear ho hb hg hat))
                              go_roundg k2
                              case measure => have := HJ1.out; have := HK2.out; omega
                              case rel => exact ⟨(y182), (wrap64 ((ji11) + (wrap64 (bt a0 x5_2)))), (by first | rfl | (simp; done) | (simp only [← hji11] <;> (first | rfl | simp)) | (simp [*]; done)), H', ⟨by have := HJ1.out; have := HK2.out; omega⟩, ⟨by (with_reducible repeat (first | apply Kd.R_alloc | apply Kd.R_drewN | apply Kd.R_drew)); exact HO184.out⟩, ⟨by repeat (first | (with_reducible first | exact HB.out | apply below_alloc | apply pw_below_drewN | apply below_drew1) | exact HB.out)⟩⟩
                            · rw [if_neg c15] at H
                              exact absurd H (by simp)
                          · rw [if_neg c14] at H
                            exact absurd H (by simp)
                        · rw [if_neg c13] at H
                          exact absurd H (by simp)
                      · rw [if_neg c12] at H
                        exact absurd H (by simp)
              · rw [if_neg c6] at H
                exact absurd H (by simp)
            · rw [if_neg c5] at H
              have c5b0 : decide (x5_2 < (a0.size : Int)) = false := decide_eq_false c5
              clear c5
              simp only [Option.some.injEq, Prod.mk.injEq] at H
              obtain ⟨rfl, rfl⟩ := H
              go_wp2
              go_ret2
              exact ⟨_, by first | rfl | (simp [errW_none, errW_some] <;> rfl) | (simp [*, errW_none, errW_some] <;> rfl), by first | exact Kd.R_nil _ _ _ _ _ | exact Kd.N_nil _ _ _ _ _ | exact Kd.V_nil _ _ _ _ _ | exact Kd.Q_nil _ _ _ _ _ | exact Kd.S_nil _ _ _ _ _, by repeat (first | (with_reducible first | exact HB.out | apply below_alloc | apply pw_below_drewN | apply below_drew1) | exact HB.out)⟩

/-! ### wellspringref02_Check: function 25 -/
def wellspringref02_Check.f (k : Nat) (a0 : ByteArray) : Option (Bool) := (wellspringref02_Labels.f k a0).bind fun bt185 => (some bt185.2)
theorem wellspringref02_Check.mono : ∀ a0 k, LeO (wellspringref02_Check.f k a0) (wellspringref02_Check.f (k + 1) a0) := by
  intro a0 k
  unfold wellspringref02_Check.f
  repeat' first
      | (with_reducible exact wellspringref02_Labels.mono _ _)
      | (with_reducible exact LeO.refl _)
      | (with_reducible exact LeO.none _)
      | (with_reducible refine LeO.ite ?_ ?_)
      | (with_reducible refine LeO.bind ?_ (fun _ => ?_))
      | exact wellspringref02_Labels.mono _ _
      | exact LeO.none _
      | refine LeO.ite ?_ ?_
      | refine LeO.bind ?_ (fun _ => ?_)
set_option maxHeartbeats 8000000 in
set_option maxRecDepth 100000 in
theorem wellspringref02_Check.calls (k : Nat) (a0 : ByteArray) (r : Bool) (w : World) (h : wellspringref02_Check.f k a0 = some r) :
    Calls Try.prog 25 #[.string a0] w fun e w' => e = .returned (.bool r) ∧ Below w.heap.size w w' := by
  have HB := Aside0.mk (Below.refl w.heap.size w)
  have H : ((wellspringref02_Labels.f k a0).bind fun bt185 => (some bt185.2)) = some r := h
  clear h
  replace H := Option.bind_eq_some_iff.mp H
  obtain ⟨⟨t185, t186⟩, A20, H⟩ := H
  replace H : (some t186) = some r := H
  have A2 := Aside0.mk A20
  clear A20
  obtain rfl := Option.some.inj H
  go_enter Try.func25, Try.ntmps25
  go_wp2_with (first | ((with_reducible refine gate_callee (f := 69) rfl ?_); refine goesL_ (some 7) rfl rfl Try.func69 (by kernel_rfl) rfl #[.string a0] rfl (by (try simp only [List.map_toArray, List.map_cons, List.map_nil]); first | done | rfl | (simp only [List.length_drop, List.length_take]; rfl) | (rw [Go.Proofs.Ytdkkanpbcifkfaa.B.w64] <;> first | rfl | omega | (simp only [decide_eq_false_iff_not, decide_eq_true_eq, Int.not_lt, Nat.not_lt, gt_iff_lt] at * <;> omega))) ?_; (with_reducible refine (wellspringref02_Labels.calls k a0 t185 t186 _ A2.out).mono ?_); rintro e w3 ⟨v187, rfl, ho0, hb⟩; refine ⟨_, rfl, ?_⟩; have n0_ := Aside0.mk (Kd.R_lower ho0 (below_size (by repeat (first | (with_reducible first | exact HB.out | apply below_alloc | apply pw_below_drewN | apply below_drew1) | exact HB.out)))); have n1_ := Aside0.mk (below_step (by repeat (first | (with_reducible first | exact HB.out | apply below_alloc | apply pw_below_drewN | apply below_drew1) | exact HB.out)) hb); clear HB; have HO188 := n0_; have HB := n1_; clear n0_ n1_; (try clear hb); (try clear hb2); (try clear hk); (try clear hi); (try clear ho0)))
  go_ret
  exact ⟨by first | rfl | (simp [errW_none, errW_some] <;> rfl) | (simp [*, errW_none, errW_some] <;> rfl), by repeat (first | (with_reducible first | exact HB.out | apply below_alloc | apply pw_below_drewN | apply below_drew1) | exact HB.out)⟩

-- GIVENPART Derived.Test.YtdkkanpbcifkfaaZRow
/-! ### wellspringref02_Small: function 70 -/
def wellspringref02_Small.f (a0 : ByteArray) : Option ByteArray := if a0.size ≤ 140737488355328 then some (B.lowB a0) else none
set_option maxHeartbeats 8000000 in
set_option maxRecDepth 100000 in
theorem wellspringref02_Small.calls (a0 : ByteArray) (r : ByteArray) (w : World) (h : wellspringref02_Small.f a0 = some r) :
    Calls Try.prog 70 #[.string a0] w fun e w' => e = .returned (.string r) ∧ Below w.heap.size w w' := by
  unfold wellspringref02_Small.f at h
  by_cases hs : a0.size ≤ 140737488355328
  · rw [if_pos hs] at h
    obtain rfl := Option.some.inj h
    clear h
    have kc := fun (W : World) => Lib.run_convert_string_bytes (P := Try.prog) W 9 69 5 a0 Try.underlying9 Try.underlying69 Try.underlying5
    have hb0 := Aside0.mk (B.below_conv (Below.refl w.heap.size w) (Nat.le_refl _) 5 a0)
    have hr0 := Aside0.mk (B.rowAt_conv w 5 a0)
    go_enter Try.func70, Try.ntmps70
    go_wp2
    generalize Lib.bytesWorld w 5 a0 = w1 at hb0 hr0 ⊢
    generalize grownCap w a0.size 0 5 = C
    have hz := Aside0.mk (B.numsOf_length a0)
    have hg := Aside0.mk (Nat.le_refl w.heap.size)
    generalize hgg : w.heap.size = g at hb0 hr0 hg ⊢
    have hg' := Aside0.mk hgg
    clear hgg
    go_loopw [4] (fun v wr => ∃ k : Nat, k ≤ a0.size ∧ v = .int .i64 k ∧ Aside0 (B.RowAt wr g (B.lowTo k (B.numsOf a0))) ∧ Aside0 (Below g w wr)) (fun v _ => a0.size - (intOf v).toNat)
    case atStart => exact ⟨0, Nat.zero_le _, rfl, ⟨by rw [B.lowTo_zero]; exact hr0.out⟩, hb0⟩
    case round =>
      obtain ⟨k, hk, rfl, hrow, hbel⟩ := hrel
      clear hr0 hb0 kc
      by_cases hlt : k < a0.size
      · have hkl : k < (B.numsOf a0).length := by rw [hz.out]; exact hlt
        have hc := (hrow.out k (by rw [B.lowTo_length]; exact hkl))
        rw [B.lowTo_at k _ hkl, B.numsOf_at] at hc
        obtain ⟨hc1, hc2⟩ := hc
        have hrange := B.bt_range' a0 k
        have hset := Aside0.mk (B.rowAt_set hrow.out k (B.smallI (bt a0 k)) (by rw [B.lowTo_length]; exact hkl))
        have hset' := Aside0.mk (show B.RowAt (wr.setCell ⟨g, k, none⟩ (.int .u8 (B.smallI (bt a0 k)))) g (B.lowTo (k + 1) (B.numsOf a0)) by
          have h1 := hset.out
          rw [← B.numsOf_at, B.lowTo_set k _ hkl] at h1
          rw [← B.numsOf_at]
          exact h1)
        have hbel' := Aside0.mk (hbel.out.setCell (p := ⟨g, k, none⟩) (Nat.le_refl _) (.int .u8 (B.smallI (bt a0 k))))
        have hsame := Aside0.mk (show B.smallI (bt a0 k) = bt a0 k → B.RowAt wr g (B.lowTo (k + 1) (B.numsOf a0)) by
          intro he j hj
          have h1 := hrow.out j (by rw [B.lowTo_length] at hj ⊢; exact hj)
          rw [← B.lowTo_set k _ hkl, B.numsOf_at, he]
          by_cases e : j = k
          · subst e
            rw [List.getD_eq_getElem?_getD, List.getElem?_set_self (by rw [B.lowTo_length]; exact hkl)]
            exact ⟨hc1, hc2⟩
          · rw [List.getD_eq_getElem?_getD, List.getElem?_set_ne (fun h => e h.symm), ← List.getD_eq_getElem?_getD]
            exact h1)
        clear hset hrow hkl
        generalize bt a0 k = c at *
        by_cases c1 : 65 ≤ c
        · by_cases c2 : c ≤ 90
          · have d1 : decide (65 ≤ c) = true := decide_eq_true c1
            have d2 : decide (c ≤ 90) = true := decide_eq_true c2
            have e1 : B.smallI c = c + 32 := by unfold B.smallI; rw [if_pos ⟨c1, c2⟩]
            have e2 : (c + 32) % 256 = c + 32 := by omega
            rw [e1] at hset' hbel'
            have e2' := Aside0.mk e2
            clear hsame hbel e1 e2 c1 c2
            go_wp2
            all_goals
              go_roundw
              case rel => exact ⟨k + 1, by omega, by go_num, ⟨fun j hj => by first | exact hset'.out j hj | (rw [e2'.out]; exact hset'.out j hj)⟩, ⟨by first | exact hbel'.out | (rw [e2'.out]; exact hbel'.out) | exact ⟨hbel'.out.os, hbel'.out.tape, hbel'.out.output, hbel'.out.size, hbel'.out.block⟩⟩⟩
              case measure => simp [intOf]; omega
          · have d1 : decide (65 ≤ c) = true := decide_eq_true c1
            have d2 : decide (c ≤ 90) = false := decide_eq_false c2
            have e1 : B.smallI c = c := by unfold B.smallI; rw [if_neg (by omega)]
            have hr2 := Aside0.mk (hsame.out e1)
            clear hsame hset' hbel' e1 c1 c2
            go_wp2
            go_roundw
            case rel => exact ⟨k + 1, by omega, by go_num, hr2, hbel⟩
            case measure => simp [intOf]; omega
        · have d1 : decide (65 ≤ c) = false := decide_eq_false c1
          have e1 : B.smallI c = c := by unfold B.smallI; rw [if_neg (by omega)]
          have hr2 := Aside0.mk (hsame.out e1)
          clear hsame hset' hbel' e1 c1
          go_wp2
          go_roundw
          case rel => exact ⟨k + 1, by omega, by go_num, hr2, hbel⟩
          case measure => simp [intOf]; omega
      · obtain rfl : k = a0.size := by omega
        have hl : (B.lowTo a0.size (B.numsOf a0)).length = a0.size := by rw [B.lowTo_length]; exact hz.out
        have kd := fun (dst : TypeId) (hd : Try.prog.underlying dst = some .string) => run_convert_bytes_arg (P := Try.prog) wr 69 5 Try.underlying69 Try.underlying5 g 0 a0.size C (B.lowTo a0.size (B.numsOf a0)) hl (fun i hi => by rw [Nat.zero_add]; exact (hrow.out i (by rw [hl]; exact hi)).1) dst hd
        replace kd := kd 9 Try.underlying9
        have he := Aside0.mk (show strOfNums (B.lowTo a0.size (B.numsOf a0)) = B.lowB a0 by
          have := B.lowTo_all (B.numsOf a0)
          rw [hz.out] at this
          rw [this]; rfl)
        generalize strOfNums (B.lowTo a0.size (B.numsOf a0)) = q at kd he
        clear hrow hl hlt
        have he' := he.out
        clear he
        subst he'
        go_wp2
        go_ret
        exact ⟨rfl, by rw [hg'.out]; exact hbel.out⟩
  · rw [if_neg hs] at h
    exact absurd h (by simp)

/-! ### wellspringref02_Same: function 26 -/
def wellspringref02_Same.f (k : Nat) (a0 : ByteArray) (a1 : ByteArray) : Option (Bool) := (wellspringref02_Check.f k a0).bind fun t189 => (if t189 = true then ((wellspringref02_Check.f k a1).bind fun t190 => (if t190 = true then ((wellspringref02_Small.f a0).bind fun t191 => ((wellspringref02_Small.f a1).bind fun t192 => (some (t191.toList == t192.toList)))) else (some false))) else (some false))
theorem wellspringref02_Same.mono : ∀ a0 a1 k, LeO (wellspringref02_Same.f k a0 a1) (wellspringref02_Same.f (k + 1) a0 a1) := by
  intro a0 a1 k
  unfold wellspringref02_Same.f
  repeat' first
      | (with_reducible exact wellspringref02_Check.mono _ _)
      | (with_reducible exact LeO.refl _)
      | (with_reducible exact LeO.none _)
      | (with_reducible refine LeO.ite ?_ ?_)
      | (with_reducible refine LeO.bind ?_ (fun _ => ?_))
      | exact wellspringref02_Check.mono _ _
      | exact LeO.none _
      | refine LeO.ite ?_ ?_
      | refine LeO.bind ?_ (fun _ => ?_)
set_option maxHeartbeats 8000000 in
set_option maxRecDepth 100000 in
theorem wellspringref02_Same.calls (k : Nat) (a0 : ByteArray) (a1 : ByteArray) (r : Bool) (w : World) (h : wellspringref02_Same.f k a0 a1 = some r) :
    Calls Try.prog 26 #[.string a0, .string a1] w fun e w' => e = .returned (.bool r) ∧ Below w.heap.size w w' := by
  have HB := Aside0.mk (Below.refl w.heap.size w)
  have H : ((wellspringref02_Check.f k a0).bind fun t189 => (if t189 = true then ((wellspringref02_Check.f k a1).bind fun t190 => (if t190 = true then ((wellspringref02_Small.f a0).bind fun t191 => ((wellspringref02_Small.f a1).bind fun t192 => (some (t191.toList == t192.toList)))) else (some false))) else (some false))) = some r := h
  clear h
  replace H := Option.bind_eq_some_iff.mp H
  obtain ⟨t189, A30, H⟩ := H
  replace H : (if t189 = true then ((wellspringref02_Check.f k a1).bind fun t190 => (if t190 = true then ((wellspringref02_Small.f a0).bind fun t191 => ((wellspringref02_Small.f a1).bind fun t192 => (some (t191.toList == t192.toList)))) else (some false))) else (some false)) = some r := H
  have A3 := Aside0.mk A30
  clear A30
  by_cases c4 : t189 = true
  · subst c4
    have H1 : ((wellspringref02_Check.f k a1).bind fun t190 => (if t190 = true then ((wellspringref02_Small.f a0).bind fun t191 => ((wellspringref02_Small.f a1).bind fun t192 => (some (t191.toList == t192.toList)))) else (some false))) = some r := by rw [if_pos rfl] at H; exact H
    clear H
    have H := H1
    clear H1
    replace H := Option.bind_eq_some_iff.mp H
    obtain ⟨t190, A50, H⟩ := H
    replace H : (if t190 = true then ((wellspringref02_Small.f a0).bind fun t191 => ((wellspringref02_Small.f a1).bind fun t192 => (some (t191.toList == t192.toList)))) else (some false)) = some r := H
    have A5 := Aside0.mk A50
    clear A50
    by_cases c6 : t190 = true
    · subst c6
      have H1 : ((wellspringref02_Small.f a0).bind fun t191 => ((wellspringref02_Small.f a1).bind fun t192 => (some (t191.toList == t192.toList)))) = some r := by rw [if_pos rfl] at H; exact H
      clear H
      have H := H1
      clear H1
      replace H := Option.bind_eq_some_iff.mp H
      obtain ⟨t191, A70, H⟩ := H
      replace H : ((wellspringref02_Small.f a1).bind fun t192 => (some (t191.toList == t192.toList))) = some r := H
      have A7 := Aside0.mk A70
      clear A70
      replace H := Option.bind_eq_some_iff.mp H
      obtain ⟨t192, A80, H⟩ := H
      replace H : (some (t191.toList == t192.toList)) = some r := H
      have A8 := Aside0.mk A80
      clear A80
      obtain rfl := Option.some.inj H
      go_enter Try.func26, Try.ntmps26
      go_wp2_with (first | ((with_reducible refine gate_callee (f := 25) rfl ?_); refine goesL_ (some 6) rfl rfl Try.func25 (by kernel_rfl) rfl #[.string a0] rfl (by (try simp only [List.map_toArray, List.map_cons, List.map_nil]); first | done | rfl | (simp only [List.length_drop, List.length_take]; rfl) | (rw [Go.Proofs.Ytdkkanpbcifkfaa.B.w64] <;> first | rfl | omega | (simp only [decide_eq_false_iff_not, decide_eq_true_eq, Int.not_lt, Nat.not_lt, gt_iff_lt] at * <;> omega))) ?_; (with_reducible refine (wellspringref02_Check.calls k a0 true _ A3.out).mono ?_); rintro e w9 ⟨rfl, hb⟩; refine ⟨_, rfl, ?_⟩; have n0_ := Aside0.mk (below_step (by repeat (first | (with_reducible first | exact HB.out | apply below_alloc | apply pw_below_drewN | apply below_drew1) | exact HB.out)) hb); clear HB; have HB := n0_; clear n0_; (try clear hb); (try clear hb2); (try clear hk); (try clear hi)) | (go_at_call 25; (with_reducible refine (wellspringref02_Check.calls k a1 true _ A5.out).mono ?_); rintro e w10 ⟨rfl, hb⟩; have n0_ := Aside0.mk (below_step (by repeat (first | (with_reducible first | exact HB.out | apply below_alloc | apply pw_below_drewN | apply below_drew1) | exact HB.out)) hb); clear HB; have HB := n0_; clear n0_; (try clear hb); (try clear hb2); (try clear hk); (try clear hi)) | (go_at_call 70; (with_reducible refine (wellspringref02_Small.calls a0 t191 _ A7.out).mono ?_); rintro e w11 ⟨rfl, hb⟩; have n0_ := Aside0.mk (below_step (by repeat (first | (with_reducible first | exact HB.out | apply below_alloc | apply pw_below_drewN | apply below_drew1) | exact HB.out)) hb); clear HB; have HB := n0_; clear n0_; (try clear hb); (try clear hb2); (try clear hk); (try clear hi)) | (go_at_call 70; (with_reducible refine (wellspringref02_Small.calls a1 t192 _ A8.out).mono ?_); rintro e w12 ⟨rfl, hb⟩; have n0_ := Aside0.mk (below_step (by repeat (first | (with_reducible first | exact HB.out | apply below_alloc | apply pw_below_drewN | apply below_drew1) | exact HB.out)) hb); clear HB; have HB := n0_; clear n0_; (try clear hb); (try clear hb2); (try clear hk); (try clear hi)))
      go_ret
      exact ⟨by first | rfl | (simp [errW_none, errW_some] <;> rfl) | (simp [*, errW_none, errW_some] <;> rfl), by repeat (first | (with_reducible first | exact HB.out | apply below_alloc | apply pw_below_drewN | apply below_drew1) | exact HB.out)⟩
    · replace c6 := Bool.eq_false_iff.mpr c6
      subst c6
      have H1 : (some false) = some r := by rw [if_neg (show ¬ (false = true) by decide)] at H; exact H
      clear H
      have H := H1
      clear H1
      obtain rfl := Option.some.inj H
      go_enter Try.func26, Try.ntmps26
      go_wp2_with (first | ((with_reducible refine gate_callee (f := 25) rfl ?_); refine goesL_ (some 6) rfl rfl Try.func25 (by kernel_rfl) rfl #[.string a0] rfl (by (try simp only [List.map_toArray, List.map_cons, List.map_nil]); first | done | rfl | (simp only [List.length_drop, List.length_take]; rfl) | (rw [Go.Proofs.Ytdkkanpbcifkfaa.B.w64] <;> first | rfl | omega | (simp only [decide_eq_false_iff_not, decide_eq_true_eq, Int.not_lt, Nat.not_lt, gt_iff_lt] at * <;> omega))) ?_; (with_reducible refine (wellspringref02_Check.calls k a0 true _ A3.out).mono ?_); rintro e w13 ⟨rfl, hb⟩; refine ⟨_, rfl, ?_⟩; have n0_ := Aside0.mk (below_step (by repeat (first | (with_reducible first | exact HB.out | apply below_alloc | apply pw_below_drewN | apply below_drew1) | exact HB.out)) hb); clear HB; have HB := n0_; clear n0_; (try clear hb); (try clear hb2); (try clear hk); (try clear hi)) | (go_at_call 25; (with_reducible refine (wellspringref02_Check.calls k a1 false _ A5.out).mono ?_); rintro e w14 ⟨rfl, hb⟩; have n0_ := Aside0.mk (below_step (by repeat (first | (with_reducible first | exact HB.out | apply below_alloc | apply pw_below_drewN | apply below_drew1) | exact HB.out)) hb); clear HB; have HB := n0_; clear n0_; (try clear hb); (try clear hb2); (try clear hk); (try clear hi)))
      go_ret
      exact ⟨by first | rfl | (simp [errW_none, errW_some] <;> rfl) | (simp [*, errW_none, errW_some] <;> rfl), by repeat (first | (with_reducible first | exact HB.out | apply below_alloc | apply pw_below_drewN | apply below_drew1) | exact HB.out)⟩
  · replace c4 := Bool.eq_false_iff.mpr c4
    subst c4
    have H1 : (some false) = some r := by rw [if_neg (show ¬ (false = true) by decide)] at H; exact H
    clear H
    have H := H1
    clear H1
    obtain rfl := Option.some.inj H
    go_enter Try.func26, Try.ntmps26
    go_wp2_with (first | ((with_reducible refine gate_callee (f := 25) rfl ?_); refine goesL_ (some 6) rfl rfl Try.func25 (by kernel_rfl) rfl #[.string a0] rfl (by (try simp only [List.map_toArray, List.map_cons, List.map_nil]); first | done | rfl | (simp only [List.length_drop, List.length_take]; rfl) | (rw [Go.Proofs.Ytdkkanpbcifkfaa.B.w64] <;> first | rfl | omega | (simp only [decide_eq_false_iff_not, decide_eq_true_eq, Int.not_lt, Nat.not_lt, gt_iff_lt] at * <;> omega))) ?_; (with_reducible refine (wellspringref02_Check.calls k a0 false _ A3.out).mono ?_); rintro e w15 ⟨rfl, hb⟩; refine ⟨_, rfl, ?_⟩; have n0_ := Aside0.mk (below_step (by repeat (first | (with_reducible first | exact HB.out | apply below_alloc | apply pw_below_drewN | apply below_drew1) | exact HB.out)) hb); clear HB; have HB := n0_; clear n0_; (try clear hb); (try clear hb2); (try clear hk); (try clear hi)))
    go_ret
    exact ⟨by first | rfl | (simp [errW_none, errW_some] <;> rfl) | (simp [*, errW_none, errW_some] <;> rfl), by repeat (first | (with_reducible first | exact HB.out | apply below_alloc | apply pw_below_drewN | apply below_drew1) | exact HB.out)⟩

-- GIVENPART Derived.Test.YtdkkanpbcifkfaaZBld Derived.BigRegion Derived.Laws.BitsLemmas
/-! ### wellspringref02_Join: function 94 -/
/-- The name of some labels, behind what was written already. -/
def wellspringref02_Join.g : List ByteArray → ByteArray → ByteArray × Bool
  | [], s => if 255 < s.size + 1 then (⟨#[]⟩, false) else (s ++ (⟨#[0]⟩ : ByteArray), true)
  | x :: l, s => if x.size < 1 ∨ 63 < x.size ∨ 255 < s.size then (⟨#[]⟩, false) else wellspringref02_Join.g l (s ++ strOfNums [((x.size : Int)) % 256] ++ x)
def wellspringref02_Join.f (l0 : List ByteArray) : Option (ByteArray × Bool) := some (wellspringref02_Join.g l0 ⟨#[]⟩)
theorem wellspringref02_Join.conv (g : Nat) (b : Int) (W : World) (hc : W.cell? ⟨g, 0, none⟩ = some (.int .u8 b)) :
    (convert 69 9 (.slice (some ⟨g, 0, none⟩) 1 1)).run Try.prog W = .ok (.string (strOfNums [b])) W := by
  refine run_convert_bytes_arg (P := Try.prog) W 69 5 Try.underlying69 Try.underlying5 g 0 1 1 [b] rfl (fun i hi => ?_) 9 Try.underlying9
  obtain rfl : i = 0 := by omega
  exact hc
theorem wellspringref02_Join.below_alloc' {w wr : World} (h : Below w.heap.size w wr) (o : Obj) : Below w.heap.size w (wr.alloc o) := h.alloc h.size o
set_option maxHeartbeats 4000000 in
set_option maxRecDepth 100000 in
theorem wellspringref02_Join.calls (A0 : Option Addr) (c0 : Nat) (l0 : List ByteArray) (r1 : ByteArray) (r2 : Bool) (w : World) (hr0 : Kd.C Kd.string w A0 l0.length l0) (hc0 : l0.length ≤ c0) (h : wellspringref02_Join.f l0 = some (r1, r2)) :
    Calls Try.prog 94 #[.slice A0 l0.length c0] w fun e w' => e = .returned (.tuple #[.string r1, .bool r2]) ∧ Below w.heap.size w w' := by
  have HR := Aside0.mk hr0
  have HH := Aside0.mk (Option.some.inj h)
  have HM := Aside0.mk (Kd.C_max hr0)
  clear hr0 hc0 h
  go_enter Try.func94, Try.ntmps94
  go_wp2
  go_loopw [4, 5] (fun v4 v5 wr => ∃ (s : ByteArray) (j : Nat), v4 = .string s ∧ v5 = .int .i64 j ∧ j ≤ l0.length ∧ Aside0 (s.size ≤ 400) ∧ Aside0 (wellspringref02_Join.g (l0.drop j) s = (r1, r2)) ∧ Aside0 (Below w.heap.size w wr)) (fun _ v5 _ => l0.length - (intOf v5).toNat)
  case atStart => exact ⟨_, 0, rfl, rfl, Nat.zero_le _, ⟨by decide⟩, ⟨HH.out⟩, ⟨Below.refl _ _⟩⟩
  case round =>
    clear HH
    obtain ⟨s, j, rfl, rfl, hj, hs, hg, hb⟩ := hrel
    have hm := HM.out
    by_cases hlt : j < l0.length
    · obtain ⟨ad, e0, hx⟩ := Kd.at_string HR.out (j : Int) (by omega) (by omega)
      cases e0
      have hbl := World.block_lt_of_cell? w _ hx
      replace hx := (hb.out.cell hbl).trans hx
      have hg' := hg.out
      rw [List.drop_eq_getElem_cons hlt] at hg'
      have hxe : rdOf ByteArray.empty l0 (j : Int) = l0[j] := by
        unfold rdOf
        rw [show ((j : Int)).toNat = j from by omega, List.getD_eq_getElem?_getD, List.getElem?_eq_getElem hlt]
        rfl
      rw [hxe, Int.toNat_natCast] at hx
      generalize l0[j] = x at hx hg'
      clear hxe hg
      simp only [wellspringref02_Join.g] at hg'
      have p0 : (0 ≤ (j : Int)) = True := eq_true (by omega)
      have q0 : ((j : Int) < (l0.length : Int)) = True := eq_true (by omega)
      by_cases h1 : x.size < 1
      · rw [if_pos (.inl h1)] at hg'
        simp only [Prod.mk.injEq] at hg'
        obtain ⟨rfl, rfl⟩ := hg'
        have d1 : decide (x.size < 1) = true := decide_eq_true h1
        have d1' : decide ((x.size : Int) < 1) = true := decide_eq_true (by omega)
        clear h1
        go_wp2
        go_ret2
        exact ⟨rfl, hb.out⟩
      · have d1 : decide (x.size < 1) = false := decide_eq_false h1
        have d1' : decide ((x.size : Int) < 1) = false := decide_eq_false (by omega)
        by_cases h2 : 63 < x.size
        · rw [if_pos (.inr (.inl h2))] at hg'
          simp only [Prod.mk.injEq] at hg'
          obtain ⟨rfl, rfl⟩ := hg'
          have d2 : decide (63 < x.size) = true := decide_eq_true h2
          have d2' : decide (63 < (x.size : Int)) = true := decide_eq_true (by omega)
          clear h1 h2
          go_wp2
          go_ret2
          exact ⟨rfl, hb.out⟩
        · have d2 : decide (63 < x.size) = false := decide_eq_false h2
          have d2' : decide (63 < (x.size : Int)) = false := decide_eq_false (by omega)
          by_cases h3 : 255 < s.size
          · rw [if_pos (.inr (.inr h3))] at hg'
            simp only [Prod.mk.injEq] at hg'
            obtain ⟨rfl, rfl⟩ := hg'
            have d3 : decide (255 < s.size) = true := decide_eq_true h3
            have d3' : decide (255 < (s.size : Int)) = true := decide_eq_true (by omega)
            clear h1 h2 h3
            go_wp2
            go_ret2
            exact ⟨rfl, hb.out⟩
          · have d3 : decide (255 < s.size) = false := decide_eq_false h3
            have d3' : decide (255 < (s.size : Int)) = false := decide_eq_false (by omega)
            rw [if_neg (by omega)] at hg'
            have hg2 := Aside0.mk hg'
            have hss := Aside0.mk (show (s ++ strOfNums [((x.size : Int)) % 256] ++ x).size ≤ 400 by rw [ByteArray.size_append, ByteArray.size_append, strOfNums_size]; simp only [List.length_singleton]; omega)
            have hxs : (x.size : Int) % 256 = x.size := by omega
            rw [hxs] at hg2 hss
            have hy1 : (strOfNums [(x.size : Int)]).size = 1 := by rw [strOfNums_size]; rfl
            have hlt2 := Aside0.mk hlt
            have hbd := Aside0.mk (show s.size ≤ 255 ∧ x.size ≤ 63 by omega)
            clear h1 h2 h3 hg' hs
            have hbl' : (ad.add j).block < wr.heap.size := by
              have h1 := World.block_lt_of_cell? wr _ hx
              exact h1
            have hxa : ∀ o, (wr.alloc o).cell? (ad.add j) = some (.string x) := fun o => (World.cell?_alloc_lt wr o _ hbl').trans hx
            have hcv : (convert 69 9 (.slice (some ⟨wr.heap.size, 0, none⟩) 1 1)).run Try.prog (wr.alloc (.cells #[.int .u8 x.size] 5)) = .ok (.string (strOfNums [(x.size : Int)])) (wr.alloc (.cells #[.int .u8 x.size] 5)) :=
              wellspringref02_Join.conv wr.heap.size x.size (wr.alloc (.cells #[.int .u8 x.size] 5)) (by rw [Lib.cell_of_heap (heap_alloc_new wr _)]; rfl)
            have hw8 : IntKind.u8.wrap (x.size : Int) = x.size := by rw [IntKind.wrap_u8]; exact hxs
            have hcv2 : (convert 69 9 (.slice (some ⟨wr.heap.size, 0, none⟩) 1 1)).run Try.prog (wr.alloc (.cells #[.int .u8 x.size] 5)).drew = .ok (.string (strOfNums [(x.size : Int)])) (wr.alloc (.cells #[.int .u8 x.size] 5)).drew :=
              wellspringref02_Join.conv wr.heap.size x.size (wr.alloc (.cells #[.int .u8 x.size] 5)).drew (by rw [show ((wr.alloc (.cells #[.int .u8 x.size] 5)).drew.cell? ⟨wr.heap.size, 0, none⟩) = (wr.alloc (.cells #[.int .u8 x.size] 5)).cell? ⟨wr.heap.size, 0, none⟩ from rfl, Lib.cell_of_heap (heap_alloc_new wr _)]; rfl)
            generalize strOfNums [(x.size : Int)] = y at *
            have n1 : s.size + y.size ≤ 9223372036854775807 := by have := hbd.out; omega
            have n1' := eq_true n1
            have n2 : s.size + y.size + x.size ≤ 9223372036854775807 := by have := hbd.out; omega
            have n2' := eq_true n2
            have n3 : (9223372036854775807 < s.size + y.size) = False := eq_false (by omega)
            have n4 : (9223372036854775807 < s.size + y.size + x.size) = False := eq_false (by omega)
            clear hbl hbl' hxs hy1 n1 n2
            go_wp2
            go_region
            all_goals
              clear hx hxa hcv hcv2 hw8 p0 q0
              go_wp2
              go_roundw
              case rel => exact ⟨_, j + 1, rfl, by go_num, hlt2.out, hss, hg2, ⟨below_drew (below_alloc' hb.out _)⟩⟩
              case measure => have := hlt2.out; simp [intOf]; omega
    · obtain rfl : j = l0.length := by omega
      have hg' := hg.out
      rw [List.drop_length] at hg'
      simp only [wellspringref02_Join.g] at hg'
      have q0 : ((l0.length : Int) < (l0.length : Int)) = False := eq_false (by omega)
      have hs' := hs.out
      have n1 : s.size + 1 ≤ 9223372036854775807 := by omega
      by_cases h1 : 255 < s.size + 1
      · rw [if_pos h1] at hg'
        simp only [Prod.mk.injEq] at hg'
        obtain ⟨rfl, rfl⟩ := hg'
        have d1 : decide (255 < s.size + 1) = true := decide_eq_true h1
        have d1' : decide (255 < (s.size : Int) + 1) = true := decide_eq_true (by omega)
        clear h1 hg
        go_wp2
        go_ret2
        exact ⟨rfl, hb.out⟩
      · rw [if_neg h1] at hg'
        simp only [Prod.mk.injEq] at hg'
        obtain ⟨rfl, rfl⟩ := hg'
        have d1 : decide (255 < s.size + 1) = false := decide_eq_false h1
        have d1' : decide (255 < (s.size : Int) + 1) = false := decide_eq_false (by omega)
        clear h1 hg
        go_wp2
        go_ret2
        exact ⟨rfl, hb.out⟩

/-! ### wellspringref02_Up: function 68 -/
def wellspringref02_Up.f (k : Nat) (a0 : ByteArray) : Option (ByteArray × Bool) := (wellspringref02_Labels.f k a0).bind fun bt196 => (if bt196.2 = true then (if (bt196.1.length : Int) = 0 then (some ((⟨#[]⟩ : ByteArray), false)) else (if 1 ≤ (bt196.1.length : Int) then ((wellspringref02_Join.f (bt196.1.drop 1)).bind fun bt204 => (some (bt204.1, bt204.2))) else (none))) else (some ((⟨#[]⟩ : ByteArray), false)))
theorem wellspringref02_Up.mono : ∀ a0 k, LeO (wellspringref02_Up.f k a0) (wellspringref02_Up.f (k + 1) a0) := by
  intro a0 k
  unfold wellspringref02_Up.f
  repeat' first
      | (with_reducible exact wellspringref02_Labels.mono _ _)
      | (with_reducible exact LeO.refl _)
      | (with_reducible exact LeO.none _)
      | (with_reducible refine LeO.ite ?_ ?_)
      | (with_reducible refine LeO.bind ?_ (fun _ => ?_))
      | exact wellspringref02_Labels.mono _ _
      | exact LeO.none _
      | refine LeO.ite ?_ ?_
      | refine LeO.bind ?_ (fun _ => ?_)
set_option maxHeartbeats 8000000 in
set_option maxRecDepth 100000 in
theorem wellspringref02_Up.calls (k : Nat) (a0 : ByteArray) (r1 : ByteArray) (r2 : Bool) (w : World) (h : wellspringref02_Up.f k a0 = some (r1, r2)) :
    Calls Try.prog 68 #[.string a0] w fun e w' => e = .returned (.tuple #[.string r1, .bool r2]) ∧ Below w.heap.size w w' := by
  have HB := Aside0.mk (Below.refl w.heap.size w)
  have H : ((wellspringref02_Labels.f k a0).bind fun bt196 => (if bt196.2 = true then (if (bt196.1.length : Int) = 0 then (some ((⟨#[]⟩ : ByteArray), false)) else (if 1 ≤ (bt196.1.length : Int) then ((wellspringref02_Join.f (bt196.1.drop 1)).bind fun bt204 => (some (bt204.1, bt204.2))) else (none))) else (some ((⟨#[]⟩ : ByteArray), false)))) = some (r1, r2) := h
  clear h
  replace H := Option.bind_eq_some_iff.mp H
  obtain ⟨⟨t196, t197⟩, A20, H⟩ := H
  replace H : (if t197 = true then (if (t196.length : Int) = 0 then (some ((⟨#[]⟩ : ByteArray), false)) else (if 1 ≤ (t196.length : Int) then ((wellspringref02_Join.f (t196.drop 1)).bind fun bt204 => (some (bt204.1, bt204.2))) else (none))) else (some ((⟨#[]⟩ : ByteArray), false))) = some (r1, r2) := H
  have A2 := Aside0.mk A20
  clear A20
  by_cases c3 : t197 = true
  · subst c3
    have H1 : (if (t196.length : Int) = 0 then (some ((⟨#[]⟩ : ByteArray), false)) else (if 1 ≤ (t196.length : Int) then ((wellspringref02_Join.f (t196.drop 1)).bind fun bt204 => (some (bt204.1, bt204.2))) else (none))) = some (r1, r2) := by rw [if_pos rfl] at H; exact H
    clear H
    have H := H1
    clear H1
    by_cases c4 : (t196.length : Int) = 0
    · rw [if_pos c4] at H
      have c4b0 : ((t196.length : Int) == 0) = true := beq_iff_eq.mpr c4
      have c4b1 : ((t196.length : Int) != 0) = false := bne_eq_false_iff_eq.mpr c4
      clear c4
      simp only [Option.some.injEq, Prod.mk.injEq] at H
      obtain ⟨rfl, rfl⟩ := H
      go_enter Try.func68, Try.ntmps68
      go_wp2_with (first | ((with_reducible refine gate_callee (f := 69) rfl ?_); refine goesL_ (some 8) rfl rfl Try.func69 (by kernel_rfl) rfl #[.string a0] rfl (by (try simp only [List.map_toArray, List.map_cons, List.map_nil]); first | done | rfl | (simp only [List.length_drop, List.length_take]; rfl) | (rw [Go.Proofs.Ytdkkanpbcifkfaa.B.w64] <;> first | rfl | omega | (simp only [decide_eq_false_iff_not, decide_eq_true_eq, Int.not_lt, Nat.not_lt, gt_iff_lt] at * <;> omega))) ?_; (with_reducible refine (wellspringref02_Labels.calls k a0 t196 true _ A2.out).mono ?_); rintro e w5 ⟨v198, rfl, ho0, hb⟩; refine ⟨_, rfl, ?_⟩; have n0_ := Aside0.mk (Kd.R_lower ho0 (below_size (by repeat (first | (with_reducible first | exact HB.out | apply below_alloc | apply pw_below_drewN | apply below_drew1) | exact HB.out)))); have n1_ := Aside0.mk (below_step (by repeat (first | (with_reducible first | exact HB.out | apply below_alloc | apply pw_below_drewN | apply below_drew1) | exact HB.out)) hb); clear HB; have HO199 := n0_; have HB := n1_; clear n0_ n1_; (try clear hb); (try clear hb2); (try clear hk); (try clear hi); (try clear ho0); obtain ⟨Ao6, co6, eo6⟩ := Kd.R_slice HO199.out; subst eo6))
      go_ret2
      exact ⟨by first | rfl | (simp [errW_none, errW_some] <;> rfl) | (simp [*, errW_none, errW_some] <;> rfl), by repeat (first | (with_reducible first | exact HB.out | apply below_alloc | apply pw_below_drewN | apply below_drew1) | exact HB.out)⟩
    · rw [if_neg c4] at H
      have c4b0 : ((t196.length : Int) == 0) = false := beq_eq_false_iff_ne.mpr c4
      have c4b1 : ((t196.length : Int) != 0) = true := bne_iff_ne.mpr c4
      have c4b2 : ¬ (t196 = []) := fun h_ => c4 (by rw [h_]; rfl)
      by_cases c7 : 1 ≤ (t196.length : Int)
      · rw [if_pos c7] at H
        have c7b0 := eq_true c7
        have c7b1 : decide (1 ≤ (t196.length : Int)) = true := decide_eq_true c7
        clear c7
        obtain ⟨y200, hy200⟩ : ∃ y_ : List ByteArray, y_ = (t196.drop 1) := ⟨_, rfl⟩
        replace H : ((wellspringref02_Join.f y200).bind fun bt204 => (some (bt204.1, bt204.2))) = some (r1, r2) := by first | (rw [hy200]; with_reducible exact H) | (have H2_ := (Option.bind_some _ _).symm.trans H; rw [hy200]; with_reducible exact H2_) | (have H2_ := (Option.bind_some _ _).symm.trans H; with_reducible exact H2_) | with_reducible exact H | (rw [hy200]; exact H) | exact H
        have Ny200 := Aside0.mk hy200
        clear hy200
        replace H := Option.bind_eq_some_iff.mp H
        obtain ⟨⟨t204, t205⟩, A80, H⟩ := H
        replace H : (some (t204, t205)) = some (r1, r2) := H
        have A8 := Aside0.mk A80
        clear A80
        simp only [Option.some.injEq, Prod.mk.injEq] at H
        obtain ⟨rfl, rfl⟩ := H
        go_enter Try.func68, Try.ntmps68
        go_wp2_with (first | ((with_reducible refine gate_callee (f := 69) rfl ?_); refine goesL_ (some 8) rfl rfl Try.func69 (by kernel_rfl) rfl #[.string a0] rfl (by (try simp only [List.map_toArray, List.map_cons, List.map_nil]); first | done | rfl | (simp only [List.length_drop, List.length_take]; rfl) | (rw [Go.Proofs.Ytdkkanpbcifkfaa.B.w64] <;> first | rfl | omega | (simp only [decide_eq_false_iff_not, decide_eq_true_eq, Int.not_lt, Nat.not_lt, gt_iff_lt] at * <;> omega))) ?_; (with_reducible refine (wellspringref02_Labels.calls k a0 t196 true _ A2.out).mono ?_); rintro e w9 ⟨v198, rfl, ho0, hb⟩; refine ⟨_, rfl, ?_⟩; have n0_ := Aside0.mk (Kd.R_lower ho0 (below_size (by repeat (first | (with_reducible first | exact HB.out | apply below_alloc | apply pw_below_drewN | apply below_drew1) | exact HB.out)))); have n1_ := Aside0.mk (below_step (by repeat (first | (with_reducible first | exact HB.out | apply below_alloc | apply pw_below_drewN | apply below_drew1) | exact HB.out)) hb); clear HB; have HO199 := n0_; have HB := n1_; clear n0_ n1_; (try clear hb); (try clear hb2); (try clear hk); (try clear hi); (try clear ho0); obtain ⟨Ao10, co10, eo10⟩ := Kd.R_slice HO199.out; subst eo10; have q11 : (1 : Int) ≤ ((t196.length : Int) : Int) := of_decide_eq_true (by first | (with_reducible assumption) | assumption); obtain ⟨i011, hi011, _, hsz11, _⟩ := info_parts info9; have hroom11 : t196.length ≤ co10 := (Kd.R_reads' HO199.out).2.1; have hC11 : Kd.C Kd.string _ Ao10 t196.length t196 := (Kd.R_reads' HO199.out).2.2; have hcut11 := cut_from (P := Try.prog) 32 9 .i64 Try.underlying32 hi011 1 hsz11 Ao10 t196.length co10 1 (by omega) q11; have hr11 := Kd.C_drop (m := (1 : Int).toNat) (c := co10) hC11 (by omega) hroom11; obtain ⟨A11, hA11⟩ : ∃ A1, A1 = (if co10 = (1 : Int).toNat then Ao10 else (Ao10 : Option Addr).map (·.add ((1 : Int).toNat * 1))) := ⟨_, rfl⟩; obtain ⟨c11, hc11⟩ : ∃ c1, c1 = co10 - (1 : Int).toNat := ⟨_, rfl⟩; have hy11 : y200.length = t196.length - (1 : Int).toNat := (by rw [Ny200.out, List.length_drop] <;> omega); rw [show (t196).drop (1 : Int).toNat = y200 from Ny200.out.symm] at hr11; replace hr11 : Kd.C Kd.string _ A11 y200.length y200 := (by rw [hA11]; exact hr11); rw [← hy11, ← hA11, ← hc11] at hcut11; have HR203 := Aside0.mk hr11; have HC203 := Aside0.mk (show y200.length ≤ c11 from by rw [hy11, hc11]; exact Nat.sub_le_sub_right hroom11 _); clear hr11 hC11 hroom11 hi011 hsz11 hc11; have KY11 := Aside0.mk hy11; have KA11 := Aside0.mk hA11; clear hy11 hA11; have KL11 := Aside0.mk (show 1 ≤ t196.length from by omega); replace q11 := eq_true q11) | ((with_reducible refine gate_callee (f := 94) rfl ?_); refine goesL_ (some 20) rfl rfl Try.func94 (by kernel_rfl) rfl #[.slice A11 y200.length c11] rfl (by (try simp only [List.map_toArray, List.map_cons, List.map_nil]); first | done | rfl | (simp only [List.length_drop, List.length_take]; rfl) | (rw [Go.Proofs.Ytdkkanpbcifkfaa.B.w64] <;> first | rfl | omega | (simp only [decide_eq_false_iff_not, decide_eq_true_eq, Int.not_lt, Nat.not_lt, gt_iff_lt] at * <;> omega))) ?_; (with_reducible refine (wellspringref02_Join.calls _ _ y200 t204 t205 _ ?side1 ?side2 A8.out).mono ?_); (case side1 => repeat (first | exact (by repeat (first | (with_reducible exact HR203.out) | (with_reducible refine Kd.C_alloc ?_ _) | (with_reducible refine Kd.C_drewN ?_ _) | (with_reducible refine Kd.C_drew ?_) | exact HR203.out)) | (with_reducible refine Kd.C_alloc ?_ _) | (with_reducible refine Kd.C_drewN ?_ _) | (with_reducible refine Kd.C_drew ?_))); (case side2 => exact HC203.out); rintro e w12 ⟨rfl, hb⟩; refine ⟨_, rfl, ?_⟩; have n0_ := Aside0.mk (Kd.R_below (by (with_reducible repeat (first | apply Kd.R_alloc | apply Kd.R_drewN | apply Kd.R_drew)); exact HO199.out) hb); have n1_ := Aside0.mk (Kd.C_below (by repeat (first | (with_reducible exact HR203.out) | (with_reducible refine Kd.C_alloc ?_ _) | (with_reducible refine Kd.C_drewN ?_ _) | (with_reducible refine Kd.C_drew ?_) | exact HR203.out)) hb); have n2_ := Aside0.mk (below_step (by repeat (first | (with_reducible first | exact HB.out | apply below_alloc | apply pw_below_drewN | apply below_drew1) | exact HB.out)) hb); clear HO199; clear HR203; clear HB; have HO199 := n0_; have HR203 := n1_; have HB := n2_; clear n0_ n1_ n2_; (try clear hb); (try clear hb2); (try clear hk); (try clear hi)))
        go_ret2
        exact ⟨by first | rfl | (simp [errW_none, errW_some] <;> rfl) | (simp [*, errW_none, errW_some] <;> rfl), by repeat (first | (with_reducible first | exact HB.out | apply below_alloc | apply pw_below_drewN | apply below_drew1) | exact HB.out)⟩
      · rw [if_neg c7] at H
        exact absurd H (by simp)
  · replace c3 := Bool.eq_false_iff.mpr c3
    subst c3
    have H1 : (some ((⟨#[]⟩ : ByteArray), false)) = some (r1, r2) := by rw [if_neg (show ¬ (false = true) by decide)] at H; exact H
    clear H
    have H := H1
    clear H1
    simp only [Option.some.injEq, Prod.mk.injEq] at H
    obtain ⟨rfl, rfl⟩ := H
    go_enter Try.func68, Try.ntmps68
    go_wp2_with (first | ((with_reducible refine gate_callee (f := 69) rfl ?_); refine goesL_ (some 8) rfl rfl Try.func69 (by kernel_rfl) rfl #[.string a0] rfl (by (try simp only [List.map_toArray, List.map_cons, List.map_nil]); first | done | rfl | (simp only [List.length_drop, List.length_take]; rfl) | (rw [Go.Proofs.Ytdkkanpbcifkfaa.B.w64] <;> first | rfl | omega | (simp only [decide_eq_false_iff_not, decide_eq_true_eq, Int.not_lt, Nat.not_lt, gt_iff_lt] at * <;> omega))) ?_; (with_reducible refine (wellspringref02_Labels.calls k a0 t196 false _ A2.out).mono ?_); rintro e w13 ⟨v198, rfl, ho0, hb⟩; refine ⟨_, rfl, ?_⟩; have n0_ := Aside0.mk (Kd.R_lower ho0 (below_size (by repeat (first | (with_reducible first | exact HB.out | apply below_alloc | apply pw_below_drewN | apply below_drew1) | exact HB.out)))); have n1_ := Aside0.mk (below_step (by repeat (first | (with_reducible first | exact HB.out | apply below_alloc | apply pw_below_drewN | apply below_drew1) | exact HB.out)) hb); clear HB; have HO199 := n0_; have HB := n1_; clear n0_ n1_; (try clear hb); (try clear hb2); (try clear hk); (try clear hi); (try clear ho0)))
    go_ret2
    exact ⟨by first | rfl | (simp [errW_none, errW_some] <;> rfl) | (simp [*, errW_none, errW_some] <;> rfl), by repeat (first | (with_reducible first | exact HB.out | apply below_alloc | apply pw_below_drewN | apply below_drew1) | exact HB.out)⟩

end Go.Proofs.Ytdkkanpbcifkfaa.ZQ

-- Written by a program of this session (wip/tools/myprint.py), over the kit's printer; Lean checks it.
import Derived.Test.YtdkkanpbcifkfaaZQ0
import Derived.Test.YtdkkanpbcifkfaaZQ4
import Derived.Test.YtdkkanpbcifkfaaZQ6
namespace Go.Proofs.Ytdkkanpbcifkfaa.ZQ
open Go.RowKit Go.Proofs.YtdkkanpbcifkfaaW.PrintWords Go.Proofs.YtdkkanpbcifkfaaW.PrintLast Go.Proofs.YtdkkanpbcifkfaaW.PrintMore
attribute [local go_sem] max2_int min2_int max_two min_two max_three min_three max_four min_four   -- for this text's walks alone
set_option linter.unusedVariables false
set_option linter.unusedSimpArgs false

/-! ### wellspringref04_bad: function 61 -/
def wellspringref04_bad.f (a0 : Int) : Option (ByteArray × Int × Int) := some ((⟨#[]⟩ : ByteArray), 0, a0)
set_option maxHeartbeats 8000000 in
set_option maxRecDepth 100000 in
theorem wellspringref04_bad.calls (a0 : Int) (r1 : ByteArray) (r2 : Int) (r3 : Int) (w : World) (h : wellspringref04_bad.f a0 = some (r1, r2, r3)) :
    Calls Try.prog 61 #[.int .i64 a0] w fun e w' => e = .returned (.tuple #[.string r1, .int .i64 r2, .int .i64 r3]) ∧ Drawn0 w w' := by
  have H : (some ((⟨#[]⟩ : ByteArray), 0, a0)) = some (r1, r2, r3) := h
  clear h
  simp only [Option.some.injEq, Prod.mk.injEq] at H
  obtain ⟨rfl, rfl, rfl⟩ := H
  go_enter Try.func61, Try.ntmps61
  go_wp2
  go_ret3
  exact ⟨by first | rfl | (simp; done) | (simp [*]; done), by repeat (first | exact Drawn0.refl _ | apply Drawn0.step)⟩

/-! ### wellspringref04_Read: function 22 -/
def wellspringref04_Read.l0 : Nat → ByteArray → Int → ByteArray → Int → Int → Option (ByteArray × Int × Int)
  | 0, _, _, _, _, _ => none
  | k + 1, x0, x1, x7, x8, x9 => (wellspringref01_Get.f k x0 x1 1).bind fun bt150 => (if bt150.2 = true then (if bt150.1 = 0 then (if x8 < 0 then (if x7.size + 1 ≤ 9223372036854775807 then (some (x7 ++ (⟨#[0]⟩ : ByteArray), wrap64 (x1 + 1), 0)) else (none)) else (if x7.size + 1 ≤ 9223372036854775807 then (some (x7 ++ (⟨#[0]⟩ : ByteArray), x8, 0)) else (none))) else (if bt150.1 ≥ 192 then ((wellspringref01_Get.f k x0 x1 2).bind fun bt155 => (if bt155.2 = true then (if (wrap64 (bt155.1 - 49152)) ≥ x9 then ((wellspringref04_bad.f 3).bind fun bt160 => (some (bt160.1, bt160.2.1, bt160.2.2))) else (if x8 < 0 then (wellspringref04_Read.l0 k x0 (wrap64 (bt155.1 - 49152)) x7 (wrap64 (x1 + 2)) (wrap64 (bt155.1 - 49152))) else (wellspringref04_Read.l0 k x0 (wrap64 (bt155.1 - 49152)) x7 x8 (wrap64 (bt155.1 - 49152))))) else ((wellspringref04_bad.f 2).bind fun bt157 => (some (bt157.1, bt157.2.1, bt157.2.2))))) else (if bt150.1 > 63 then ((wellspringref04_bad.f 3).bind fun bt163 => (some (bt163.1, bt163.2.1, bt163.2.2))) else ((wellspringref01_Take.f x0 x1 (wrap64 (bt150.1 + 1))).bind fun bt166 => (if bt166.2 = true then (if x7.size + bt166.1.size ≤ 9223372036854775807 then (if (wrap64 (((x7 ++ bt166.1).size : Int) + 1)) > 255 then ((wellspringref04_bad.f 3).bind fun bt168 => (some (bt168.1, bt168.2.1, bt168.2.2))) else (wellspringref04_Read.l0 k x0 (wrap64 ((wrap64 (x1 + bt150.1)) + 1)) (x7 ++ bt166.1) x8 x9)) else (none)) else ((wellspringref04_bad.f 2).bind fun bt171 => (some (bt171.1, bt171.2.1, bt171.2.2)))))))) else ((wellspringref04_bad.f 2).bind fun bt152 => (some (bt152.1, bt152.2.1, bt152.2.2))))
def wellspringref04_Read.f (k : Nat) (a0 : ByteArray) (a1 : Int) : Option (ByteArray × Int × Int) := wellspringref04_Read.l0 k a0 a1 (⟨#[]⟩ : ByteArray) (-1) a1
theorem wellspringref04_Read.mono_l : ∀ k, (∀ y0 y1 y2 y3 y4, LeO (wellspringref04_Read.l0 k y0 y1 y2 y3 y4) (wellspringref04_Read.l0 (k + 1) y0 y1 y2 y3 y4))
  | 0 => fun _ _ _ _ _ r h => by simp [wellspringref04_Read.l0] at h
  | k + 1 => by
    have ih0 := wellspringref04_Read.mono_l k
    · intro y0 y1 y2 y3 y4
      unfold wellspringref04_Read.l0
      repeat' first
      | (with_reducible exact ih0 _ _ _ _ _)
      | (with_reducible exact wellspringref01_Get.mono _ _ _ _)
      | (with_reducible exact LeO.refl _)
      | (with_reducible exact LeO.none _)
      | (with_reducible refine LeO.ite ?_ ?_)
      | (with_reducible refine LeO.bind ?_ (fun _ => ?_))
      | exact ih0 _ _ _ _ _
      | exact wellspringref01_Get.mono _ _ _ _
      | exact LeO.none _
      | refine LeO.ite ?_ ?_
      | refine LeO.bind ?_ (fun _ => ?_)
theorem wellspringref04_Read.mono : ∀ a0 a1 k, LeO (wellspringref04_Read.f k a0 a1) (wellspringref04_Read.f (k + 1) a0 a1) := by
  intro a0 a1 k
  have ih0 := wellspringref04_Read.mono_l k
  unfold wellspringref04_Read.f
  repeat' first
      | (with_reducible exact ih0 _ _ _ _ _)
      | (with_reducible exact wellspringref01_Get.mono _ _ _ _)
      | (with_reducible exact LeO.refl _)
      | (with_reducible exact LeO.none _)
      | (with_reducible refine LeO.ite ?_ ?_)
      | (with_reducible refine LeO.bind ?_ (fun _ => ?_))
      | exact ih0 _ _ _ _ _
      | exact wellspringref01_Get.mono _ _ _ _
      | exact LeO.none _
      | refine LeO.ite ?_ ?_
      | refine LeO.bind ?_ (fun _ => ?_)
set_option maxHeartbeats 8000000 in
set_option maxRecDepth 100000 in
theorem wellspringref04_Read.calls (k : Nat) (a0 : ByteArray) (a1 : Int) (r1 : ByteArray) (r2 : Int) (r3 : Int) (w : World) (h : wellspringref04_Read.f k a0 a1 = some (r1, r2, r3)) :
    Calls Try.prog 22 #[.string a0, .int .i64 a1] w fun e w' => e = .returned (.tuple #[.string r1, .int .i64 r2, .int .i64 r3]) ∧ Drawn0 w w' := by
  have H : (wellspringref04_Read.l0 k a0 a1 (⟨#[]⟩ : ByteArray) (-1) a1) = some (r1, r2, r3) := h
  clear h
  have H' := Aside0.mk H
  clear H
  go_enter Try.func22, Try.ntmps22
  go_wp2
  go_loopg [1, 7, 8, 9] k (fun kq v1 v7 v8 v9 w' => ∃ (x1_1 : Int) (x7_1 : ByteArray) (x8_1 : Int) (x9_1 : Int), v1 = .int .i64 x1_1 ∧ v7 = .string x7_1 ∧ v8 = .int .i64 x8_1 ∧ v9 = .int .i64 x9_1 ∧ Aside0 (wellspringref04_Read.l0 kq a0 x1_1 x7_1 x8_1 x9_1 = some (r1, r2, r3)) ∧ Aside0 (kq ≤ k) ∧ Drawn0 w w')
  case atStart => exact ⟨(a1), ((⟨#[]⟩ : ByteArray)), ((-1)), (a1), (by first | rfl | (simp; done) | (simp [*]; done) | (simp [Go.Proofs.Ytdkkanpbcifkfaa.B.beq_not_bne]; done) | (simp [Go.Proofs.Ytdkkanpbcifkfaa.B.bne_not_beq]; done)), (by first | rfl | (simp; done) | (simp [*]; done) | (simp [Go.Proofs.Ytdkkanpbcifkfaa.B.beq_not_bne]; done) | (simp [Go.Proofs.Ytdkkanpbcifkfaa.B.bne_not_beq]; done)), (by first | rfl | (simp; done) | (simp [*]; done) | (simp [Go.Proofs.Ytdkkanpbcifkfaa.B.beq_not_bne]; done) | (simp [Go.Proofs.Ytdkkanpbcifkfaa.B.bne_not_beq]; done)), (by first | rfl | (simp; done) | (simp [*]; done) | (simp [Go.Proofs.Ytdkkanpbcifkfaa.B.beq_not_bne]; done) | (simp [Go.Proofs.Ytdkkanpbcifkfaa.B.bne_not_beq]; done)), H', ⟨Nat.le_refl _⟩, by repeat (first | exact Drawn0.refl _ | apply Drawn0.step)⟩
  case round =>
    clear H'
    try clear c2
    try clear p2
    obtain ⟨x1_1, x7_1, x8_1, x9_1, rfl, rfl, rfl, rfl, HA, HK1, ⟨m1, rfl⟩⟩ := hrel
    cases gk with
    | zero => exact absurd HA.out (by simp [wellspringref04_Read.l0])
    | succ k1 =>
      have H := HA.out
      clear HA
      simp only [wellspringref04_Read.l0] at H
      replace H := Option.bind_eq_some_iff.mp H
      obtain ⟨⟨t150, t151⟩, A30, H⟩ := H
      replace H : (if t151 = true then (if t150 = 0 then (if x8_1 < 0 then (if x7_1.size + 1 ≤ 9223372036854775807 then (some (x7_1 ++ (⟨#[0]⟩ : ByteArray), wrap64 (x1_1 + 1), 0)) else (none)) else (if x7_1.size + 1 ≤ 9223372036854775807 then (some (x7_1 ++ (⟨#[0]⟩ : ByteArray), x8_1, 0)) else (none))) else (if t150 ≥ 192 then ((wellspringref01_Get.f k1 a0 x1_1 2).bind fun bt155 => (if bt155.2 = true then (if (wrap64 (bt155.1 - 49152)) ≥ x9_1 then ((wellspringref04_bad.f 3).bind fun bt160 => (some (bt160.1, bt160.2.1, bt160.2.2))) else (if x8_1 < 0 then (wellspringref04_Read.l0 k1 a0 (wrap64 (bt155.1 - 49152)) x7_1 (wrap64 (x1_1 + 2)) (wrap64 (bt155.1 - 49152))) else (wellspringref04_Read.l0 k1 a0 (wrap64 (bt155.1 - 49152)) x7_1 x8_1 (wrap64 (bt155.1 - 49152))))) else ((wellspringref04_bad.f 2).bind fun bt157 => (some (bt157.1, bt157.2.1, bt157.2.2))))) else (if t150 > 63 then ((wellspringref04_bad.f 3).bind fun bt163 => (some (bt163.1, bt163.2.1, bt163.2.2))) else ((wellspringref01_Take.f a0 x1_1 (wrap64 (t150 + 1))).bind fun bt166 => (if bt166.2 = true then (if x7_1.size + bt166.1.size ≤ 9223372036854775807 then (if (wrap64 (((x7_1 ++ bt166.1).size : Int) + 1)) > 255 then ((wellspringref04_bad.f 3).bind fun bt168 => (some (bt168.1, bt168.2.1, bt168.2.2))) else (wellspringref04_Read.l0 k1 a0 (wrap64 ((wrap64 (x1_1 + t150)) + 1)) (x7_1 ++ bt166.1) x8_1 x9_1)) else (none)) else ((wellspringref04_bad.f 2).bind fun bt171 => (some (bt171.1, bt171.2.1, bt171.2.2)))))))) else ((wellspringref04_bad.f 2).bind fun bt152 => (some (bt152.1, bt152.2.1, bt152.2.2)))) = some (r1, r2, r3) := H
      have A3 := Aside0.mk A30
      clear A30
      by_cases c4 : t151 = true
      · subst c4
        have H1 : (if t150 = 0 then (if x8_1 < 0 then (if x7_1.size + 1 ≤ 9223372036854775807 then (some (x7_1 ++ (⟨#[0]⟩ : ByteArray), wrap64 (x1_1 + 1), 0)) else (none)) else (if x7_1.size + 1 ≤ 9223372036854775807 then (some (x7_1 ++ (⟨#[0]⟩ : ByteArray), x8_1, 0)) else (none))) else (if t150 ≥ 192 then ((wellspringref01_Get.f k1 a0 x1_1 2).bind fun bt155 => (if bt155.2 = true then (if (wrap64 (bt155.1 - 49152)) ≥ x9_1 then ((wellspringref04_bad.f 3).bind fun bt160 => (some (bt160.1, bt160.2.1, bt160.2.2))) else (if x8_1 < 0 then (wellspringref04_Read.l0 k1 a0 (wrap64 (bt155.1 - 49152)) x7_1 (wrap64 (x1_1 + 2)) (wrap64 (bt155.1 - 49152))) else (wellspringref04_Read.l0 k1 a0 (wrap64 (bt155.1 - 49152)) x7_1 x8_1 (wrap64 (bt155.1 - 49152))))) else ((wellspringref04_bad.f 2).bind fun bt157 => (some (bt157.1, bt157.2.1, bt157.2.2))))) else (if t150 > 63 then ((wellspringref04_bad.f 3).bind fun bt163 => (some (bt163.1, bt163.2.1, bt163.2.2))) else ((wellspringref01_Take.f a0 x1_1 (wrap64 (t150 + 1))).bind fun bt166 => (if bt166.2 = true then (if x7_1.size + bt166.1.size ≤ 9223372036854775807 then (if (wrap64 (((x7_1 ++ bt166.1).size : Int) + 1)) > 255 then ((wellspringref04_bad.f 3).bind fun bt168 => (some (bt168.1, bt168.2.1, bt168.2.2))) else (wellspringref04_Read.l0 k1 a0 (wrap64 ((wrap64 (x1_1 + t150)) + 1)) (x7_1 ++ bt166.1) x8_1 x9_1)) else (none)) else ((wellspringref04_bad.f 2).bind fun bt171 => (some (bt171.1, bt171.2.1, bt171.2.2)))))))) = some (r1, r2, r3) := by rw [if_pos rfl] at H; exact H
        clear H
        have H := H1
        clear H1
        by_cases c5 : t150 = 0
        · rw [if_pos c5] at H
          have c5b0 : (t150 == 0) = true := beq_iff_eq.mpr c5
          have c5b1 : (t150 != 0) = false := bne_eq_false_iff_eq.mpr c5
          clear c5
          by_cases c6 : x8_1 < 0
          · rw [if_pos c6] at H
            have c6b0 : decide (x8_1 < 0) = true := decide_eq_true c6
            clear c6
            by_cases c7 : x7_1.size + 1 ≤ 9223372036854775807
            · rw [if_pos c7] at H
              have c7b0 := eq_true c7
              have c7b1 : decide (x7_1.size + 1 ≤ 9223372036854775807) = true := decide_eq_true c7
              try have c7b2 : (9223372036854775807 < x7_1.size + 1) = False := eq_false (Nat.not_lt.2 c7)
              simp only [Option.some.injEq, Prod.mk.injEq] at H
              obtain ⟨rfl, rfl, rfl⟩ := H
              go_wp2_with (first | ((with_reducible refine gate_callee (f := 60) rfl ?_); refine goesL_ (some 20) rfl rfl Try.func60 (by kernel_rfl) rfl #[.string a0, .int .i64 x1_1, .int .i64 1] rfl (by (try simp only [List.map_toArray, List.map_cons, List.map_nil]); first | done | rfl | (simp only [List.length_drop, List.length_take]; rfl) | (rw [Go.Proofs.Ytdkkanpbcifkfaa.B.w64] <;> first | rfl | omega | (simp only [decide_eq_false_iff_not, decide_eq_true_eq, Int.not_lt, Nat.not_lt, gt_iff_lt] at * <;> omega))) ?_; (with_reducible refine (wellspringref01_Get.calls k1 a0 x1_1 1 t150 true _ A3.out).mono ?_); rintro e w' ⟨rfl, ⟨nd, rfl⟩⟩; refine ⟨_, rfl, ?_⟩))
              go_ret3
              exact ⟨by first | rfl | (simp; done) | (simp [*]; done), by repeat (first | exact Drawn0.refl _ | apply Drawn0.step)⟩
            · rw [if_neg c7] at H
              exact absurd H (by simp)
          · rw [if_neg c6] at H
            have c6b0 : decide (x8_1 < 0) = false := decide_eq_false c6
            clear c6
            by_cases c8 : x7_1.size + 1 ≤ 9223372036854775807
            · rw [if_pos c8] at H
              have c8b0 := eq_true c8
              have c8b1 : decide (x7_1.size + 1 ≤ 9223372036854775807) = true := decide_eq_true c8
              try have c8b2 : (9223372036854775807 < x7_1.size + 1) = False := eq_false (Nat.not_lt.2 c8)
              simp only [Option.some.injEq, Prod.mk.injEq] at H
              obtain ⟨rfl, rfl, rfl⟩ := H
              go_wp2_with (first | ((with_reducible refine gate_callee (f := 60) rfl ?_); refine goesL_ (some 20) rfl rfl Try.func60 (by kernel_rfl) rfl #[.string a0, .int .i64 x1_1, .int .i64 1] rfl (by (try simp only [List.map_toArray, List.map_cons, List.map_nil]); first | done | rfl | (simp only [List.length_drop, List.length_take]; rfl) | (rw [Go.Proofs.Ytdkkanpbcifkfaa.B.w64] <;> first | rfl | omega | (simp only [decide_eq_false_iff_not, decide_eq_true_eq, Int.not_lt, Nat.not_lt, gt_iff_lt] at * <;> omega))) ?_; (with_reducible refine (wellspringref01_Get.calls k1 a0 x1_1 1 t150 true _ A3.out).mono ?_); rintro e w' ⟨rfl, ⟨nd, rfl⟩⟩; refine ⟨_, rfl, ?_⟩))
              go_ret3
              exact ⟨by first | rfl | (simp; done) | (simp [*]; done), by repeat (first | exact Drawn0.refl _ | apply Drawn0.step)⟩
            · rw [if_neg c8] at H
              exact absurd H (by simp)
        · rw [if_neg c5] at H
          have c5b0 : (t150 == 0) = false := beq_eq_false_iff_ne.mpr c5
          have c5b1 : (t150 != 0) = true := bne_iff_ne.mpr c5
          by_cases c9 : t150 ≥ 192
          · rw [if_pos c9] at H
            have c9b0 : decide (192 ≤ t150) = true := decide_eq_true c9
            clear c9
            replace H := Option.bind_eq_some_iff.mp H
            obtain ⟨⟨t155, t156⟩, A100, H⟩ := H
            replace H : (if t156 = true then (if (wrap64 (t155 - 49152)) ≥ x9_1 then ((wellspringref04_bad.f 3).bind fun bt160 => (some (bt160.1, bt160.2.1, bt160.2.2))) else (if x8_1 < 0 then (wellspringref04_Read.l0 k1 a0 (wrap64 (t155 - 49152)) x7_1 (wrap64 (x1_1 + 2)) (wrap64 (t155 - 49152))) else (wellspringref04_Read.l0 k1 a0 (wrap64 (t155 - 49152)) x7_1 x8_1 (wrap64 (t155 - 49152))))) else ((wellspringref04_bad.f 2).bind fun bt157 => (some (bt157.1, bt157.2.1, bt157.2.2)))) = some (r1, r2, r3) := H
            have A10 := Aside0.mk A100
            clear A100
            by_cases c11 : t156 = true
            · subst c11
              have H1 : (if (wrap64 (t155 - 49152)) ≥ x9_1 then ((wellspringref04_bad.f 3).bind fun bt160 => (some (bt160.1, bt160.2.1, bt160.2.2))) else (if x8_1 < 0 then (wellspringref04_Read.l0 k1 a0 (wrap64 (t155 - 49152)) x7_1 (wrap64 (x1_1 + 2)) (wrap64 (t155 - 49152))) else (wellspringref04_Read.l0 k1 a0 (wrap64 (t155 - 49152)) x7_1 x8_1 (wrap64 (t155 - 49152))))) = some (r1, r2, r3) := by rw [if_pos rfl] at H; exact H
              clear H
              have H := H1
              clear H1
              by_cases c12 : (wrap64 (t155 - 49152)) ≥ x9_1
              · rw [if_pos c12] at H
                have c12b0 : decide (x9_1 ≤ (wrap64 (t155 - 49152))) = true := decide_eq_true c12
                (try (have c12b1 : decide (x9_1 ≤ ((t155 - 49152))) = true := by have h_ : decide (x9_1 ≤ (wrap64 (t155 - 49152))) = true := decide_eq_true c12; rw [Go.Proofs.Ytdkkanpbcifkfaa.B.w64 (by omega) (by omega)] at h_; exact h_))
                clear c12
                replace H := Option.bind_eq_some_iff.mp H
                obtain ⟨⟨t160, t161, t162⟩, A130, H⟩ := H
                replace H : (some (t160, t161, t162)) = some (r1, r2, r3) := H
                have A13 := Aside0.mk A130
                clear A130
                simp only [Option.some.injEq, Prod.mk.injEq] at H
                obtain ⟨rfl, rfl, rfl⟩ := H
                go_wp2_with (first | ((with_reducible refine gate_callee (f := 60) rfl ?_); refine goesL_ (some 20) rfl rfl Try.func60 (by kernel_rfl) rfl #[.string a0, .int .i64 x1_1, .int .i64 1] rfl (by (try simp only [List.map_toArray, List.map_cons, List.map_nil]); first | done | rfl | (simp only [List.length_drop, List.length_take]; rfl) | (rw [Go.Proofs.Ytdkkanpbcifkfaa.B.w64] <;> first | rfl | omega | (simp only [decide_eq_false_iff_not, decide_eq_true_eq, Int.not_lt, Nat.not_lt, gt_iff_lt] at * <;> omega))) ?_; (with_reducible refine (wellspringref01_Get.calls k1 a0 x1_1 1 t150 true _ A3.out).mono ?_); rintro e w' ⟨rfl, ⟨nd, rfl⟩⟩; refine ⟨_, rfl, ?_⟩) | ((with_reducible refine gate_callee (f := 60) rfl ?_); refine goesL_ (some 43) rfl rfl Try.func60 (by kernel_rfl) rfl #[.string a0, .int .i64 x1_1, .int .i64 2] rfl (by (try simp only [List.map_toArray, List.map_cons, List.map_nil]); first | done | rfl | (simp only [List.length_drop, List.length_take]; rfl) | (rw [Go.Proofs.Ytdkkanpbcifkfaa.B.w64] <;> first | rfl | omega | (simp only [decide_eq_false_iff_not, decide_eq_true_eq, Int.not_lt, Nat.not_lt, gt_iff_lt] at * <;> omega))) ?_; (with_reducible refine (wellspringref01_Get.calls k1 a0 x1_1 2 t155 true _ A10.out).mono ?_); rintro e w' ⟨rfl, ⟨nd, rfl⟩⟩; refine ⟨_, rfl, ?_⟩) | ((with_reducible refine gate_callee (f := 61) rfl ?_); refine goesL_ (some 56) rfl rfl Try.func61 (by kernel_rfl) rfl #[.int .i64 3] rfl (by (try simp only [List.map_toArray, List.map_cons, List.map_nil]); first | done | rfl | (simp only [List.length_drop, List.length_take]; rfl) | (rw [Go.Proofs.Ytdkkanpbcifkfaa.B.w64] <;> first | rfl | omega | (simp only [decide_eq_false_iff_not, decide_eq_true_eq, Int.not_lt, Nat.not_lt, gt_iff_lt] at * <;> omega))) ?_; (with_reducible refine (wellspringref04_bad.calls 3 t160 t161 t162 _ A13.out).mono ?_); rintro e w' ⟨rfl, ⟨nd, rfl⟩⟩; refine ⟨_, rfl, ?_⟩))
                go_ret3
                exact ⟨by first | rfl | (simp; done) | (simp [*]; done), by repeat (first | exact Drawn0.refl _ | apply Drawn0.step)⟩
              · rw [if_neg c12] at H
                have c12b0 : decide (x9_1 ≤ (wrap64 (t155 - 49152))) = false := decide_eq_false c12
                (try (have c12b1 : decide (x9_1 ≤ ((t155 - 49152))) = false := by have h_ : decide (x9_1 ≤ (wrap64 (t155 - 49152))) = false := decide_eq_false c12; rw [Go.Proofs.Ytdkkanpbcifkfaa.B.w64 (by omega) (by omega)] at h_; exact h_))
                clear c12
                by_cases c14 : x8_1 < 0
                · rw [if_pos c14] at H
                  have c14b0 : decide (x8_1 < 0) = true := decide_eq_true c14
                  clear c14
                  have H' := Aside0.mk H
                  clear H
                  go_wp2_with (first | ((with_reducible refine gate_callee (f := 60) rfl ?_); refine goesL_ (some 20) rfl rfl Try.func60 (by kernel_rfl) rfl #[.string a0, .int .i64 x1_1, .int .i64 1] rfl (by (try simp only [List.map_toArray, List.map_cons, List.map_nil]); first | done | rfl | (simp only [List.length_drop, List.length_take]; rfl) | (rw [Go.Proofs.Ytdkkanpbcifkfaa.B.w64] <;> first | rfl | omega | (simp only [decide_eq_false_iff_not, decide_eq_true_eq, Int.not_lt, Nat.not_lt, gt_iff_lt] at * <;> omega))) ?_; (with_reducible refine (wellspringref01_Get.calls k1 a0 x1_1 1 t150 true _ A3.out).mono ?_); rintro e w' ⟨rfl, ⟨nd, rfl⟩⟩; refine ⟨_, rfl, ?_⟩) | ((with_reducible refine gate_callee (f := 60) rfl ?_); refine goesL_ (some 43) rfl rfl Try.func60 (by kernel_rfl) rfl #[.string a0, .int .i64 x1_1, .int .i64 2] rfl (by (try simp only [List.map_toArray, List.map_cons, List.map_nil]); first | done | rfl | (simp only [List.length_drop, List.length_take]; rfl) | (rw [Go.Proofs.Ytdkkanpbcifkfaa.B.w64] <;> first | rfl | omega | (simp only [decide_eq_false_iff_not, decide_eq_true_eq, Int.not_lt, Nat.not_lt, gt_iff_lt] at * <;> omega))) ?_; (with_reducible refine (wellspringref01_Get.calls k1 a0 x1_1 2 t155 true _ A10.out).mono ?_); rintro e w' ⟨rfl, ⟨nd, rfl⟩⟩; refine ⟨_, rfl, ?_⟩))
                  go_roundg k1
                  case measure => have := HK1.out; omega
                  case rel => exact ⟨(wrap64 (t155 - 49152)), (x7_1), (wrap64 (x1_1 + 2)), (wrap64 (t155 - 49152)), (by first | rfl | (simp; done) | (simp [*]; done) | (simp [Go.Proofs.Ytdkkanpbcifkfaa.B.beq_not_bne]; done) | (simp [Go.Proofs.Ytdkkanpbcifkfaa.B.bne_not_beq]; done)), (by first | rfl | (simp; done) | (simp [*]; done) | (simp [Go.Proofs.Ytdkkanpbcifkfaa.B.beq_not_bne]; done) | (simp [Go.Proofs.Ytdkkanpbcifkfaa.B.bne_not_beq]; done)), (by first | rfl | (simp; done) | (simp [*]; done) | (simp [Go.Proofs.Ytdkkanpbcifkfaa.B.beq_not_bne]; done) | (simp [Go.Proofs.Ytdkkanpbcifkfaa.B.bne_not_beq]; done)), (by first | rfl | (simp; done) | (simp [*]; done) | (simp [Go.Proofs.Ytdkkanpbcifkfaa.B.beq_not_bne]; done) | (simp [Go.Proofs.Ytdkkanpbcifkfaa.B.bne_not_beq]; done)), H', ⟨by have := HK1.out; omega⟩, by repeat (first | exact Drawn0.refl _ | apply Drawn0.step)⟩
                · rw [if_neg c14] at H
                  have c14b0 : decide (x8_1 < 0) = false := decide_eq_false c14
                  clear c14
                  have H' := Aside0.mk H
                  clear H
                  go_wp2_with (first | ((with_reducible refine gate_callee (f := 60) rfl ?_); refine goesL_ (some 20) rfl rfl Try.func60 (by kernel_rfl) rfl #[.string a0, .int .i64 x1_1, .int .i64 1] rfl (by (try simp only [List.map_toArray, List.map_cons, List.map_nil]); first | done | rfl | (simp only [List.length_drop, List.length_take]; rfl) | (rw [Go.Proofs.Ytdkkanpbcifkfaa.B.w64] <;> first | rfl | omega | (simp only [decide_eq_false_iff_not, decide_eq_true_eq, Int.not_lt, Nat.not_lt, gt_iff_lt] at * <;> omega))) ?_; (with_reducible refine (wellspringref01_Get.calls k1 a0 x1_1 1 t150 true _ A3.out).mono ?_); rintro e w' ⟨rfl, ⟨nd, rfl⟩⟩; refine ⟨_, rfl, ?_⟩) | ((with_reducible refine gate_callee (f := 60) rfl ?_); refine goesL_ (some 43) rfl rfl Try.func60 (by kernel_rfl) rfl #[.string a0, .int .i64 x1_1, .int .i64 2] rfl (by (try simp only [List.map_toArray, List.map_cons, List.map_nil]); first | done | rfl | (simp only [List.length_drop, List.length_take]; rfl) | (rw [Go.Proofs.Ytdkkanpbcifkfaa.B.w64] <;> first | rfl | omega | (simp only [decide_eq_false_iff_not, decide_eq_true_eq, Int.not_lt, Nat.not_lt, gt_iff_lt] at * <;> omega))) ?_; (with_reducible refine (wellspringref01_Get.calls k1 a0 x1_1 2 t155 true _ A10.out).mono ?_); rintro e w' ⟨rfl, ⟨nd, rfl⟩⟩; refine ⟨_, rfl, ?_⟩))
                  go_roundg k1
                  case measure => have := HK1.out; omega
                  case rel => exact ⟨(wrap64 (t155 - 49152)), (x7_1), (x8_1), (wrap64 (t155 - 49152)), (by first | rfl | (simp; done) | (simp [*]; done) | (simp [Go.Proofs.Ytdkkanpbcifkfaa.B.beq_not_bne]; done) | (simp [Go.Proofs.Ytdkkanpbcifkfaa.B.bne_not_beq]; done)), (by first | rfl | (simp; done) | (simp [*]; done) | (simp [Go.Proofs.Ytdkkanpbcifkfaa.B.beq_not_bne]; done) | (simp [Go.Proofs.Ytdkkanpbcifkfaa.B.bne_not_beq]; done)), (by first | rfl | (simp; done) | (simp [*]; done) | (simp [Go.Proofs.Ytdkkanpbcifkfaa.B.beq_not_bne]; done) | (simp [Go.Proofs.Ytdkkanpbcifkfaa.B.bne_not_beq]; done)), (by first | rfl | (simp; done) | (simp [*]; done) | (simp [Go.Proofs.Ytdkkanpbcifkfaa.B.beq_not_bne]; done) | (simp [Go.Proofs.Ytdkkanpbcifkfaa.B.bne_not_beq]; done)), H', ⟨by have := HK1.out; omega⟩, by repeat (first | exact Drawn0.refl _ | apply Drawn0.step)⟩
            · replace c11 := Bool.eq_false_iff.mpr c11
              subst c11
              have H1 : ((wellspringref04_bad.f 2).bind fun bt157 => (some (bt157.1, bt157.2.1, bt157.2.2))) = some (r1, r2, r3) := by rw [if_neg (show ¬ (false = true) by decide)] at H; exact H
              clear H
              have H := H1
              clear H1
              replace H := Option.bind_eq_some_iff.mp H
              obtain ⟨⟨t157, t158, t159⟩, A150, H⟩ := H
              replace H : (some (t157, t158, t159)) = some (r1, r2, r3) := H
              have A15 := Aside0.mk A150
              clear A150
              simp only [Option.some.injEq, Prod.mk.injEq] at H
              obtain ⟨rfl, rfl, rfl⟩ := H
              go_wp2_with (first | ((with_reducible refine gate_callee (f := 60) rfl ?_); refine goesL_ (some 20) rfl rfl Try.func60 (by kernel_rfl) rfl #[.string a0, .int .i64 x1_1, .int .i64 1] rfl (by (try simp only [List.map_toArray, List.map_cons, List.map_nil]); first | done | rfl | (simp only [List.length_drop, List.length_take]; rfl) | (rw [Go.Proofs.Ytdkkanpbcifkfaa.B.w64] <;> first | rfl | omega | (simp only [decide_eq_false_iff_not, decide_eq_true_eq, Int.not_lt, Nat.not_lt, gt_iff_lt] at * <;> omega))) ?_; (with_reducible refine (wellspringref01_Get.calls k1 a0 x1_1 1 t150 true _ A3.out).mono ?_); rintro e w' ⟨rfl, ⟨nd, rfl⟩⟩; refine ⟨_, rfl, ?_⟩) | ((with_reducible refine gate_callee (f := 60) rfl ?_); refine goesL_ (some 43) rfl rfl Try.func60 (by kernel_rfl) rfl #[.string a0, .int .i64 x1_1, .int .i64 2] rfl (by (try simp only [List.map_toArray, List.map_cons, List.map_nil]); first | done | rfl | (simp only [List.length_drop, List.length_take]; rfl) | (rw [Go.Proofs.Ytdkkanpbcifkfaa.B.w64] <;> first | rfl | omega | (simp only [decide_eq_false_iff_not, decide_eq_true_eq, Int.not_lt, Nat.not_lt, gt_iff_lt] at * <;> omega))) ?_; (with_reducible refine (wellspringref01_Get.calls k1 a0 x1_1 2 t155 false _ A10.out).mono ?_); rintro e w' ⟨rfl, ⟨nd, rfl⟩⟩; refine ⟨_, rfl, ?_⟩) | ((with_reducible refine gate_callee (f := 61) rfl ?_); refine goesL_ (some 48) rfl rfl Try.func61 (by kernel_rfl) rfl #[.int .i64 2] rfl (by (try simp only [List.map_toArray, List.map_cons, List.map_nil]); first | done | rfl | (simp only [List.length_drop, List.length_take]; rfl) | (rw [Go.Proofs.Ytdkkanpbcifkfaa.B.w64] <;> first | rfl | omega | (simp only [decide_eq_false_iff_not, decide_eq_true_eq, Int.not_lt, Nat.not_lt, gt_iff_lt] at * <;> omega))) ?_; (with_reducible refine (wellspringref04_bad.calls 2 t157 t158 t159 _ A15.out).mono ?_); rintro e w' ⟨rfl, ⟨nd, rfl⟩⟩; refine ⟨_, rfl, ?_⟩))
              go_ret3
              exact ⟨by first | rfl | (simp; done) | (simp [*]; done), by repeat (first | exact Drawn0.refl _ | apply Drawn0.step)⟩
          · rw [if_neg c9] at H
            have c9b0 : decide (192 ≤ t150) = false := decide_eq_false c9
            clear c9
            by_cases c16 : t150 > 63
            · rw [if_pos c16] at H
              have c16b0 : decide (63 < t150) = true := decide_eq_true c16
              clear c16
              replace H := Option.bind_eq_some_iff.mp H
              obtain ⟨⟨t163, t164, t165⟩, A170, H⟩ := H
              replace H : (some (t163, t164, t165)) = some (r1, r2, r3) := H
              have A17 := Aside0.mk A170
              clear A170
              simp only [Option.some.injEq, Prod.mk.injEq] at H
              obtain ⟨rfl, rfl, rfl⟩ := H
              go_wp2_with (first | ((with_reducible refine gate_callee (f := 60) rfl ?_); refine goesL_ (some 20) rfl rfl Try.func60 (by kernel_rfl) rfl #[.string a0, .int .i64 x1_1, .int .i64 1] rfl (by (try simp only [List.map_toArray, List.map_cons, List.map_nil]); first | done | rfl | (simp only [List.length_drop, List.length_take]; rfl) | (rw [Go.Proofs.Ytdkkanpbcifkfaa.B.w64] <;> first | rfl | omega | (simp only [decide_eq_false_iff_not, decide_eq_true_eq, Int.not_lt, Nat.not_lt, gt_iff_lt] at * <;> omega))) ?_; (with_reducible refine (wellspringref01_Get.calls k1 a0 x1_1 1 t150 true _ A3.out).mono ?_); rintro e w' ⟨rfl, ⟨nd, rfl⟩⟩; refine ⟨_, rfl, ?_⟩) | ((with_reducible refine gate_callee (f := 61) rfl ?_); refine goesL_ (some 69) rfl rfl Try.func61 (by kernel_rfl) rfl #[.int .i64 3] rfl (by (try simp only [List.map_toArray, List.map_cons, List.map_nil]); first | done | rfl | (simp only [List.length_drop, List.length_take]; rfl) | (rw [Go.Proofs.Ytdkkanpbcifkfaa.B.w64] <;> first | rfl | omega | (simp only [decide_eq_false_iff_not, decide_eq_true_eq, Int.not_lt, Nat.not_lt, gt_iff_lt] at * <;> omega))) ?_; (with_reducible refine (wellspringref04_bad.calls 3 t163 t164 t165 _ A17.out).mono ?_); rintro e w' ⟨rfl, ⟨nd, rfl⟩⟩; refine ⟨_, rfl, ?_⟩))
              go_ret3
              exact ⟨by first | rfl | (simp; done) | (simp [*]; done), by repeat (first | exact Drawn0.refl _ | apply Drawn0.step)⟩
            · rw [if_neg c16] at H
              have c16b0 : decide (63 < t150) = false := decide_eq_false c16
              clear c16
              replace H := Option.bind_eq_some_iff.mp H
              obtain ⟨⟨t166, t167⟩, A180, H⟩ := H
              replace H : (if t167 = true then (if x7_1.size + t166.size ≤ 9223372036854775807 then (if (wrap64 (((x7_1 ++ t166).size : Int) + 1)) > 255 then ((wellspringref04_bad.f 3).bind fun bt168 => (some (bt168.1, bt168.2.1, bt168.2.2))) else (wellspringref04_Read.l0 k1 a0 (wrap64 ((wrap64 (x1_1 + t150)) + 1)) (x7_1 ++ t166) x8_1 x9_1)) else (none)) else ((wellspringref04_bad.f 2).bind fun bt171 => (some (bt171.1, bt171.2.1, bt171.2.2)))) = some (r1, r2, r3) := H
              have A18 := Aside0.mk A180
              clear A180
              by_cases c19 : t167 = true
              · subst c19
                have H1 : (if x7_1.size + t166.size ≤ 9223372036854775807 then (if (wrap64 (((x7_1 ++ t166).size : Int) + 1)) > 255 then ((wellspringref04_bad.f 3).bind fun bt168 => (some (bt168.1, bt168.2.1, bt168.2.2))) else (wellspringref04_Read.l0 k1 a0 (wrap64 ((wrap64 (x1_1 + t150)) + 1)) (x7_1 ++ t166) x8_1 x9_1)) else (none)) = some (r1, r2, r3) := by rw [if_pos rfl] at H; exact H
                clear H
                have H := H1
                clear H1
                by_cases c20 : x7_1.size + t166.size ≤ 9223372036854775807
                · rw [if_pos c20] at H
                  have c20b0 := eq_true c20
                  have c20b1 : decide (x7_1.size + t166.size ≤ 9223372036854775807) = true := decide_eq_true c20
                  try have c20b2 : (9223372036854775807 < x7_1.size + t166.size) = False := eq_false (Nat.not_lt.2 c20)
                  by_cases c21 : (wrap64 (((x7_1 ++ t166).size : Int) + 1)) > 255
                  · rw [if_pos c21] at H
                    have c21b0 : decide (255 < (wrap64 (((x7_1 ++ t166).size : Int) + 1))) = true := decide_eq_true c21
                    (try (have c21b1 : decide (255 < (wrap64 (((x7_1.size : Int) + (t166.size : Int)) + 1))) = true := by have h_ : decide (255 < (wrap64 (((x7_1 ++ t166).size : Int) + 1))) = true := decide_eq_true c21; rw [show ((x7_1 ++ t166).size : Int) = ((x7_1.size : Int) + (t166.size : Int)) from by (simp only [ByteArray.size_append, Int.natCast_add]; first | done | rfl)] at h_; (first | exact h_ | (simp only [Int.add_sub_cancel] at h_; exact h_))))
                    (try (have c21b2 : decide (255 < ((((x7_1 ++ t166).size : Int) + 1))) = true := by have h_ : decide (255 < (wrap64 (((x7_1 ++ t166).size : Int) + 1))) = true := decide_eq_true c21; rw [Go.Proofs.Ytdkkanpbcifkfaa.B.w64 (by omega) (by omega)] at h_; exact h_))
                    (try (have c21b3 : decide (255 < ((((x7_1.size : Int) + (t166.size : Int)) + 1))) = true := by have h_ : decide (255 < (wrap64 (((x7_1.size : Int) + (t166.size : Int)) + 1))) = true := by have h_ : decide (255 < (wrap64 (((x7_1 ++ t166).size : Int) + 1))) = true := decide_eq_true c21; rw [show ((x7_1 ++ t166).size : Int) = ((x7_1.size : Int) + (t166.size : Int)) from by (simp only [ByteArray.size_append, Int.natCast_add]; first | done | rfl)] at h_; (first | exact h_ | (simp only [Int.add_sub_cancel] at h_; exact h_)); rw [Go.Proofs.Ytdkkanpbcifkfaa.B.w64 (by omega) (by omega)] at h_; exact h_))
                    clear c21
                    replace H := Option.bind_eq_some_iff.mp H
                    obtain ⟨⟨t168, t169, t170⟩, A220, H⟩ := H
                    replace H : (some (t168, t169, t170)) = some (r1, r2, r3) := H
                    have A22 := Aside0.mk A220
                    clear A220
                    simp only [Option.some.injEq, Prod.mk.injEq] at H
                    obtain ⟨rfl, rfl, rfl⟩ := H
                    go_wp2_with (first | ((with_reducible refine gate_callee (f := 60) rfl ?_); refine goesL_ (some 20) rfl rfl Try.func60 (by kernel_rfl) rfl #[.string a0, .int .i64 x1_1, .int .i64 1] rfl (by (try simp only [List.map_toArray, List.map_cons, List.map_nil]); first | done | rfl | (simp only [List.length_drop, List.length_take]; rfl) | (rw [Go.Proofs.Ytdkkanpbcifkfaa.B.w64] <;> first | rfl | omega | (simp only [decide_eq_false_iff_not, decide_eq_true_eq, Int.not_lt, Nat.not_lt, gt_iff_lt] at * <;> omega))) ?_; (with_reducible refine (wellspringref01_Get.calls k1 a0 x1_1 1 t150 true _ A3.out).mono ?_); rintro e w' ⟨rfl, ⟨nd, rfl⟩⟩; refine ⟨_, rfl, ?_⟩) | ((with_reducible refine gate_callee (f := 37) rfl ?_); refine goesL_ (some 78) rfl rfl Try.func37 (by kernel_rfl) rfl #[.string a0, .int .i64 x1_1, .int .i64 (wrap64 (t150 + 1))] rfl (by (try simp only [List.map_toArray, List.map_cons, List.map_nil]); first | done | rfl | (simp only [List.length_drop, List.length_take]; rfl) | (rw [Go.Proofs.Ytdkkanpbcifkfaa.B.w64] <;> first | rfl | omega | (simp only [decide_eq_false_iff_not, decide_eq_true_eq, Int.not_lt, Nat.not_lt, gt_iff_lt] at * <;> omega))) ?_; (with_reducible refine (wellspringref01_Take.calls a0 x1_1 (wrap64 (t150 + 1)) t166 true _ A18.out).mono ?_); rintro e w' ⟨rfl, ⟨nd, rfl⟩⟩; refine ⟨_, rfl, ?_⟩) | ((with_reducible refine gate_callee (f := 61) rfl ?_); refine goesL_ (some 94) rfl rfl Try.func61 (by kernel_rfl) rfl #[.int .i64 3] rfl (by (try simp only [List.map_toArray, List.map_cons, List.map_nil]); first | done | rfl | (simp only [List.length_drop, List.length_take]; rfl) | (rw [Go.Proofs.Ytdkkanpbcifkfaa.B.w64] <;> first | rfl | omega | (simp only [decide_eq_false_iff_not, decide_eq_true_eq, Int.not_lt, Nat.not_lt, gt_iff_lt] at * <;> omega))) ?_; (with_reducible refine (wellspringref04_bad.calls 3 t168 t169 t170 _ A22.out).mono ?_); rintro e w' ⟨rfl, ⟨nd, rfl⟩⟩; refine ⟨_, rfl, ?_⟩))
                    go_ret3
                    exact ⟨by first | rfl | (simp; done) | (simp [*]; done), by repeat (first | exact Drawn0.refl _ | apply Drawn0.step)⟩
                  · rw [if_neg c21] at H
                    have c21b0 : decide (255 < (wrap64 (((x7_1 ++ t166).size : Int) + 1))) = false := decide_eq_false c21
                    (try (have c21b1 : decide (255 < (wrap64 (((x7_1.size : Int) + (t166.size : Int)) + 1))) = false := by have h_ : decide (255 < (wrap64 (((x7_1 ++ t166).size : Int) + 1))) = false := decide_eq_false c21; rw [show ((x7_1 ++ t166).size : Int) = ((x7_1.size : Int) + (t166.size : Int)) from by (simp only [ByteArray.size_append, Int.natCast_add]; first | done | rfl)] at h_; (first | exact h_ | (simp only [Int.add_sub_cancel] at h_; exact h_))))
                    (try (have c21b2 : decide (255 < ((((x7_1 ++ t166).size : Int) + 1))) = false := by have h_ : decide (255 < (wrap64 (((x7_1 ++ t166).size : Int) + 1))) = false := decide_eq_false c21; rw [Go.Proofs.Ytdkkanpbcifkfaa.B.w64 (by omega) (by omega)] at h_; exact h_))
                    (try (have c21b3 : decide (255 < ((((x7_1.size : Int) + (t166.size : Int)) + 1))) = false := by have h_ : decide (255 < (wrap64 (((x7_1.size : Int) + (t166.size : Int)) + 1))) = false := by have h_ : decide (255 < (wrap64 (((x7_1 ++ t166).size : Int) + 1))) = false := decide_eq_false c21; rw [show ((x7_1 ++ t166).size : Int) = ((x7_1.size : Int) + (t166.size : Int)) from by (simp only [ByteArray.size_append, Int.natCast_add]; first | done | rfl)] at h_; (first | exact h_ | (simp only [Int.add_sub_cancel] at h_; exact h_)); rw [Go.Proofs.Ytdkkanpbcifkfaa.B.w64 (by omega) (by omega)] at h_; exact h_))
                    clear c21
                    have H' := Aside0.mk H
                    clear H
                    go_wp2_with (first | ((with_reducible refine gate_callee (f := 60) rfl ?_); refine goesL_ (some 20) rfl rfl Try.func60 (by kernel_rfl) rfl #[.string a0, .int .i64 x1_1, .int .i64 1] rfl (by (try simp only [List.map_toArray, List.map_cons, List.map_nil]); first | done | rfl | (simp only [List.length_drop, List.length_take]; rfl) | (rw [Go.Proofs.Ytdkkanpbcifkfaa.B.w64] <;> first | rfl | omega | (simp only [decide_eq_false_iff_not, decide_eq_true_eq, Int.not_lt, Nat.not_lt, gt_iff_lt] at * <;> omega))) ?_; (with_reducible refine (wellspringref01_Get.calls k1 a0 x1_1 1 t150 true _ A3.out).mono ?_); rintro e w' ⟨rfl, ⟨nd, rfl⟩⟩; refine ⟨_, rfl, ?_⟩) | ((with_reducible refine gate_callee (f := 37) rfl ?_); refine goesL_ (some 78) rfl rfl Try.func37 (by kernel_rfl) rfl #[.string a0, .int .i64 x1_1, .int .i64 (wrap64 (t150 + 1))] rfl (by (try simp only [List.map_toArray, List.map_cons, List.map_nil]); first | done | rfl | (simp only [List.length_drop, List.length_take]; rfl) | (rw [Go.Proofs.Ytdkkanpbcifkfaa.B.w64] <;> first | rfl | omega | (simp only [decide_eq_false_iff_not, decide_eq_true_eq, Int.not_lt, Nat.not_lt, gt_iff_lt] at * <;> omega))) ?_; (with_reducible refine (wellspringref01_Take.calls a0 x1_1 (wrap64 (t150 + 1)) t166 true _ A18.out).mono ?_); rintro e w' ⟨rfl, ⟨nd, rfl⟩⟩; refine ⟨_, rfl, ?_⟩))
                    go_roundg k1
                    case measure => have := HK1.out; omega
                    case rel => exact ⟨(wrap64 ((wrap64 (x1_1 + t150)) + 1)), (x7_1 ++ t166), (x8_1), (x9_1), (by first | rfl | (simp; done) | (simp [*]; done) | (simp [Go.Proofs.Ytdkkanpbcifkfaa.B.beq_not_bne]; done) | (simp [Go.Proofs.Ytdkkanpbcifkfaa.B.bne_not_beq]; done)), (by first | rfl | (simp; done) | (simp [*]; done) | (simp [Go.Proofs.Ytdkkanpbcifkfaa.B.beq_not_bne]; done) | (simp [Go.Proofs.Ytdkkanpbcifkfaa.B.bne_not_beq]; done)), (by first | rfl | (simp; done) | (simp [*]; done) | (simp [Go.Proofs.Ytdkkanpbcifkfaa.B.beq_not_bne]; done) | (simp [Go.Proofs.Ytdkkanpbcifkfaa.B.bne_not_beq]; done)), (by first | rfl | (simp; done) | (simp [*]; done) | (simp [Go.Proofs.Ytdkkanpbcifkfaa.B.beq_not_bne]; done) | (simp [Go.Proofs.Ytdkkanpbcifkfaa.B.bne_not_beq]; done)), H', ⟨by have := HK1.out; omega⟩, by repeat (first | exact Drawn0.refl _ | apply Drawn0.step)⟩
                · rw [if_neg c20] at H
                  exact absurd H (by simp)
              · replace c19 := Bool.eq_false_iff.mpr c19
                subst c19
                have H1 : ((wellspringref04_bad.f 2).bind fun bt171 => (some (bt171.1, bt171.2.1, bt171.2.2))) = some (r1, r2, r3) := by rw [if_neg (show ¬ (false = true) by decide)] at H; exact H
                clear H
                have H := H1
                clear H1
                replace H := Option.bind_eq_some_iff.mp H
                obtain ⟨⟨t171, t172, t173⟩, A230, H⟩ := H
                replace H : (some (t171, t172, t173)) = some (r1, r2, r3) := H
                have A23 := Aside0.mk A230
                clear A230
                simp only [Option.some.injEq, Prod.mk.injEq] at H
                obtain ⟨rfl, rfl, rfl⟩ := H
                go_wp2_with (first | ((with_reducible refine gate_callee (f := 60) rfl ?_); refine goesL_ (some 20) rfl rfl Try.func60 (by kernel_rfl) rfl #[.string a0, .int .i64 x1_1, .int .i64 1] rfl (by (try simp only [List.map_toArray, List.map_cons, List.map_nil]); first | done | rfl | (simp only [List.length_drop, List.length_take]; rfl) | (rw [Go.Proofs.Ytdkkanpbcifkfaa.B.w64] <;> first | rfl | omega | (simp only [decide_eq_false_iff_not, decide_eq_true_eq, Int.not_lt, Nat.not_lt, gt_iff_lt] at * <;> omega))) ?_; (with_reducible refine (wellspringref01_Get.calls k1 a0 x1_1 1 t150 true _ A3.out).mono ?_); rintro e w' ⟨rfl, ⟨nd, rfl⟩⟩; refine ⟨_, rfl, ?_⟩) | ((with_reducible refine gate_callee (f := 37) rfl ?_); refine goesL_ (some 78) rfl rfl Try.func37 (by kernel_rfl) rfl #[.string a0, .int .i64 x1_1, .int .i64 (wrap64 (t150 + 1))] rfl (by (try simp only [List.map_toArray, List.map_cons, List.map_nil]); first | done | rfl | (simp only [List.length_drop, List.length_take]; rfl) | (rw [Go.Proofs.Ytdkkanpbcifkfaa.B.w64] <;> first | rfl | omega | (simp only [decide_eq_false_iff_not, decide_eq_true_eq, Int.not_lt, Nat.not_lt, gt_iff_lt] at * <;> omega))) ?_; (with_reducible refine (wellspringref01_Take.calls a0 x1_1 (wrap64 (t150 + 1)) t166 false _ A18.out).mono ?_); rintro e w' ⟨rfl, ⟨nd, rfl⟩⟩; refine ⟨_, rfl, ?_⟩) | ((with_reducible refine gate_callee (f := 61) rfl ?_); refine goesL_ (some 83) rfl rfl Try.func61 (by kernel_rfl) rfl #[.int .i64 2] rfl (by (try simp only [List.map_toArray, List.map_cons, List.map_nil]); first | done | rfl | (simp only [List.length_drop, List.length_take]; rfl) | (rw [Go.Proofs.Ytdkkanpbcifkfaa.B.w64] <;> first | rfl | omega | (simp only [decide_eq_false_iff_not, decide_eq_true_eq, Int.not_lt, Nat.not_lt, gt_iff_lt] at * <;> omega))) ?_; (with_reducible refine (wellspringref04_bad.calls 2 t171 t172 t173 _ A23.out).mono ?_); rintro e w' ⟨rfl, ⟨nd, rfl⟩⟩; refine ⟨_, rfl, ?_⟩))
                go_ret3
                exact ⟨by first | rfl | (simp; done) | (simp [*]; done), by repeat (first | exact Drawn0.refl _ | apply Drawn0.step)⟩
      · replace c4 := Bool.eq_false_iff.mpr c4
        subst c4
        have H1 : ((wellspringref04_bad.f 2).bind fun bt152 => (some (bt152.1, bt152.2.1, bt152.2.2))) = some (r1, r2, r3) := by rw [if_neg (show ¬ (false = true) by decide)] at H; exact H
        clear H
        have H := H1
        clear H1
        replace H := Option.bind_eq_some_iff.mp H
        obtain ⟨⟨t152, t153, t154⟩, A240, H⟩ := H
        replace H : (some (t152, t153, t154)) = some (r1, r2, r3) := H
        have A24 := Aside0.mk A240
        clear A240
        simp only [Option.some.injEq, Prod.mk.injEq] at H
        obtain ⟨rfl, rfl, rfl⟩ := H
        go_wp2_with (first | ((with_reducible refine gate_callee (f := 60) rfl ?_); refine goesL_ (some 20) rfl rfl Try.func60 (by kernel_rfl) rfl #[.string a0, .int .i64 x1_1, .int .i64 1] rfl (by (try simp only [List.map_toArray, List.map_cons, List.map_nil]); first | done | rfl | (simp only [List.length_drop, List.length_take]; rfl) | (rw [Go.Proofs.Ytdkkanpbcifkfaa.B.w64] <;> first | rfl | omega | (simp only [decide_eq_false_iff_not, decide_eq_true_eq, Int.not_lt, Nat.not_lt, gt_iff_lt] at * <;> omega))) ?_; (with_reducible refine (wellspringref01_Get.calls k1 a0 x1_1 1 t150 false _ A3.out).mono ?_); rintro e w' ⟨rfl, ⟨nd, rfl⟩⟩; refine ⟨_, rfl, ?_⟩) | ((with_reducible refine gate_callee (f := 61) rfl ?_); refine goesL_ (some 25) rfl rfl Try.func61 (by kernel_rfl) rfl #[.int .i64 2] rfl (by (try simp only [List.map_toArray, List.map_cons, List.map_nil]); first | done | rfl | (simp only [List.length_drop, List.length_take]; rfl) | (rw [Go.Proofs.Ytdkkanpbcifkfaa.B.w64] <;> first | rfl | omega | (simp only [decide_eq_false_iff_not, decide_eq_true_eq, Int.not_lt, Nat.not_lt, gt_iff_lt] at * <;> omega))) ?_; (with_reducible refine (wellspringref04_bad.calls 2 t152 t153 t154 _ A24.out).mono ?_); rintro e w' ⟨rfl, ⟨nd, rfl⟩⟩; refine ⟨_, rfl, ?_⟩))
        go_ret3
        exact ⟨by first | rfl | (simp; done) | (simp [*]; done), by repeat (first | exact Drawn0.refl _ | apply Drawn0.step)⟩

/-! ### wellspringref04_Write: function 24 -/
mutual
def wellspringref04_Write.j0 : Nat → ByteArray → Int → ByteArray → Bool → Option (ByteArray)
  | 0, _, _, _, _ => none
  | k + 1, x0, x1, x2, x29 => if x29 = true then (some (⟨#[]⟩ : ByteArray)) else (wellspringref04_Write.l0 k x0 x1 x2 x2)
def wellspringref04_Write.l0 : Nat → ByteArray → Int → ByteArray → ByteArray → Option (ByteArray)
  | 0, _, _, _, _ => none
  | k + 1, x0, x1, x2, x7 => if (x7.size : Int) > 1 then (wellspringref04_Write.l1 k x0 x1 x2 x7 x0) else (some x2)
def wellspringref04_Write.l1 : Nat → ByteArray → Int → ByteArray → ByteArray → ByteArray → Option (ByteArray)
  | 0, _, _, _, _, _ => none
  | k + 1, x0, x1, x2, x7, x8 => if (x8.size : Int) > 1 then ((wellspringref02_Same.f k x8 x7).bind fun t210 => (if t210 = true then (if 0 ≤ (wrap64 ((x2.size : Int) - (x7.size : Int))) then (if (wrap64 ((x2.size : Int) - (x7.size : Int))) ≤ (x2.size : Int) then ((wellspringref01_Put.f k (wrap64 ((wrap64 ((wrap64 (49152 + x1)) + (x0.size : Int))) - (x8.size : Int))) 2).bind fun t211 => (if (x2.extract 0 ((wrap64 ((x2.size : Int) - (x7.size : Int))) : Int).toNat).size + t211.size ≤ 9223372036854775807 then (some ((x2.extract 0 ((wrap64 ((x2.size : Int) - (x7.size : Int))) : Int).toNat) ++ t211)) else (none))) else (none)) else (none)) else ((wellspringref02_Up.f k x8).bind fun bt212 => (wellspringref04_Write.l1 k x0 x1 x2 x7 bt212.1)))) else ((wellspringref02_Up.f k x7).bind fun bt208 => (wellspringref04_Write.l0 k x0 x1 x2 bt208.1))
end
def wellspringref04_Write.f (k : Nat) (a0 : ByteArray) (a1 : Int) (a2 : ByteArray) : Option (ByteArray) := (wellspringref02_Check.f k a0).bind fun t206 => (if t206 = true then ((wellspringref02_Check.f k a2).bind fun t207 => (if t207 = true then (if a1 < 0 then (wellspringref04_Write.j0 k a0 a1 a2 true) else (wellspringref04_Write.j0 k a0 a1 a2 (decide (a1 > 16000)))) else (wellspringref04_Write.j0 k a0 a1 a2 true))) else (wellspringref04_Write.j0 k a0 a1 a2 true))
theorem wellspringref04_Write.mono_l : ∀ k, (∀ y0 y1 y2 y3, LeO (wellspringref04_Write.j0 k y0 y1 y2 y3) (wellspringref04_Write.j0 (k + 1) y0 y1 y2 y3)) ∧ (∀ y0 y1 y2 y3, LeO (wellspringref04_Write.l0 k y0 y1 y2 y3) (wellspringref04_Write.l0 (k + 1) y0 y1 y2 y3)) ∧ (∀ y0 y1 y2 y3 y4, LeO (wellspringref04_Write.l1 k y0 y1 y2 y3 y4) (wellspringref04_Write.l1 (k + 1) y0 y1 y2 y3 y4))
  | 0 => ⟨fun _ _ _ _ r h => by simp [wellspringref04_Write.j0] at h, fun _ _ _ _ r h => by simp [wellspringref04_Write.l0] at h, fun _ _ _ _ _ r h => by simp [wellspringref04_Write.l1] at h⟩
  | k + 1 => by
    obtain ⟨ih0, ih1, ih2⟩ := wellspringref04_Write.mono_l k
    refine ⟨?_, ?_, ?_⟩
    · intro y0 y1 y2 y3
      unfold wellspringref04_Write.j0
      repeat' first
      | (with_reducible exact ih0 _ _ _ _)
      | (with_reducible exact ih1 _ _ _ _)
      | (with_reducible exact ih2 _ _ _ _ _)
      | (with_reducible exact wellspringref01_Put.mono _ _ _)
      | (with_reducible exact wellspringref02_Check.mono _ _)
      | (with_reducible exact wellspringref02_Same.mono _ _ _)
      | (with_reducible exact wellspringref02_Up.mono _ _)
      | (with_reducible exact LeO.refl _)
      | (with_reducible exact LeO.none _)
      | (with_reducible refine LeO.ite ?_ ?_)
      | (with_reducible refine LeO.bind ?_ (fun _ => ?_))
      | exact ih0 _ _ _ _
      | exact ih1 _ _ _ _
      | exact ih2 _ _ _ _ _
      | exact wellspringref01_Put.mono _ _ _
      | exact wellspringref02_Check.mono _ _
      | exact wellspringref02_Same.mono _ _ _
      | exact wellspringref02_Up.mono _ _
      | exact LeO.none _
      | refine LeO.ite ?_ ?_
      | refine LeO.bind ?_ (fun _ => ?_)
    · intro y0 y1 y2 y3
      unfold wellspringref04_Write.l0
      repeat' first
      | (with_reducible exact ih0 _ _ _ _)
      | (with_reducible exact ih1 _ _ _ _)
      | (with_reducible exact ih2 _ _ _ _ _)
      | (with_reducible exact wellspringref01_Put.mono _ _ _)
      | (with_reducible exact wellspringref02_Check.mono _ _)
      | (with_reducible exact wellspringref02_Same.mono _ _ _)
      | (with_reducible exact wellspringref02_Up.mono _ _)
      | (with_reducible exact LeO.refl _)
      | (with_reducible exact LeO.none _)
      | (with_reducible refine LeO.ite ?_ ?_)
      | (with_reducible refine LeO.bind ?_ (fun _ => ?_))
      | exact ih0 _ _ _ _
      | exact ih1 _ _ _ _
      | exact ih2 _ _ _ _ _
      | exact wellspringref01_Put.mono _ _ _
      | exact wellspringref02_Check.mono _ _
      | exact wellspringref02_Same.mono _ _ _
      | exact wellspringref02_Up.mono _ _
      | exact LeO.none _
      | refine LeO.ite ?_ ?_
      | refine LeO.bind ?_ (fun _ => ?_)
    · intro y0 y1 y2 y3 y4
      unfold wellspringref04_Write.l1
      repeat' first
      | (with_reducible exact ih0 _ _ _ _)
      | (with_reducible exact ih1 _ _ _ _)
      | (with_reducible exact ih2 _ _ _ _ _)
      | (with_reducible exact wellspringref01_Put.mono _ _ _)
      | (with_reducible exact wellspringref02_Check.mono _ _)
      | (with_reducible exact wellspringref02_Same.mono _ _ _)
      | (with_reducible exact wellspringref02_Up.mono _ _)
      | (with_reducible exact LeO.refl _)
      | (with_reducible exact LeO.none _)
      | (with_reducible refine LeO.ite ?_ ?_)
      | (with_reducible refine LeO.bind ?_ (fun _ => ?_))
      | exact ih0 _ _ _ _
      | exact ih1 _ _ _ _
      | exact ih2 _ _ _ _ _
      | exact wellspringref01_Put.mono _ _ _
      | exact wellspringref02_Check.mono _ _
      | exact wellspringref02_Same.mono _ _ _
      | exact wellspringref02_Up.mono _ _
      | exact LeO.none _
      | refine LeO.ite ?_ ?_
      | refine LeO.bind ?_ (fun _ => ?_)
theorem wellspringref04_Write.mono : ∀ a0 a1 a2 k, LeO (wellspringref04_Write.f k a0 a1 a2) (wellspringref04_Write.f (k + 1) a0 a1 a2) := by
  intro a0 a1 a2 k
  obtain ⟨ih0, ih1, ih2⟩ := wellspringref04_Write.mono_l k
  unfold wellspringref04_Write.f
  repeat' first
      | (with_reducible exact ih0 _ _ _ _)
      | (with_reducible exact ih1 _ _ _ _)
      | (with_reducible exact ih2 _ _ _ _ _)
      | (with_reducible exact wellspringref01_Put.mono _ _ _)
      | (with_reducible exact wellspringref02_Check.mono _ _)
      | (with_reducible exact wellspringref02_Same.mono _ _ _)
      | (with_reducible exact wellspringref02_Up.mono _ _)
      | (with_reducible exact LeO.refl _)
      | (with_reducible exact LeO.none _)
      | (with_reducible refine LeO.ite ?_ ?_)
      | (with_reducible refine LeO.bind ?_ (fun _ => ?_))
      | exact ih0 _ _ _ _
      | exact ih1 _ _ _ _
      | exact ih2 _ _ _ _ _
      | exact wellspringref01_Put.mono _ _ _
      | exact wellspringref02_Check.mono _ _
      | exact wellspringref02_Same.mono _ _ _
      | exact wellspringref02_Up.mono _ _
      | exact LeO.none _
      | refine LeO.ite ?_ ?_
      | refine LeO.bind ?_ (fun _ => ?_)
def wellspringref04_Write.T9 : Bool × List (List Nat × List Nat) := (true, [([], []), ([], []), ([1], [1]), ([], []), ([3], [3]), ([2, 4], [2, 4]), ([0, 5], [0, 5]), ([], []), ([7], [7]), ([6, 8], [6, 8]), ([9, 8, 0, 1, 2, 3, 4, 5, 6, 7, 8, 9], [9])])
def wellspringref04_Write.B9 : List Nat := [0, 0, 2, 0, 8, 30, 63, 0, 128, 511, 1023]
theorem wellspringref04_Write.tab9 : rtab .any (opsOf Try.f24 9) = wellspringref04_Write.T9 := by kernel_rfl
theorem wellspringref04_Write.bits9 : waitsOk wellspringref04_Write.T9.2 wellspringref04_Write.B9 = true := by kernel_rfl
set_option maxHeartbeats 8000000 in
set_option maxRecDepth 100000 in
theorem wellspringref04_Write.calls (k : Nat) (a0 : ByteArray) (a1 : Int) (a2 : ByteArray) (r : ByteArray) (w : World) (h : wellspringref04_Write.f k a0 a1 a2 = some r) :
    Calls Try.prog 24 #[.string a0, .int .i64 a1, .string a2] w fun e w' => e = .returned (.string r) ∧ Below w.heap.size w w' := by
  have HB := Aside0.mk (Below.refl w.heap.size w)
  have H : ((wellspringref02_Check.f k a0).bind fun t206 => (if t206 = true then ((wellspringref02_Check.f k a2).bind fun t207 => (if t207 = true then (if a1 < 0 then (wellspringref04_Write.j0 k a0 a1 a2 true) else (wellspringref04_Write.j0 k a0 a1 a2 (decide (a1 > 16000)))) else (wellspringref04_Write.j0 k a0 a1 a2 true))) else (wellspringref04_Write.j0 k a0 a1 a2 true))) = some r := h
  clear h
  have HC4 := Aside0.mk H
  clear H
  go_enter Try.func24, Try.ntmps24
  go_upto_region 1 with (fail)
  go_cut [29] (fun v29 wc => ∃ (kq : Nat) (x29_3 : Bool), v29 = .bool x29_3 ∧ Aside0 (wellspringref04_Write.j0 kq a0 a1 a2 x29_3 = some r) ∧ Aside0 (kq ≤ k) ∧ Aside0 (Below w.heap.size w wc))
  case first =>
    have H := HC4.out
    clear HC4
    replace H := Option.bind_eq_some_iff.mp H
    obtain ⟨t206, A50, H⟩ := H
    replace H : (if t206 = true then ((wellspringref02_Check.f k a2).bind fun t207 => (if t207 = true then (if a1 < 0 then (wellspringref04_Write.j0 k a0 a1 a2 true) else (wellspringref04_Write.j0 k a0 a1 a2 (decide (a1 > 16000)))) else (wellspringref04_Write.j0 k a0 a1 a2 true))) else (wellspringref04_Write.j0 k a0 a1 a2 true)) = some r := H
    have A5 := Aside0.mk A50
    clear A50
    by_cases c6 : t206 = true
    · subst c6
      have H1 : ((wellspringref02_Check.f k a2).bind fun t207 => (if t207 = true then (if a1 < 0 then (wellspringref04_Write.j0 k a0 a1 a2 true) else (wellspringref04_Write.j0 k a0 a1 a2 (decide (a1 > 16000)))) else (wellspringref04_Write.j0 k a0 a1 a2 true))) = some r := by rw [if_pos rfl] at H; exact H
      clear H
      have H := H1
      clear H1
      replace H := Option.bind_eq_some_iff.mp H
      obtain ⟨t207, A70, H⟩ := H
      replace H : (if t207 = true then (if a1 < 0 then (wellspringref04_Write.j0 k a0 a1 a2 true) else (wellspringref04_Write.j0 k a0 a1 a2 (decide (a1 > 16000)))) else (wellspringref04_Write.j0 k a0 a1 a2 true)) = some r := H
      have A7 := Aside0.mk A70
      clear A70
      by_cases c8 : t207 = true
      · subst c8
        have H1 : (if a1 < 0 then (wellspringref04_Write.j0 k a0 a1 a2 true) else (wellspringref04_Write.j0 k a0 a1 a2 (decide (a1 > 16000)))) = some r := by rw [if_pos rfl] at H; exact H
        clear H
        have H := H1
        clear H1
        by_cases c9 : a1 < 0
        · rw [if_pos c9] at H
          have c9b0 : decide (a1 < 0) = true := decide_eq_true c9
          clear c9
          (first | rw [c9b0] | rw [c9b2] | (simp only [i64_w, i32_w]; rw [c9b0]) | skip)
          have H' := Aside0.mk H
          clear H
          go_wp2_with (first | ((with_reducible refine gate_callee (f := 25) rfl ?_); refine goesL_ (some 15) rfl rfl Try.func25 (by kernel_rfl) rfl #[.string a0] rfl (by (try simp only [List.map_toArray, List.map_cons, List.map_nil]); first | done | rfl | (simp only [List.length_drop, List.length_take]; rfl) | (rw [Go.Proofs.Ytdkkanpbcifkfaa.B.w64] <;> first | rfl | omega | (simp only [decide_eq_false_iff_not, decide_eq_true_eq, Int.not_lt, Nat.not_lt, gt_iff_lt] at * <;> omega))) ?_; (with_reducible refine (wellspringref02_Check.calls k a0 true _ A5.out).mono ?_); rintro e w10 ⟨rfl, hb⟩; refine ⟨_, rfl, ?_⟩; have n0_ := Aside0.mk (below_step (by repeat (first | (with_reducible first | exact HB.out | apply below_alloc | apply pw_below_drewN | apply below_drew1) | exact HB.out)) hb); clear HB; have HB := n0_; clear n0_; (try clear hb); (try clear hb2); (try clear hk); (try clear hi)) | (go_at_call 25; (with_reducible refine (wellspringref02_Check.calls k a2 true _ A7.out).mono ?_); rintro e w11 ⟨rfl, hb⟩; have n0_ := Aside0.mk (below_step (by repeat (first | (with_reducible first | exact HB.out | apply below_alloc | apply pw_below_drewN | apply below_drew1) | exact HB.out)) hb); clear HB; have HB := n0_; clear n0_; (try clear hb); (try clear hb2); (try clear hk); (try clear hi)))
          go_meet
          case rel => exact ⟨_, (true), (by first | rfl | (simp; done) | (simp [*]; done) | (simp [Go.Proofs.Ytdkkanpbcifkfaa.B.beq_not_bne]; done) | (simp [Go.Proofs.Ytdkkanpbcifkfaa.B.bne_not_beq]; done)), H', ⟨by first | omega | exact Nat.le_refl _⟩, ⟨by repeat (first | (with_reducible first | exact HB.out | apply below_alloc | apply pw_below_drewN | apply below_drew1) | exact HB.out)⟩⟩
        · rw [if_neg c9] at H
          have c9b0 : decide (a1 < 0) = false := decide_eq_false c9
          clear c9
          (first | rw [c9b0] | rw [c9b2] | (simp only [i64_w, i32_w]; rw [c9b0]) | skip)
          have H' := Aside0.mk H
          clear H
          go_wp2_with (first | ((with_reducible refine gate_callee (f := 25) rfl ?_); refine goesL_ (some 15) rfl rfl Try.func25 (by kernel_rfl) rfl #[.string a0] rfl (by (try simp only [List.map_toArray, List.map_cons, List.map_nil]); first | done | rfl | (simp only [List.length_drop, List.length_take]; rfl) | (rw [Go.Proofs.Ytdkkanpbcifkfaa.B.w64] <;> first | rfl | omega | (simp only [decide_eq_false_iff_not, decide_eq_true_eq, Int.not_lt, Nat.not_lt, gt_iff_lt] at * <;> omega))) ?_; (with_reducible refine (wellspringref02_Check.calls k a0 true _ A5.out).mono ?_); rintro e w12 ⟨rfl, hb⟩; refine ⟨_, rfl, ?_⟩; have n0_ := Aside0.mk (below_step (by repeat (first | (with_reducible first | exact HB.out | apply below_alloc | apply pw_below_drewN | apply below_drew1) | exact HB.out)) hb); clear HB; have HB := n0_; clear n0_; (try clear hb); (try clear hb2); (try clear hk); (try clear hi)) | (go_at_call 25; (with_reducible refine (wellspringref02_Check.calls k a2 true _ A7.out).mono ?_); rintro e w13 ⟨rfl, hb⟩; have n0_ := Aside0.mk (below_step (by repeat (first | (with_reducible first | exact HB.out | apply below_alloc | apply pw_below_drewN | apply below_drew1) | exact HB.out)) hb); clear HB; have HB := n0_; clear n0_; (try clear hb); (try clear hb2); (try clear hk); (try clear hi)))
          go_meet
          case rel => exact ⟨_, (decide (a1 > 16000)), (by first | rfl | (simp; done) | (simp [*]; done) | (simp [Go.Proofs.Ytdkkanpbcifkfaa.B.beq_not_bne]; done) | (simp [Go.Proofs.Ytdkkanpbcifkfaa.B.bne_not_beq]; done)), H', ⟨by first | omega | exact Nat.le_refl _⟩, ⟨by repeat (first | (with_reducible first | exact HB.out | apply below_alloc | apply pw_below_drewN | apply below_drew1) | exact HB.out)⟩⟩
      · replace c8 := Bool.eq_false_iff.mpr c8
        subst c8
        have H1 : (wellspringref04_Write.j0 k a0 a1 a2 true) = some r := by rw [if_neg (show ¬ (false = true) by decide)] at H; exact H
        clear H
        have H := H1
        clear H1
        have H' := Aside0.mk H
        clear H
        go_wp2_with (first | ((with_reducible refine gate_callee (f := 25) rfl ?_); refine goesL_ (some 15) rfl rfl Try.func25 (by kernel_rfl) rfl #[.string a0] rfl (by (try simp only [List.map_toArray, List.map_cons, List.map_nil]); first | done | rfl | (simp only [List.length_drop, List.length_take]; rfl) | (rw [Go.Proofs.Ytdkkanpbcifkfaa.B.w64] <;> first | rfl | omega | (simp only [decide_eq_false_iff_not, decide_eq_true_eq, Int.not_lt, Nat.not_lt, gt_iff_lt] at * <;> omega))) ?_; (with_reducible refine (wellspringref02_Check.calls k a0 true _ A5.out).mono ?_); rintro e w14 ⟨rfl, hb⟩; refine ⟨_, rfl, ?_⟩; have n0_ := Aside0.mk (below_step (by repeat (first | (with_reducible first | exact HB.out | apply below_alloc | apply pw_below_drewN | apply below_drew1) | exact HB.out)) hb); clear HB; have HB := n0_; clear n0_; (try clear hb); (try clear hb2); (try clear hk); (try clear hi)) | (go_at_call 25; (with_reducible refine (wellspringref02_Check.calls k a2 false _ A7.out).mono ?_); rintro e w15 ⟨rfl, hb⟩; have n0_ := Aside0.mk (below_step (by repeat (first | (with_reducible first | exact HB.out | apply below_alloc | apply pw_below_drewN | apply below_drew1) | exact HB.out)) hb); clear HB; have HB := n0_; clear n0_; (try clear hb); (try clear hb2); (try clear hk); (try clear hi)))
        go_meet
        case rel => exact ⟨_, (true), (by first | rfl | (simp; done) | (simp [*]; done) | (simp [Go.Proofs.Ytdkkanpbcifkfaa.B.beq_not_bne]; done) | (simp [Go.Proofs.Ytdkkanpbcifkfaa.B.bne_not_beq]; done)), H', ⟨by first | omega | exact Nat.le_refl _⟩, ⟨by repeat (first | (with_reducible first | exact HB.out | apply below_alloc | apply pw_below_drewN | apply below_drew1) | exact HB.out)⟩⟩
    · replace c6 := Bool.eq_false_iff.mpr c6
      subst c6
      have H1 : (wellspringref04_Write.j0 k a0 a1 a2 true) = some r := by rw [if_neg (show ¬ (false = true) by decide)] at H; exact H
      clear H
      have H := H1
      clear H1
      have H' := Aside0.mk H
      clear H
      go_wp2_with (first | ((with_reducible refine gate_callee (f := 25) rfl ?_); refine goesL_ (some 15) rfl rfl Try.func25 (by kernel_rfl) rfl #[.string a0] rfl (by (try simp only [List.map_toArray, List.map_cons, List.map_nil]); first | done | rfl | (simp only [List.length_drop, List.length_take]; rfl) | (rw [Go.Proofs.Ytdkkanpbcifkfaa.B.w64] <;> first | rfl | omega | (simp only [decide_eq_false_iff_not, decide_eq_true_eq, Int.not_lt, Nat.not_lt, gt_iff_lt] at * <;> omega))) ?_; (with_reducible refine (wellspringref02_Check.calls k a0 false _ A5.out).mono ?_); rintro e w16 ⟨rfl, hb⟩; refine ⟨_, rfl, ?_⟩; have n0_ := Aside0.mk (below_step (by repeat (first | (with_reducible first | exact HB.out | apply below_alloc | apply pw_below_drewN | apply below_drew1) | exact HB.out)) hb); clear HB; have HB := n0_; clear n0_; (try clear hb); (try clear hb2); (try clear hk); (try clear hi)))
      go_meet
      case rel => exact ⟨_, (true), (by first | rfl | (simp; done) | (simp [*]; done) | (simp [Go.Proofs.Ytdkkanpbcifkfaa.B.beq_not_bne]; done) | (simp [Go.Proofs.Ytdkkanpbcifkfaa.B.bne_not_beq]; done)), H', ⟨by first | omega | exact Nat.le_refl _⟩, ⟨by repeat (first | (with_reducible first | exact HB.out | apply below_alloc | apply pw_below_drewN | apply below_drew1) | exact HB.out)⟩⟩
  case rest =>
    clear HC4
    try clear c2
    try clear p2
    try clear c6
    try clear c8
    try clear c9
    try clear c9b0
    try clear c9b2
    obtain ⟨kq, x29_3, rfl, HA, HJ3, HB⟩ := hcut
    cases kq with
    | zero => exact absurd HA.out (by simp [wellspringref04_Write.j0])
    | succ kj3 =>
      have H := HA.out
      clear HA
      simp only [wellspringref04_Write.j0] at H
      by_cases c17 : x29_3 = true
      · subst c17
        have H1 : (some (⟨#[]⟩ : ByteArray)) = some r := by rw [if_pos rfl] at H; exact H
        clear H
        have H := H1
        clear H1
        obtain rfl := Option.some.inj H
        go_wp2
        go_ret
        exact ⟨by first | rfl | (simp [errW_none, errW_some] <;> rfl) | (simp [*, errW_none, errW_some] <;> rfl), by repeat (first | (with_reducible first | exact HB.out | apply below_alloc | apply pw_below_drewN | apply below_drew1) | exact HB.out)⟩
      · replace c17 := Bool.eq_false_iff.mpr c17
        subst c17
        have H1 : (wellspringref04_Write.l0 kj3 a0 a1 a2 a2) = some r := by rw [if_neg (show ¬ (false = true) by decide)] at H; exact H
        clear H
        have H := H1
        clear H1
        have H' := Aside0.mk H
        clear H
        go_wp2
        go_loopg [7] kj3 (fun kq v7 w' => ∃ (x7_2 : ByteArray), v7 = .string x7_2 ∧ Aside0 (wellspringref04_Write.l0 kq a0 a1 a2 x7_2 = some r) ∧ Aside0 (kq ≤ kj3) ∧ Aside0 (Below w.heap.size w w'))
        case atStart => exact ⟨(a2), (by first | rfl | (simp; done) | (simp [*]; done) | (simp [Go.Proofs.Ytdkkanpbcifkfaa.B.beq_not_bne]; done) | (simp [Go.Proofs.Ytdkkanpbcifkfaa.B.bne_not_beq]; done)), H', ⟨Nat.le_refl _⟩, ⟨by repeat (first | (with_reducible first | exact HB.out | apply below_alloc | apply pw_below_drewN | apply below_drew1) | exact HB.out)⟩⟩
        case round =>
          clear H'
          try clear c1
          try clear c2
          try clear p2
          try clear c6
          try clear c8
          try clear c9
          try clear c9b0
          try clear c9b2
          try clear c17
          try clear p2
          obtain ⟨x7_2, rfl, HA, HK2, HB⟩ := hrel
          cases gk with
          | zero => exact absurd HA.out (by simp [wellspringref04_Write.l0])
          | succ k2 =>
            have H := HA.out
            clear HA
            simp only [wellspringref04_Write.l0] at H
            by_cases c18 : (x7_2.size : Int) > 1
            · rw [if_pos c18] at H
              have c18b0 : decide (1 < (x7_2.size : Int)) = true := decide_eq_true c18
              have c18b1 : decide (1 < x7_2.size) = true := decide_eq_true (by omega)
              clear c18
              have H' := Aside0.mk H
              clear H
              go_wp2
              go_loopg [8] k2 (fun kq v8 w' => ∃ (x8_3 : ByteArray), v8 = .string x8_3 ∧ Aside0 (wellspringref04_Write.l1 kq a0 a1 a2 x7_2 x8_3 = some r) ∧ Aside0 (kq ≤ k2) ∧ Aside0 (Below w.heap.size w w'))
              case atStart => exact ⟨(a0), (by first | rfl | (simp; done) | (simp [*]; done) | (simp [Go.Proofs.Ytdkkanpbcifkfaa.B.beq_not_bne]; done) | (simp [Go.Proofs.Ytdkkanpbcifkfaa.B.bne_not_beq]; done)), H', ⟨Nat.le_refl _⟩, ⟨by repeat (first | (with_reducible first | exact HB.out | apply below_alloc | apply pw_below_drewN | apply below_drew1) | exact HB.out)⟩⟩
              case round =>
                clear H'
                try clear c1
                try clear c2
                try clear p2
                try clear c6
                try clear c8
                try clear c9
                try clear c9b0
                try clear c9b2
                try clear c17
                try clear c18
                try clear c18b0
                try clear c18b1
                try clear p2
                obtain ⟨x8_3, rfl, HA, HK3, HB⟩ := hrel
                cases gk with
                | zero => exact absurd HA.out (by simp [wellspringref04_Write.l1])
                | succ k3 =>
                  have H := HA.out
                  clear HA
                  simp only [wellspringref04_Write.l1] at H
                  by_cases c19 : (x8_3.size : Int) > 1
                  · rw [if_pos c19] at H
                    have c19b0 : decide (1 < (x8_3.size : Int)) = true := decide_eq_true c19
                    have c19b1 : decide (1 < x8_3.size) = true := decide_eq_true (by omega)
                    clear c19
                    replace H := Option.bind_eq_some_iff.mp H
                    obtain ⟨t210, A200, H⟩ := H
                    replace H : (if t210 = true then (if 0 ≤ (wrap64 ((a2.size : Int) - (x7_2.size : Int))) then (if (wrap64 ((a2.size : Int) - (x7_2.size : Int))) ≤ (a2.size : Int) then ((wellspringref01_Put.f k3 (wrap64 ((wrap64 ((wrap64 (49152 + a1)) + (a0.size : Int))) - (x8_3.size : Int))) 2).bind fun t211 => (if (a2.extract 0 ((wrap64 ((a2.size : Int) - (x7_2.size : Int))) : Int).toNat).size + t211.size ≤ 9223372036854775807 then (some ((a2.extract 0 ((wrap64 ((a2.size : Int) - (x7_2.size : Int))) : Int).toNat) ++ t211)) else (none))) else (none)) else (none)) else ((wellspringref02_Up.f k3 x8_3).bind fun bt212 => (wellspringref04_Write.l1 k3 a0 a1 a2 x7_2 bt212.1))) = some r := H
                    have A20 := Aside0.mk A200
                    clear A200
                    by_cases c21 : t210 = true
                    · subst c21
                      have H1 : (if 0 ≤ (wrap64 ((a2.size : Int) - (x7_2.size : Int))) then (if (wrap64 ((a2.size : Int) - (x7_2.size : Int))) ≤ (a2.size : Int) then ((wellspringref01_Put.f k3 (wrap64 ((wrap64 ((wrap64 (49152 + a1)) + (a0.size : Int))) - (x8_3.size : Int))) 2).bind fun t211 => (if (a2.extract 0 ((wrap64 ((a2.size : Int) - (x7_2.size : Int))) : Int).toNat).size + t211.size ≤ 9223372036854775807 then (some ((a2.extract 0 ((wrap64 ((a2.size : Int) - (x7_2.size : Int))) : Int).toNat) ++ t211)) else (none))) else (none)) else (none)) = some r := by rw [if_pos rfl] at H; exact H
                      clear H
                      have H := H1
                      clear H1
                      obtain ⟨ji22, hji22⟩ : ∃ j_ : Int, (wrap64 ((a2.size : Int) - (x7_2.size : Int))) = j_ := ⟨_, rfl⟩
                      replace H : (if 0 ≤ (ji22) then (if (ji22) ≤ (a2.size : Int) then ((wellspringref01_Put.f k3 (wrap64 ((wrap64 ((wrap64 (49152 + a1)) + (a0.size : Int))) - (x8_3.size : Int))) 2).bind fun t211 => (if (a2.extract 0 ((ji22) : Int).toNat).size + t211.size ≤ 9223372036854775807 then (some ((a2.extract 0 ((ji22) : Int).toNat) ++ t211)) else (none))) else (none)) else (none)) = some r := by first | (rw [hji22] at H; exact H) | (simp only [hji22] at H ⊢; exact H)
                      (try rw [hji22] at A20)
                      have hji22w : (IntKind.i64.wrap ((a2.size : Int) - (x7_2.size : Int))) = ji22 := (i64_w _).trans hji22
                      by_cases c23 : 0 ≤ (ji22)
                      · rw [if_pos c23] at H
                        have c23b0 := eq_true c23
                        have c23b1 : decide (0 ≤ (ji22)) = true := decide_eq_true c23
                        clear c23
                        by_cases c24 : (ji22) ≤ (a2.size : Int)
                        · rw [if_pos c24] at H
                          have c24b0 := eq_true c24
                          have c24b1 : decide ((ji22) ≤ (a2.size : Int)) = true := decide_eq_true c24
                          clear c24
                          replace H := Option.bind_eq_some_iff.mp H
                          obtain ⟨t211, A250, H⟩ := H
                          replace H : (if (a2.extract 0 ((ji22) : Int).toNat).size + t211.size ≤ 9223372036854775807 then (some ((a2.extract 0 ((ji22) : Int).toNat) ++ t211)) else (none)) = some r := H
                          have A25 := Aside0.mk A250
                          clear A250
                          by_cases c26 : (a2.extract 0 ((ji22) : Int).toNat).size + t211.size ≤ 9223372036854775807
                          · rw [if_pos c26] at H
                            have c26b0 := eq_true c26
                            have c26b1 : decide ((a2.extract 0 ((ji22) : Int).toNat).size + t211.size ≤ 9223372036854775807) = true := decide_eq_true c26
                            try have c26b2 : (9223372036854775807 < (a2.extract 0 ((ji22) : Int).toNat).size + t211.size) = False := eq_false (Nat.not_lt.2 c26)
                            try have c26b3 : (9223372036854775807 < ((ji22) : Int).toNat + t211.size) = False := eq_false (by have h_ := c26; have h1_ : (ji22) ≤ (a2.size : Int) := of_decide_eq_true (by assumption); simp only [ByteArray.size_extract] at h_; omega)
                            obtain rfl := Option.some.inj H
                            try go_wp2_with (first | ((with_reducible refine gate_callee (f := 26) rfl ?_); refine goesL_ (some 40) rfl rfl Try.func26 (by kernel_rfl) rfl #[.string x8_3, .string x7_2] rfl (by (try simp only [List.map_toArray, List.map_cons, List.map_nil]); first | done | rfl | (simp only [List.length_drop, List.length_take]; rfl) | (rw [Go.Proofs.Ytdkkanpbcifkfaa.B.w64] <;> first | rfl | omega | (simp only [decide_eq_false_iff_not, decide_eq_true_eq, Int.not_lt, Nat.not_lt, gt_iff_lt] at * <;> omega))) ?_; (with_reducible refine (wellspringref02_Same.calls k3 x8_3 x7_2 true _ A20.out).mono ?_); rintro e w27 ⟨rfl, hb⟩; refine ⟨_, rfl, ?_⟩; have n0_ := Aside0.mk (below_step (by repeat (first | (with_reducible first | exact HB.out | apply below_alloc | apply pw_below_drewN | apply below_drew1) | exact HB.out)) hb); clear HB; have HB := n0_; clear n0_; (try clear hb); (try clear hb2); (try clear hk); (try clear hi)))
                            have n0_ := Aside0.mk (below_drew1 HB.out)
                            clear HB
                            have HB := n0_
                            clear n0_
                            refine start_ (n := 11) (S := fun w' => True) (ds := []) #[false, false, false, false, false, false, false, false, false, false, false] (by kernel_rfl) rfl rfl trivial (fun hHeld => ?_); refine with_tabW wellspringref04_Write.tab9 wellspringref04_Write.bits9 (fun HT_ HW_ => ?_)
                            generalize w27.drew = w28 at HB hHeld ⊢
                            refine pure_ (i := 0) (N := some 49) (v := ?_) (a' := ?_) #[true, false, false, false, false, false, false, false, false, false, false] rfl rfl (any_of HT_.out (by kernel_rfl)) (fun _ _ _ h => h) (Or.inl ⟨by rfl, ?_⟩) ?_ ?_
                            rotate_left
                            · intro w'
                              go_simp
                              with_reducible rfl
                            rotate_left
                            · simp only [Act.put, List.setIfInBounds_toArray, List.set_cons_zero, List.set_cons_succ, i64_w, i32_w]
                              rfl
                            refine pure_ (i := 1) (N := some 50) (v := ?_) (a' := ?_) #[true, true, false, false, false, false, false, false, false, false, false] rfl rfl (any_of HT_.out (by kernel_rfl)) (fun _ _ _ h => h) (Or.inl ⟨by rfl, ?_⟩) ?_ ?_
                            rotate_left
                            · intro w'
                              go_simp
                              with_reducible rfl
                            rotate_left
                            · simp only [Act.put, List.setIfInBounds_toArray, List.set_cons_zero, List.set_cons_succ, i64_w, i32_w]
                              rfl
                            refine pure_ (i := 2) (N := some 51) (v := ?_) (a' := ?_) #[true, true, true, false, false, false, false, false, false, false, false] rfl rfl (any_of HT_.out (by kernel_rfl)) (fun _ _ _ h => h) (Or.inl ⟨by rfl, ?_⟩) ?_ ?_
                            rotate_left
                            · intro w'
                              go_simp
                              with_reducible rfl
                            rotate_left
                            · simp only [Act.put, List.setIfInBounds_toArray, List.set_cons_zero, List.set_cons_succ, i64_w, i32_w]
                              rfl
                            refine pure_ (i := 3) (N := some 52) (v := ?_) (a' := ?_) #[true, true, true, true, false, false, false, false, false, false, false] rfl rfl (any_of HT_.out (by kernel_rfl)) (fun _ _ _ h => h) (Or.inl ⟨by rfl, ?_⟩) ?_ ?_
                            rotate_left
                            · intro w'
                              go_simp
                              with_reducible rfl
                            rotate_left
                            · simp only [Act.put, List.setIfInBounds_toArray, List.set_cons_zero, List.set_cons_succ, i64_w, i32_w]
                              rfl
                            refine pure_ (i := 4) (N := some 53) (v := ?_) (a' := ?_) #[true, true, true, true, true, false, false, false, false, false, false] rfl rfl (any_of HT_.out (by kernel_rfl)) (fun _ _ _ h => h) (Or.inl ⟨by rfl, ?_⟩) ?_ ?_
                            rotate_left
                            · intro w'
                              go_simp
                              with_reducible rfl
                            rotate_left
                            · simp only [Act.put, List.setIfInBounds_toArray, List.set_cons_zero, List.set_cons_succ, i64_w, i32_w]
                              rfl
                            refine pure_ (i := 5) (N := some 54) (v := ?_) (a' := ?_) #[true, true, true, true, true, true, false, false, false, false, false] rfl rfl (any_of HT_.out (by kernel_rfl)) (fun _ _ _ h => h) (Or.inl ⟨by rfl, ?_⟩) ?_ ?_
                            rotate_left
                            · intro w'
                              go_simp
                              with_reducible rfl
                            rotate_left
                            · simp only [Act.put, List.setIfInBounds_toArray, List.set_cons_zero, List.set_cons_succ, i64_w, i32_w]
                              rfl
                            refine pure_ (i := 6) (N := some 55) (v := ?_) (a' := ?_) #[true, true, true, true, true, true, true, false, false, false, false] rfl rfl (any_of HT_.out (by kernel_rfl)) (fun _ _ _ h => h) (Or.inl ⟨by rfl, ?_⟩) ?_ ?_
                            rotate_left
                            · intro w'
                              go_simp
                              with_reducible rfl
                            rotate_left
                            · simp only [Act.put, List.setIfInBounds_toArray, List.set_cons_zero, List.set_cons_succ, i64_w, i32_w]
                              rfl
                            refine pure_ (i := 7) (N := some 56) (v := ?_) (a' := ?_) #[true, true, true, true, true, true, true, true, false, false, false] rfl rfl (any_of HT_.out (by kernel_rfl)) (fun _ _ _ h => h) (Or.inl ⟨by rfl, ?_⟩) ?_ ?_
                            rotate_left
                            · intro w'
                              go_simp
                              with_reducible rfl
                            rotate_left
                            · simp only [Act.put, List.setIfInBounds_toArray, List.set_cons_zero, List.set_cons_succ, i64_w, i32_w]
                              rfl
                            refine one_ (i := 8) (N := some 57) #[true, true, true, true, true, true, true, true, true, false, false] rfl rfl (one_of HT_.out (by kernel_rfl)) (by decide) (fun K hK => ?_)
                            refine goes_ Try.func67 (by kernel_rfl) rfl #[.int .i64 (wrap64 ((wrap64 ((wrap64 (49152 + a1)) + (a0.size : Int))) - (x8_3.size : Int))), .int .i64 2] (by rfl) rfl rfl (by (try simp only [List.map_toArray, List.map_cons, List.map_nil]); first | done | rfl | (simp only [List.length_drop, List.length_take]; rfl) | (rw [Go.Proofs.Ytdkkanpbcifkfaa.B.w64] <;> first | rfl | omega | (simp only [decide_eq_false_iff_not, decide_eq_true_eq, Int.not_lt, Nat.not_lt, gt_iff_lt] at * <;> omega))) ?_
                            with_reducible refine (wellspringref01_Put.calls k3 (wrap64 ((wrap64 ((wrap64 (49152 + a1)) + (a0.size : Int))) - (x8_3.size : Int))) 2 t211 _ A25.out).mono ?_
                            rintro e w29 ⟨rfl, hb⟩
                            refine ⟨_, rfl, ?_⟩
                            have n0_ := Aside0.mk (below_step (by repeat (first | (with_reducible first | exact HB.out | apply below_alloc | apply pw_below_drewN | apply below_drew1) | exact HB.out)) hb)
                            clear HB
                            have HB := n0_
                            clear n0_
                            (try clear hb)
                            (try clear hb2)
                            (try clear hk)
                            (try clear hi)
                            refine hK.out _ _ trivial (fun hHeld => ?_)
                            clear hK K
                            refine norm_ (a' := ?_) ?_ ?_
                            rotate_left
                            · show Act.put _ (some 57) _ = _
                              simp only [Act.put, List.setIfInBounds_toArray, List.set_cons_zero, List.set_cons_succ, i64_w, i32_w]
                              rfl
                            refine pure_ (i := 9) (N := some 58) (v := ?_) (a' := ?_) #[true, true, true, true, true, true, true, true, true, true, false] rfl rfl (any_of HT_.out (by kernel_rfl)) (fun _ _ _ h => h) (Or.inl ⟨by rfl, ?_⟩) ?_ ?_
                            rotate_left
                            · intro w'
                              go_simp
                              with_reducible rfl
                            rotate_left
                            · simp only [Act.put, List.setIfInBounds_toArray, List.set_cons_zero, List.set_cons_succ, i64_w, i32_w]
                              rfl
                            refine pure_ (i := 10) (N := some 6) (v := ?_) (a' := ?_) #[true, true, true, true, true, true, true, true, true, true, true] rfl rfl (any_of HT_.out (by kernel_rfl)) (fun _ _ _ h => h) (Or.inl ⟨by rfl, ?_⟩) ?_ ?_
                            rotate_left
                            · intro w'
                              go_simp
                              with_reducible rfl
                            rotate_left
                            · simp only [Act.put, List.setIfInBounds_toArray, List.set_cons_zero, List.set_cons_succ, i64_w, i32_w]
                              rfl
                            refine done_ (done_of HT_.out (by kernel_rfl)) ?_
                            try go_wp2
                            go_ret
                            exact ⟨by first | rfl | (simp [errW_none, errW_some] <;> rfl) | (simp only [← hji22]; first | rfl | (simp [errW_none, errW_some] <;> rfl)) | (simp [*, errW_none, errW_some] <;> rfl), by repeat (first | (with_reducible first | exact HB.out | apply below_alloc | apply pw_below_drewN | apply below_drew1) | exact HB.out)⟩
                          · rw [if_neg c26] at H
                            exact absurd H (by simp)
                        · rw [if_neg c24] at H
                          exact absurd H (by simp)
                      · rw [if_neg c23] at H
                        exact absurd H (by simp)
                    · replace c21 := Bool.eq_false_iff.mpr c21
                      subst c21
                      have H1 : ((wellspringref02_Up.f k3 x8_3).bind fun bt212 => (wellspringref04_Write.l1 k3 a0 a1 a2 x7_2 bt212.1)) = some r := by rw [if_neg (show ¬ (false = true) by decide)] at H; exact H
                      clear H
                      have H := H1
                      clear H1
                      replace H := Option.bind_eq_some_iff.mp H
                      obtain ⟨⟨t212, t213⟩, A300, H⟩ := H
                      replace H : (wellspringref04_Write.l1 k3 a0 a1 a2 x7_2 t212) = some r := H
                      have A30 := Aside0.mk A300
                      clear A300
                      have H' := Aside0.mk H
                      clear H
                      go_wp2_with (first | ((with_reducible refine gate_callee (f := 26) rfl ?_); refine goesL_ (some 40) rfl rfl Try.func26 (by kernel_rfl) rfl #[.string x8_3, .string x7_2] rfl (by (try simp only [List.map_toArray, List.map_cons, List.map_nil]); first | done | rfl | (simp only [List.length_drop, List.length_take]; rfl) | (rw [Go.Proofs.Ytdkkanpbcifkfaa.B.w64] <;> first | rfl | omega | (simp only [decide_eq_false_iff_not, decide_eq_true_eq, Int.not_lt, Nat.not_lt, gt_iff_lt] at * <;> omega))) ?_; (with_reducible refine (wellspringref02_Same.calls k3 x8_3 x7_2 false _ A20.out).mono ?_); rintro e w31 ⟨rfl, hb⟩; refine ⟨_, rfl, ?_⟩; have n0_ := Aside0.mk (below_step (by repeat (first | (with_reducible first | exact HB.out | apply below_alloc | apply pw_below_drewN | apply below_drew1) | exact HB.out)) hb); clear HB; have HB := n0_; clear n0_; (try clear hb); (try clear hb2); (try clear hk); (try clear hi)) | ((with_reducible refine gate_callee (f := 68) rfl ?_); refine goesL_ (some 61) rfl rfl Try.func68 (by kernel_rfl) rfl #[.string x8_3] rfl (by (try simp only [List.map_toArray, List.map_cons, List.map_nil]); first | done | rfl | (simp only [List.length_drop, List.length_take]; rfl) | (rw [Go.Proofs.Ytdkkanpbcifkfaa.B.w64] <;> first | rfl | omega | (simp only [decide_eq_false_iff_not, decide_eq_true_eq, Int.not_lt, Nat.not_lt, gt_iff_lt] at * <;> omega))) ?_; (with_reducible refine (wellspringref02_Up.calls k3 x8_3 t212 t213 _ A30.out).mono ?_); rintro e w32 ⟨rfl, hb⟩; refine ⟨_, rfl, ?_⟩; have n0_ := Aside0.mk (below_step (by repeat (first | (with_reducible first | exact HB.out | apply below_alloc | apply pw_below_drewN | apply below_drew1) | exact HB.out)) hb); clear HB; have HB := n0_; clear n0_; (try clear hb); (try clear hb2); (try clear hk); (try clear hi)))
                      go_roundg k3
                      case measure => have := HJ3.out; have := HK2.out; have := HK3.out; omega
                      case rel => exact ⟨(t212), (by first | rfl | (simp; done) | (simp [*]; done) | (simp [Go.Proofs.Ytdkkanpbcifkfaa.B.beq_not_bne]; done) | (simp [Go.Proofs.Ytdkkanpbcifkfaa.B.bne_not_beq]; done)), H', ⟨by have := HJ3.out; have := HK2.out; have := HK3.out; omega⟩, ⟨by repeat (first | (with_reducible first | exact HB.out | apply below_alloc | apply pw_below_drewN | apply below_drew1) | exact HB.out)⟩⟩
                  · rw [if_neg c19] at H
                    have c19b0 : decide (1 < (x8_3.size : Int)) = false := decide_eq_false c19
                    have c19b1 : decide (1 < x8_3.size) = false := decide_eq_false (by omega)
                    clear c19
                    replace H := Option.bind_eq_some_iff.mp H
                    obtain ⟨⟨t208, t209⟩, A330, H⟩ := H
                    replace H : (wellspringref04_Write.l0 k3 a0 a1 a2 t208) = some r := H
                    have A33 := Aside0.mk A330
                    clear A330
                    have H' := Aside0.mk H
                    clear H
                    go_wp2_with (first | ((with_reducible refine gate_callee (f := 68) rfl ?_); refine goesL_ (some 67) rfl rfl Try.func68 (by kernel_rfl) rfl #[.string x7_2] rfl (by (try simp only [List.map_toArray, List.map_cons, List.map_nil]); first | done | rfl | (simp only [List.length_drop, List.length_take]; rfl) | (rw [Go.Proofs.Ytdkkanpbcifkfaa.B.w64] <;> first | rfl | omega | (simp only [decide_eq_false_iff_not, decide_eq_true_eq, Int.not_lt, Nat.not_lt, gt_iff_lt] at * <;> omega))) ?_; (with_reducible refine (wellspringref02_Up.calls k3 x7_2 t208 t209 _ A33.out).mono ?_); rintro e w34 ⟨rfl, hb⟩; refine ⟨_, rfl, ?_⟩; have n0_ := Aside0.mk (below_step (by repeat (first | (with_reducible first | exact HB.out | apply below_alloc | apply pw_below_drewN | apply below_drew1) | exact HB.out)) hb); clear HB; have HB := n0_; clear n0_; (try clear hb); (try clear hb2); (try clear hk); (try clear hi)))
                    go_roundg k3
                    case measure => have := HJ3.out; have := HK2.out; have := HK3.out; omega
                    case rel => exact ⟨(t208), (by first | rfl | (simp; done) | (simp [*]; done) | (simp [Go.Proofs.Ytdkkanpbcifkfaa.B.beq_not_bne]; done) | (simp [Go.Proofs.Ytdkkanpbcifkfaa.B.bne_not_beq]; done)), H', ⟨by have := HJ3.out; have := HK2.out; have := HK3.out; omega⟩, ⟨by repeat (first | (with_reducible first | exact HB.out | apply below_alloc | apply pw_below_drewN | apply below_drew1) | exact HB.out)⟩⟩
            · rw [if_neg c18] at H
              have c18b0 : decide (1 < (x7_2.size : Int)) = false := decide_eq_false c18
              have c18b1 : decide (1 < x7_2.size) = false := decide_eq_false (by omega)
              clear c18
              obtain rfl := Option.some.inj H
              go_wp2
              go_ret
              exact ⟨by first | rfl | (simp [errW_none, errW_some] <;> rfl) | (simp [*, errW_none, errW_some] <;> rfl), by repeat (first | (with_reducible first | exact HB.out | apply below_alloc | apply pw_below_drewN | apply below_drew1) | exact HB.out)⟩

end Go.Proofs.Ytdkkanpbcifkfaa.ZQ

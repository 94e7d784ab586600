-- Written by a program of this session (wip/tools/myprint.py), over the kit's printer; Lean checks it.
import Derived.Test.YtdkkanpbcifkfaaZQ0
import Derived.Test.YtdkkanpbcifkfaaZQ5
import Derived.Test.YtdkkanpbcifkfaaZQ7
namespace Go.Proofs.Ytdkkanpbcifkfaa.ZQ
open Go.RowKit Go.Proofs.YtdkkanpbcifkfaaW.PrintWords Go.Proofs.YtdkkanpbcifkfaaW.PrintLast Go.Proofs.YtdkkanpbcifkfaaW.PrintMore
attribute [local go_sem] max2_int min2_int max_two min_two max_three min_three max_four min_four   -- for this text's walks alone
set_option linter.unusedVariables false
set_option linter.unusedSimpArgs false

/-! ### wellspringref04_bad: function 61 -/
def wellspringref04_bad.f (a0 : Int) : Option (ByteArray × Int × Int) := some ((⟨#[]⟩ : ByteArray), 0, a0)
set_option maxHeartbeats 8000000 in
set_option maxRecDepth 100000 in
theorem wellspringref04_bad.calls (a0 : Int) (r1 : ByteArray) (r2 : Int) (r3 : Int) (w : World) (h : wellspringref04_bad.f a0 = some (r1, r2, r3)) :
  Calls Try.prog 61 #[.int .i64 a0] w fun e w' => e = .returned (.tuple #[.string r1, .int .i64 r2, .int .i64 r3]) ∧ Drawn0 w w' := by
 have H : (some ((⟨#[]⟩ : ByteArray), 0, a0)) = some (r1, r2, r3) := h
 clear h
 simp only [Option.some.injEq, Prod.mk.injEq] at H
 obtain ⟨rfl, rfl, rfl⟩ := H
 go_enter Try.func61, Try.ntmps61
 go_wp2
 go_ret3
 exact ⟨by first | rfl | (simp; done) | (simp [*]; done), by repeat (first | exact Drawn0.refl _ | apply Drawn0.step)⟩

/-! ### wellspringref04_Read: function 22 -/
def wellspringref04_Read.l0 : Nat → ByteArray → Int → ByteArray → Int → Int → Option (ByteArray × Int × Int)
 | 0, _, _, _, _, _ => none
 | k + 1, x0, x1, x7, x8, x9 => (wellspringref01_Get.f k x0 x1 1).bind fun bt155 => (if bt155.2 = true then (if bt155.1 = 0 then (if x8 < 0 then (if x7.size + 1 ≤ 9223372036854775807 then (some (x7 ++ (⟨#[0]⟩ : ByteArray), wrap64 (x1 + 1), 0)) else (none)) else (if x7.size + 1 ≤ 9223372036854775807 then (some (x7 ++ (⟨#[0]⟩ : ByteArray), x8, 0)) else (none))) else (if bt155.1 ≥ 192 then ((wellspringref01_Get.f k x0 x1 2).bind fun bt160 => (if bt160.2 = true then (if (wrap64 (bt160.1 - 49152)) ≥ x9 then ((wellspringref04_bad.f 3).bind fun bt165 => (some (bt165.1, bt165.2.1, bt165.2.2))) else (if x8 < 0 then (wellspringref04_Read.l0 k x0 (wrap64 (bt160.1 - 49152)) x7 (wrap64 (x1 + 2)) (wrap64 (bt160.1 - 49152))) else (wellspringref04_Read.l0 k x0 (wrap64 (bt160.1 - 49152)) x7 x8 (wrap64 (bt160.1 - 49152))))) else ((wellspringref04_bad.f 2).bind fun bt162 => (some (bt162.1, bt162.2.1, bt162.2.2))))) else (if bt155.1 > 63 then ((wellspringref04_bad.f 3).bind fun bt168 => (some (bt168.1, bt168.2.1, bt168.2.2))) else ((wellspringref01_Take.f x0 x1 (wrap64 (bt155.1 + 1))).bind fun bt171 => (if bt171.2 = true then (if x7.size + bt171.1.size ≤ 9223372036854775807 then (if (wrap64 (((x7 ++ bt171.1).size : Int) + 1)) > 255 then ((wellspringref04_bad.f 3).bind fun bt173 => (some (bt173.1, bt173.2.1, bt173.2.2))) else (wellspringref04_Read.l0 k x0 (wrap64 ((wrap64 (x1 + bt155.1)) + 1)) (x7 ++ bt171.1) x8 x9)) else (none)) else ((wellspringref04_bad.f 2).bind fun bt176 => (some (bt176.1, bt176.2.1, bt176.2.2)))))))) else ((wellspringref04_bad.f 2).bind fun bt157 => (some (bt157.1, bt157.2.1, bt157.2.2))))
def wellspringref04_Read.f (k : Nat) (a0 : ByteArray) (a1 : Int) : Option (ByteArray × Int × Int) := wellspringref04_Read.l0 k a0 a1 (⟨#[]⟩ : ByteArray) (-1) a1
set_option maxHeartbeats 8000000 in
set_option maxRecDepth 100000 in
theorem wellspringref04_Read.calls (k : Nat) (a0 : ByteArray) (a1 : Int) (r1 : ByteArray) (r2 : Int) (r3 : Int) (w : World) (h : wellspringref04_Read.f k a0 a1 = some (r1, r2, r3)) :
  Calls Try.prog 22 #[.string a0, .int .i64 a1] w fun e w' => e = .returned (.tuple #[.string r1, .int .i64 r2, .int .i64 r3]) ∧ Drawn0 w w' := by
 have H : (wellspringref04_Read.l0 k a0 a1 (⟨#[]⟩ : ByteArray) (-1) a1) = some (r1, r2, r3) := h
 clear h
 have H' := Aside0.mk H
 clear H
 go_enter Try.func22, Try.ntmps22
 go_wp2
 go_loopg [1, 7, 8, 9] k (fun kq v1 v7 v8 v9 w' => ∃ (x1_1 : Int) (x7_1 : ByteArray) (x8_1 : Int) (x9_1 : Int), v1 = .int .i64 x1_1 ∧ v7 = .string x7_1 ∧ v8 = .int .i64 x8_1 ∧ v9 = .int .i64 x9_1 ∧ Aside0 (wellspringref04_Read.l0 kq a0 x1_1 x7_1 x8_1 x9_1 = some (r1, r2, r3)) ∧ Aside0 (kq ≤ k) ∧ Drawn0 w w')
 case atStart => exact ⟨(a1), ((⟨#[]⟩ : ByteArray)), ((-1)), (a1), (by first | rfl | (simp; done) | (simp [*]; done) | (simp [Go.Proofs.Ytdkkanpbcifkfaa.B.beq_not_bne]; done) | (simp [Go.Proofs.Ytdkkanpbcifkfaa.B.bne_not_beq]; done)), (by first | rfl | (simp; done) | (simp [*]; done) | (simp [Go.Proofs.Ytdkkanpbcifkfaa.B.beq_not_bne]; done) | (simp [Go.Proofs.Ytdkkanpbcifkfaa.B.bne_not_beq]; done)), (by first | rfl | (simp; done) | (simp [*]; done) | (simp [Go.Proofs.Ytdkkanpbcifkfaa.B.beq_not_bne]; done) | (simp [Go.Proofs.Ytdkkanpbcifkfaa.B.bne_not_beq]; done)), (by first | rfl | (simp; done) | (simp [*]; done) | (simp [Go.Proofs.Ytdkkanpbcifkfaa.B.beq_not_bne]; done) | (simp [Go.Proofs.Ytdkkanpbcifkfaa.B.bne_not_beq]; done)), H', ⟨Nat.le_refl _⟩, by repeat (first | exact Drawn0.refl _ | apply Drawn0.step)⟩
 case round =>
  clear H'
  try clear c2
  try clear p2
  obtain ⟨x1_1, x7_1, x8_1, x9_1, rfl, rfl, rfl, rfl, HA, HK1, ⟨m1, rfl⟩⟩ := hrel
  cases gk with
  | zero => exact absurd HA.out (by simp [wellspringref04_Read.l0])
  | succ k1 =>
   have H := HA.out
   clear HA
   simp only [wellspringref04_Read.l0] at H
   replace H := Option.bind_eq_some_iff.mp H
   obtain ⟨⟨t155, t156⟩, A30, H⟩ := H
   replace H : (if t156 = true then (if t155 = 0 then (if x8_1 < 0 then (if x7_1.size + 1 ≤ 9223372036854775807 then (some (x7_1 ++ (⟨#[0]⟩ : ByteArray), wrap64 (x1_1 + 1), 0)) else (none)) else (if x7_1.size + 1 ≤ 9223372036854775807 then (some (x7_1 ++ (⟨#[0]⟩ : ByteArray), x8_1, 0)) else (none))) else (if t155 ≥ 192 then ((wellspringref01_Get.f k1 a0 x1_1 2).bind fun bt160 => (if bt160.2 = true then (if (wrap64 (bt160.1 - 49152)) ≥ x9_1 then ((wellspringref04_bad.f 3).bind fun bt165 => (some (bt165.1, bt165.2.1, bt165.2.2))) else (if x8_1 < 0 then (wellspringref04_Read.l0 k1 a0 (wrap64 (bt160.1 - 49152)) x7_1 (wrap64 (x1_1 + 2)) (wrap64 (bt160.1 - 49152))) else (wellspringref04_Read.l0 k1 a0 (wrap64 (bt160.1 - 49152)) x7_1 x8_1 (wrap64 (bt160.1 - 49152))))) else ((wellspringref04_bad.f 2).bind fun bt162 => (some (bt162.1, bt162.2.1, bt162.2.2))))) else (if t155 > 63 then ((wellspringref04_bad.f 3).bind fun bt168 => (some (bt168.1, bt168.2.1, bt168.2.2))) else ((wellspringref01_Take.f a0 x1_1 (wrap64 (t155 + 1))).bind fun bt171 => (if bt171.2 = true then (if x7_1.size + bt171.1.size ≤ 9223372036854775807 then (if (wrap64 (((x7_1 ++ bt171.1).size : Int) + 1)) > 255 then ((wellspringref04_bad.f 3).bind fun bt173 => (some (bt173.1, bt173.2.1, bt173.2.2))) else (wellspringref04_Read.l0 k1 a0 (wrap64 ((wrap64 (x1_1 + t155)) + 1)) (x7_1 ++ bt171.1) x8_1 x9_1)) else (none)) else ((wellspringref04_bad.f 2).bind fun bt176 => (some (bt176.1, bt176.2.1, bt176.2.2)))))))) else ((wellspringref04_bad.f 2).bind fun bt157 => (some (bt157.1, bt157.2.1, bt157.2.2)))) = some (r1, r2, r3) := H
   have A3 := Aside0.mk A30
   clear A30
   by_cases c4 : t156 = true
   ·subst c4
    have H1 : (if t155 = 0 then (if x8_1 < 0 then (if x7_1.size + 1 ≤ 9223372036854775807 then (some (x7_1 ++ (⟨#[0]⟩ : ByteArray), wrap64 (x1_1 + 1), 0)) else (none)) else (if x7_1.size + 1 ≤ 9223372036854775807 then (some (x7_1 ++ (⟨#[0]⟩ : ByteArray), x8_1, 0)) else (none))) else (if t155 ≥ 192 then ((wellspringref01_Get.f k1 a0 x1_1 2).bind fun bt160 => (if bt160.2 = true then (if (wrap64 (bt160.1 - 49152)) ≥ x9_1 then ((wellspringref04_bad.f 3).bind fun bt165 => (some (bt165.1, bt165.2.1, bt165.2.2))) else (if x8_1 < 0 then (wellspringref04_Read.l0 k1 a0 (wrap64 (bt160.1 - 49152)) x7_1 (wrap64 (x1_1 + 2)) (wrap64 (bt160.1 - 49152))) else (wellspringref04_Read.l0 k1 a0 (wrap64 (bt160.1 - 49152)) x7_1 x8_1 (wrap64 (bt160.1 - 49152))))) else ((wellspringref04_bad.f 2).bind fun bt162 => (some (bt162.1, bt162.2.1, bt162.2.2))))) else (if t155 > 63 then ((wellspringref04_bad.f 3).bind fun bt168 => (some (bt168.1, bt168.2.1, bt168.2.2))) else ((wellspringref01_Take.f a0 x1_1 (wrap64 (t155 + 1))).bind fun bt171 => (if bt171.2 = true then (if x7_1.size + bt171.1.size ≤ 9223372036854775807 then (if (wrap64 (((x7_1 ++ bt171.1).size : Int) + 1)) > 255 then ((wellspringref04_bad.f 3).bind fun bt173 => (some (bt173.1, bt173.2.1, bt173.2.2))) else (wellspringref04_Read.l0 k1 a0 (wrap64 ((wrap64 (x1_1 + t155)) + 1)) (x7_1 ++ bt171.1) x8_1 x9_1)) else (none)) else ((wellspringref04_bad.f 2).bind fun bt176 => (some (bt176.1, bt176.2.1, bt176.2.2)))))))) = some (r1, r2, r3) := by rw [if_pos rfl] at H; exact H
    clear H
    have H := H1
    clear H1
    by_cases c5 : t155 = 0
    ·rw [if_pos c5] at H
     have c5b0 : (t155 == 0) = true := beq_iff_eq.mpr c5
     have c5b1 : (t155 != 0) = false := bne_eq_false_iff_eq.mpr c5
     clear c5
     by_cases c6 : x8_1 < 0
     ·rw [if_pos c6] at H
      have c6b0 : decide (x8_1 < 0) = true := decide_eq_true c6
      clear c6
      by_cases c7 : x7_1.size + 1 ≤ 9223372036854775807
      ·rw [if_pos c7] at H
       have c7b0 := eq_true c7
       have c7b1 : decide (x7_1.size + 1 ≤ 9223372036854775807) = true := decide_eq_true c7
       try have c7b2 : (9223372036854775807 < x7_1.size + 1) = False := eq_false (Nat.not_lt.2 c7)
       simp only [Option.some.injEq, Prod.mk.injEq] at H
       obtain ⟨rfl, rfl, rfl⟩ := H
       go_wp2_with (first | ((with_reducible refine gate_callee (f := 60) rfl ?_); refine goesL_ (some 20) rfl rfl Try.func60 (by kernel_rfl) rfl #[.string a0, .int .i64 x1_1, .int .i64 1] rfl (by (try simp only [List.map_toArray, List.map_cons, List.map_nil]); first | done | rfl | (simp only [List.length_drop, List.length_take]; rfl) | (simp only [ByteArray.size_append, Int.natCast_add]; rfl) | (rw [Go.Proofs.Ytdkkanpbcifkfaa.B.w64] <;> first | rfl | omega | (simp only [decide_eq_false_iff_not, decide_eq_true_eq, Int.not_lt, Nat.not_lt, gt_iff_lt] at * <;> omega))) ?_; (with_reducible refine (wellspringref01_Get.calls k1 a0 x1_1 1 t155 true _ A3.out).mono ?_); rintro e w' ⟨rfl, ⟨nd, rfl⟩⟩; refine ⟨_, rfl, ?_⟩))
       go_ret3
       exact ⟨by first | rfl | (simp; done) | (simp [*]; done), by repeat (first | exact Drawn0.refl _ | apply Drawn0.step)⟩
      ·rw [if_neg c7] at H
       exact absurd H (by simp)
     ·rw [if_neg c6] at H
      have c6b0 : decide (x8_1 < 0) = false := decide_eq_false c6
      clear c6
      by_cases c8 : x7_1.size + 1 ≤ 9223372036854775807
      ·rw [if_pos c8] at H
       have c8b0 := eq_true c8
       have c8b1 : decide (x7_1.size + 1 ≤ 9223372036854775807) = true := decide_eq_true c8
       try have c8b2 : (9223372036854775807 < x7_1.size + 1) = False := eq_false (Nat.not_lt.2 c8)
       simp only [Option.some.injEq, Prod.mk.injEq] at H
       obtain ⟨rfl, rfl, rfl⟩ := H
       go_wp2_with (first | ((with_reducible refine gate_callee (f := 60) rfl ?_); refine goesL_ (some 20) rfl rfl Try.func60 (by kernel_rfl) rfl #[.string a0, .int .i64 x1_1, .int .i64 1] rfl (by (try simp only [List.map_toArray, List.map_cons, List.map_nil]); first | done | rfl | (simp only [List.length_drop, List.length_take]; rfl) | (simp only [ByteArray.size_append, Int.natCast_add]; rfl) | (rw [Go.Proofs.Ytdkkanpbcifkfaa.B.w64] <;> first | rfl | omega | (simp only [decide_eq_false_iff_not, decide_eq_true_eq, Int.not_lt, Nat.not_lt, gt_iff_lt] at * <;> omega))) ?_; (with_reducible refine (wellspringref01_Get.calls k1 a0 x1_1 1 t155 true _ A3.out).mono ?_); rintro e w' ⟨rfl, ⟨nd, rfl⟩⟩; refine ⟨_, rfl, ?_⟩))
       go_ret3
       exact ⟨by first | rfl | (simp; done) | (simp [*]; done), by repeat (first | exact Drawn0.refl _ | apply Drawn0.step)⟩
      ·rw [if_neg c8] at H
       exact absurd H (by simp)
    ·rw [if_neg c5] at H
     have c5b0 : (t155 == 0) = false := beq_eq_false_iff_ne.mpr c5
     have c5b1 : (t155 != 0) = true := bne_iff_ne.mpr c5
     by_cases c9 : t155 ≥ 192
     ·rw [if_pos c9] at H
      have c9b0 : decide (192 ≤ t155) = true := decide_eq_true c9
      clear c9
      replace H := Option.bind_eq_some_iff.mp H
      obtain ⟨⟨t160, t161⟩, A100, H⟩ := H
      replace H : (if t161 = true then (if (wrap64 (t160 - 49152)) ≥ x9_1 then ((wellspringref04_bad.f 3).bind fun bt165 => (some (bt165.1, bt165.2.1, bt165.2.2))) else (if x8_1 < 0 then (wellspringref04_Read.l0 k1 a0 (wrap64 (t160 - 49152)) x7_1 (wrap64 (x1_1 + 2)) (wrap64 (t160 - 49152))) else (wellspringref04_Read.l0 k1 a0 (wrap64 (t160 - 49152)) x7_1 x8_1 (wrap64 (t160 - 49152))))) else ((wellspringref04_bad.f 2).bind fun bt162 => (some (bt162.1, bt162.2.1, bt162.2.2)))) = some (r1, r2, r3) := H
      have A10 := Aside0.mk A100
      clear A100
      by_cases c11 : t161 = true
      ·subst c11
       have H1 : (if (wrap64 (t160 - 49152)) ≥ x9_1 then ((wellspringref04_bad.f 3).bind fun bt165 => (some (bt165.1, bt165.2.1, bt165.2.2))) else (if x8_1 < 0 then (wellspringref04_Read.l0 k1 a0 (wrap64 (t160 - 49152)) x7_1 (wrap64 (x1_1 + 2)) (wrap64 (t160 - 49152))) else (wellspringref04_Read.l0 k1 a0 (wrap64 (t160 - 49152)) x7_1 x8_1 (wrap64 (t160 - 49152))))) = some (r1, r2, r3) := by rw [if_pos rfl] at H; exact H
       clear H
       have H := H1
       clear H1
       by_cases c12 : (wrap64 (t160 - 49152)) ≥ x9_1
       ·rw [if_pos c12] at H
        have c12b0 : decide (x9_1 ≤ (wrap64 (t160 - 49152))) = true := decide_eq_true c12
        (try (have c12b1 : decide (x9_1 ≤ ((t160 - 49152))) = true := by have h_ : decide (x9_1 ≤ (wrap64 (t160 - 49152))) = true := decide_eq_true c12; rw [Go.Proofs.Ytdkkanpbcifkfaa.B.w64 (by omega) (by omega)] at h_; exact h_))
        clear c12
        replace H := Option.bind_eq_some_iff.mp H
        obtain ⟨⟨t165, t166, t167⟩, A130, H⟩ := H
        replace H : (some (t165, t166, t167)) = some (r1, r2, r3) := H
        have A13 := Aside0.mk A130
        clear A130
        simp only [Option.some.injEq, Prod.mk.injEq] at H
        obtain ⟨rfl, rfl, rfl⟩ := H
        go_wp2_with (first | ((with_reducible refine gate_callee (f := 60) rfl ?_); refine goesL_ (some 20) rfl rfl Try.func60 (by kernel_rfl) rfl #[.string a0, .int .i64 x1_1, .int .i64 1] rfl (by (try simp only [List.map_toArray, List.map_cons, List.map_nil]); first | done | rfl | (simp only [List.length_drop, List.length_take]; rfl) | (simp only [ByteArray.size_append, Int.natCast_add]; rfl) | (rw [Go.Proofs.Ytdkkanpbcifkfaa.B.w64] <;> first | rfl | omega | (simp only [decide_eq_false_iff_not, decide_eq_true_eq, Int.not_lt, Nat.not_lt, gt_iff_lt] at * <;> omega))) ?_; (with_reducible refine (wellspringref01_Get.calls k1 a0 x1_1 1 t155 true _ A3.out).mono ?_); rintro e w' ⟨rfl, ⟨nd, rfl⟩⟩; refine ⟨_, rfl, ?_⟩) | ((with_reducible refine gate_callee (f := 60) rfl ?_); refine goesL_ (some 43) rfl rfl Try.func60 (by kernel_rfl) rfl #[.string a0, .int .i64 x1_1, .int .i64 2] rfl (by (try simp only [List.map_toArray, List.map_cons, List.map_nil]); first | done | rfl | (simp only [List.length_drop, List.length_take]; rfl) | (simp only [ByteArray.size_append, Int.natCast_add]; rfl) | (rw [Go.Proofs.Ytdkkanpbcifkfaa.B.w64] <;> first | rfl | omega | (simp only [decide_eq_false_iff_not, decide_eq_true_eq, Int.not_lt, Nat.not_lt, gt_iff_lt] at * <;> omega))) ?_; (with_reducible refine (wellspringref01_Get.calls k1 a0 x1_1 2 t160 true _ A10.out).mono ?_); rintro e w' ⟨rfl, ⟨nd, rfl⟩⟩; refine ⟨_, rfl, ?_⟩) | ((with_reducible refine gate_callee (f := 61) rfl ?_); refine goesL_ (some 56) rfl rfl Try.func61 (by kernel_rfl) rfl #[.int .i64 3] rfl (by (try simp only [List.map_toArray, List.map_cons, List.map_nil]); first | done | rfl | (simp only [List.length_drop, List.length_take]; rfl) | (simp only [ByteArray.size_append, Int.natCast_add]; rfl) | (rw [Go.Proofs.Ytdkkanpbcifkfaa.B.w64] <;> first | rfl | omega | (simp only [decide_eq_false_iff_not, decide_eq_true_eq, Int.not_lt, Nat.not_lt, gt_iff_lt] at * <;> omega))) ?_; (with_reducible refine (wellspringref04_bad.calls 3 t165 t166 t167 _ A13.out).mono ?_); rintro e w' ⟨rfl, ⟨nd, rfl⟩⟩; refine ⟨_, rfl, ?_⟩))
        go_ret3
        exact ⟨by first | rfl | (simp; done) | (simp [*]; done), by repeat (first | exact Drawn0.refl _ | apply Drawn0.step)⟩
       ·rw [if_neg c12] at H
        have c12b0 : decide (x9_1 ≤ (wrap64 (t160 - 49152))) = false := decide_eq_false c12
        (try (have c12b1 : decide (x9_1 ≤ ((t160 - 49152))) = false := by have h_ : decide (x9_1 ≤ (wrap64 (t160 - 49152))) = false := decide_eq_false c12; rw [Go.Proofs.Ytdkkanpbcifkfaa.B.w64 (by omega) (by omega)] at h_; exact h_))
        clear c12
        by_cases c14 : x8_1 < 0
        ·rw [if_pos c14] at H
         have c14b0 : decide (x8_1 < 0) = true := decide_eq_true c14
         clear c14
         have H' := Aside0.mk H
         clear H
         go_wp2_with (first | ((with_reducible refine gate_callee (f := 60) rfl ?_); refine goesL_ (some 20) rfl rfl Try.func60 (by kernel_rfl) rfl #[.string a0, .int .i64 x1_1, .int .i64 1] rfl (by (try simp only [List.map_toArray, List.map_cons, List.map_nil]); first | done | rfl | (simp only [List.length_drop, List.length_take]; rfl) | (simp only [ByteArray.size_append, Int.natCast_add]; rfl) | (rw [Go.Proofs.Ytdkkanpbcifkfaa.B.w64] <;> first | rfl | omega | (simp only [decide_eq_false_iff_not, decide_eq_true_eq, Int.not_lt, Nat.not_lt, gt_iff_lt] at * <;> omega))) ?_; (with_reducible refine (wellspringref01_Get.calls k1 a0 x1_1 1 t155 true _ A3.out).mono ?_); rintro e w' ⟨rfl, ⟨nd, rfl⟩⟩; refine ⟨_, rfl, ?_⟩) | ((with_reducible refine gate_callee (f := 60) rfl ?_); refine goesL_ (some 43) rfl rfl Try.func60 (by kernel_rfl) rfl #[.string a0, .int .i64 x1_1, .int .i64 2] rfl (by (try simp only [List.map_toArray, List.map_cons, List.map_nil]); first | done | rfl | (simp only [List.length_drop, List.length_take]; rfl) | (simp only [ByteArray.size_append, Int.natCast_add]; rfl) | (rw [Go.Proofs.Ytdkkanpbcifkfaa.B.w64] <;> first | rfl | omega | (simp only [decide_eq_false_iff_not, decide_eq_true_eq, Int.not_lt, Nat.not_lt, gt_iff_lt] at * <;> omega))) ?_; (with_reducible refine (wellspringref01_Get.calls k1 a0 x1_1 2 t160 true _ A10.out).mono ?_); rintro e w' ⟨rfl, ⟨nd, rfl⟩⟩; refine ⟨_, rfl, ?_⟩))
         go_roundg k1
         case measure => have := HK1.out; omega
         case rel => exact ⟨(wrap64 (t160 - 49152)), (x7_1), (wrap64 (x1_1 + 2)), (wrap64 (t160 - 49152)), (by first | rfl | (simp; done) | (simp [*]; done) | (simp [Go.Proofs.Ytdkkanpbcifkfaa.B.beq_not_bne]; done) | (simp [Go.Proofs.Ytdkkanpbcifkfaa.B.bne_not_beq]; done)), (by first | rfl | (simp; done) | (simp [*]; done) | (simp [Go.Proofs.Ytdkkanpbcifkfaa.B.beq_not_bne]; done) | (simp [Go.Proofs.Ytdkkanpbcifkfaa.B.bne_not_beq]; done)), (by first | rfl | (simp; done) | (simp [*]; done) | (simp [Go.Proofs.Ytdkkanpbcifkfaa.B.beq_not_bne]; done) | (simp [Go.Proofs.Ytdkkanpbcifkfaa.B.bne_not_beq]; done)), (by first | rfl | (simp; done) | (simp [*]; done) | (simp [Go.Proofs.Ytdkkanpbcifkfaa.B.beq_not_bne]; done) | (simp [Go.Proofs.Ytdkkanpbcifkfaa.B.bne_not_beq]; done)), H', ⟨by have := HK1.out; omega⟩, by repeat (first | exact Drawn0.refl _ | apply Drawn0.step)⟩
        ·rw [if_neg c14] at H
         have c14b0 : decide (x8_1 < 0) = false := decide_eq_false c14
         clear c14
         have H' := Aside0.mk H
         clear H
         go_wp2_with (first | ((with_reducible refine gate_callee (f := 60) rfl ?_); refine goesL_ (some 20) rfl rfl Try.func60 (by kernel_rfl) rfl #[.string a0, .int .i64 x1_1, .int .i64 1] rfl (by (try simp only [List.map_toArray, List.map_cons, List.map_nil]); first | done | rfl | (simp only [List.length_drop, List.length_take]; rfl) | (simp only [ByteArray.size_append, Int.natCast_add]; rfl) | (rw [Go.Proofs.Ytdkkanpbcifkfaa.B.w64] <;> first | rfl | omega | (simp only [decide_eq_false_iff_not, decide_eq_true_eq, Int.not_lt, Nat.not_lt, gt_iff_lt] at * <;> omega))) ?_; (with_reducible refine (wellspringref01_Get.calls k1 a0 x1_1 1 t155 true _ A3.out).mono ?_); rintro e w' ⟨rfl, ⟨nd, rfl⟩⟩; refine ⟨_, rfl, ?_⟩) | ((with_reducible refine gate_callee (f := 60) rfl ?_); refine goesL_ (some 43) rfl rfl Try.func60 (by kernel_rfl) rfl #[.string a0, .int .i64 x1_1, .int .i64 2] rfl (by (try simp only [List.map_toArray, List.map_cons, List.map_nil]); first | done | rfl | (simp only [List.length_drop, List.length_take]; rfl) | (simp only [ByteArray.size_append, Int.natCast_add]; rfl) | (rw [Go.Proofs.Ytdkkanpbcifkfaa.B.w64] <;> first | rfl | omega | (simp only [decide_eq_false_iff_not, decide_eq_true_eq, Int.not_lt, Nat.not_lt, gt_iff_lt] at * <;> omega))) ?_; (with_reducible refine (wellspringref01_Get.calls k1 a0 x1_1 2 t160 true _ A10.out).mono ?_); rintro e w' ⟨rfl, ⟨nd, rfl⟩⟩; refine ⟨_, rfl, ?_⟩))
         go_roundg k1
         case measure => have := HK1.out; omega
         case rel => exact ⟨(wrap64 (t160 - 49152)), (x7_1), (x8_1), (wrap64 (t160 - 49152)), (by first | rfl | (simp; done) | (simp [*]; done) | (simp [Go.Proofs.Ytdkkanpbcifkfaa.B.beq_not_bne]; done) | (simp [Go.Proofs.Ytdkkanpbcifkfaa.B.bne_not_beq]; done)), (by first | rfl | (simp; done) | (simp [*]; done) | (simp [Go.Proofs.Ytdkkanpbcifkfaa.B.beq_not_bne]; done) | (simp [Go.Proofs.Ytdkkanpbcifkfaa.B.bne_not_beq]; done)), (by first | rfl | (simp; done) | (simp [*]; done) | (simp [Go.Proofs.Ytdkkanpbcifkfaa.B.beq_not_bne]; done) | (simp [Go.Proofs.Ytdkkanpbcifkfaa.B.bne_not_beq]; done)), (by first | rfl | (simp; done) | (simp [*]; done) | (simp [Go.Proofs.Ytdkkanpbcifkfaa.B.beq_not_bne]; done) | (simp [Go.Proofs.Ytdkkanpbcifkfaa.B.bne_not_beq]; done)), H', ⟨by have := HK1.out; omega⟩, by repeat (first | exact Drawn0.refl _ | apply Drawn0.step)⟩
      ·replace c11 := Bool.eq_false_iff.mpr c11
       subst c11
       have H1 : ((wellspringref04_bad.f 2).bind fun bt162 => (some (bt162.1, bt162.2.1, bt162.2.2))) = some (r1, r2, r3) := by rw [if_neg (show ¬ (false = true) by decide)] at H; exact H
       clear H
       have H := H1
       clear H1
       replace H := Option.bind_eq_some_iff.mp H
       obtain ⟨⟨t162, t163, t164⟩, A150, H⟩ := H
       replace H : (some (t162, t163, t164)) = some (r1, r2, r3) := H
       have A15 := Aside0.mk A150
       clear A150
       simp only [Option.some.injEq, Prod.mk.injEq] at H
       obtain ⟨rfl, rfl, rfl⟩ := H
       go_wp2_with (first | ((with_reducible refine gate_callee (f := 60) rfl ?_); refine goesL_ (some 20) rfl rfl Try.func60 (by kernel_rfl) rfl #[.string a0, .int .i64 x1_1, .int .i64 1] rfl (by (try simp only [List.map_toArray, List.map_cons, List.map_nil]); first | done | rfl | (simp only [List.length_drop, List.length_take]; rfl) | (simp only [ByteArray.size_append, Int.natCast_add]; rfl) | (rw [Go.Proofs.Ytdkkanpbcifkfaa.B.w64] <;> first | rfl | omega | (simp only [decide_eq_false_iff_not, decide_eq_true_eq, Int.not_lt, Nat.not_lt, gt_iff_lt] at * <;> omega))) ?_; (with_reducible refine (wellspringref01_Get.calls k1 a0 x1_1 1 t155 true _ A3.out).mono ?_); rintro e w' ⟨rfl, ⟨nd, rfl⟩⟩; refine ⟨_, rfl, ?_⟩) | ((with_reducible refine gate_callee (f := 60) rfl ?_); refine goesL_ (some 43) rfl rfl Try.func60 (by kernel_rfl) rfl #[.string a0, .int .i64 x1_1, .int .i64 2] rfl (by (try simp only [List.map_toArray, List.map_cons, List.map_nil]); first | done | rfl | (simp only [List.length_drop, List.length_take]; rfl) | (simp only [ByteArray.size_append, Int.natCast_add]; rfl) | (rw [Go.Proofs.Ytdkkanpbcifkfaa.B.w64] <;> first | rfl | omega | (simp only [decide_eq_false_iff_not, decide_eq_true_eq, Int.not_lt, Nat.not_lt, gt_iff_lt] at * <;> omega))) ?_; (with_reducible refine (wellspringref01_Get.calls k1 a0 x1_1 2 t160 false _ A10.out).mono ?_); rintro e w' ⟨rfl, ⟨nd, rfl⟩⟩; refine ⟨_, rfl, ?_⟩) | ((with_reducible refine gate_callee (f := 61) rfl ?_); refine goesL_ (some 48) rfl rfl Try.func61 (by kernel_rfl) rfl #[.int .i64 2] rfl (by (try simp only [List.map_toArray, List.map_cons, List.map_nil]); first | done | rfl | (simp only [List.length_drop, List.length_take]; rfl) | (simp only [ByteArray.size_append, Int.natCast_add]; rfl) | (rw [Go.Proofs.Ytdkkanpbcifkfaa.B.w64] <;> first | rfl | omega | (simp only [decide_eq_false_iff_not, decide_eq_true_eq, Int.not_lt, Nat.not_lt, gt_iff_lt] at * <;> omega))) ?_; (with_reducible refine (wellspringref04_bad.calls 2 t162 t163 t164 _ A15.out).mono ?_); rintro e w' ⟨rfl, ⟨nd, rfl⟩⟩; refine ⟨_, rfl, ?_⟩))
       go_ret3
       exact ⟨by first | rfl | (simp; done) | (simp [*]; done), by repeat (first | exact Drawn0.refl _ | apply Drawn0.step)⟩
     ·rw [if_neg c9] at H
      have c9b0 : decide (192 ≤ t155) = false := decide_eq_false c9
      clear c9
      by_cases c16 : t155 > 63
      ·rw [if_pos c16] at H
       have c16b0 : decide (63 < t155) = true := decide_eq_true c16
       clear c16
       replace H := Option.bind_eq_some_iff.mp H
       obtain ⟨⟨t168, t169, t170⟩, A170, H⟩ := H
       replace H : (some (t168, t169, t170)) = some (r1, r2, r3) := H
       have A17 := Aside0.mk A170
       clear A170
       simp only [Option.some.injEq, Prod.mk.injEq] at H
       obtain ⟨rfl, rfl, rfl⟩ := H
       go_wp2_with (first | ((with_reducible refine gate_callee (f := 60) rfl ?_); refine goesL_ (some 20) rfl rfl Try.func60 (by kernel_rfl) rfl #[.string a0, .int .i64 x1_1, .int .i64 1] rfl (by (try simp only [List.map_toArray, List.map_cons, List.map_nil]); first | done | rfl | (simp only [List.length_drop, List.length_take]; rfl) | (simp only [ByteArray.size_append, Int.natCast_add]; rfl) | (rw [Go.Proofs.Ytdkkanpbcifkfaa.B.w64] <;> first | rfl | omega | (simp only [decide_eq_false_iff_not, decide_eq_true_eq, Int.not_lt, Nat.not_lt, gt_iff_lt] at * <;> omega))) ?_; (with_reducible refine (wellspringref01_Get.calls k1 a0 x1_1 1 t155 true _ A3.out).mono ?_); rintro e w' ⟨rfl, ⟨nd, rfl⟩⟩; refine ⟨_, rfl, ?_⟩) | ((with_reducible refine gate_callee (f := 61) rfl ?_); refine goesL_ (some 69) rfl rfl Try.func61 (by kernel_rfl) rfl #[.int .i64 3] rfl (by (try simp only [List.map_toArray, List.map_cons, List.map_nil]); first | done | rfl | (simp only [List.length_drop, List.length_take]; rfl) | (simp only [ByteArray.size_append, Int.natCast_add]; rfl) | (rw [Go.Proofs.Ytdkkanpbcifkfaa.B.w64] <;> first | rfl | omega | (simp only [decide_eq_false_iff_not, decide_eq_true_eq, Int.not_lt, Nat.not_lt, gt_iff_lt] at * <;> omega))) ?_; (with_reducible refine (wellspringref04_bad.calls 3 t168 t169 t170 _ A17.out).mono ?_); rintro e w' ⟨rfl, ⟨nd, rfl⟩⟩; refine ⟨_, rfl, ?_⟩))
       go_ret3
       exact ⟨by first | rfl | (simp; done) | (simp [*]; done), by repeat (first | exact Drawn0.refl _ | apply Drawn0.step)⟩
      ·rw [if_neg c16] at H
       have c16b0 : decide (63 < t155) = false := decide_eq_false c16
       clear c16
       replace H := Option.bind_eq_some_iff.mp H
       obtain ⟨⟨t171, t172⟩, A180, H⟩ := H
       replace H : (if t172 = true then (if x7_1.size + t171.size ≤ 9223372036854775807 then (if (wrap64 (((x7_1 ++ t171).size : Int) + 1)) > 255 then ((wellspringref04_bad.f 3).bind fun bt173 => (some (bt173.1, bt173.2.1, bt173.2.2))) else (wellspringref04_Read.l0 k1 a0 (wrap64 ((wrap64 (x1_1 + t155)) + 1)) (x7_1 ++ t171) x8_1 x9_1)) else (none)) else ((wellspringref04_bad.f 2).bind fun bt176 => (some (bt176.1, bt176.2.1, bt176.2.2)))) = some (r1, r2, r3) := H
       have A18 := Aside0.mk A180
       clear A180
       by_cases c19 : t172 = true
       ·subst c19
        have H1 : (if x7_1.size + t171.size ≤ 9223372036854775807 then (if (wrap64 (((x7_1 ++ t171).size : Int) + 1)) > 255 then ((wellspringref04_bad.f 3).bind fun bt173 => (some (bt173.1, bt173.2.1, bt173.2.2))) else (wellspringref04_Read.l0 k1 a0 (wrap64 ((wrap64 (x1_1 + t155)) + 1)) (x7_1 ++ t171) x8_1 x9_1)) else (none)) = some (r1, r2, r3) := by rw [if_pos rfl] at H; exact H
        clear H
        have H := H1
        clear H1
        by_cases c20 : x7_1.size + t171.size ≤ 9223372036854775807
        ·rw [if_pos c20] at H
         have c20b0 := eq_true c20
         have c20b1 : decide (x7_1.size + t171.size ≤ 9223372036854775807) = true := decide_eq_true c20
         try have c20b2 : (9223372036854775807 < x7_1.size + t171.size) = False := eq_false (Nat.not_lt.2 c20)
         by_cases c21 : (wrap64 (((x7_1 ++ t171).size : Int) + 1)) > 255
         ·rw [if_pos c21] at H
          have c21b0 : decide (255 < (wrap64 (((x7_1 ++ t171).size : Int) + 1))) = true := decide_eq_true c21
          (try (have c21b1 : decide (255 < (wrap64 (((x7_1.size : Int) + (t171.size : Int)) + 1))) = true := by have h_ : decide (255 < (wrap64 (((x7_1 ++ t171).size : Int) + 1))) = true := decide_eq_true c21; rw [show ((x7_1 ++ t171).size : Int) = ((x7_1.size : Int) + (t171.size : Int)) from by (simp only [ByteArray.size_append, Int.natCast_add]; first | done | rfl)] at h_; (first | exact h_ | (simp only [Int.add_sub_cancel] at h_; exact h_))))
          (try (have c21b2 : decide (255 < ((((x7_1 ++ t171).size : Int) + 1))) = true := by have h_ : decide (255 < (wrap64 (((x7_1 ++ t171).size : Int) + 1))) = true := decide_eq_true c21; rw [Go.Proofs.Ytdkkanpbcifkfaa.B.w64 (by omega) (by omega)] at h_; exact h_))
          (try (have c21b3 : decide (255 < ((((x7_1.size : Int) + (t171.size : Int)) + 1))) = true := by have h_ : decide (255 < (wrap64 (((x7_1.size : Int) + (t171.size : Int)) + 1))) = true := by have h_ : decide (255 < (wrap64 (((x7_1 ++ t171).size : Int) + 1))) = true := decide_eq_true c21; rw [show ((x7_1 ++ t171).size : Int) = ((x7_1.size : Int) + (t171.size : Int)) from by (simp only [ByteArray.size_append, Int.natCast_add]; first | done | rfl)] at h_; (first | exact h_ | (simp only [Int.add_sub_cancel] at h_; exact h_)); rw [Go.Proofs.Ytdkkanpbcifkfaa.B.w64 (by omega) (by omega)] at h_; exact h_))
          clear c21
          replace H := Option.bind_eq_some_iff.mp H
          obtain ⟨⟨t173, t174, t175⟩, A220, H⟩ := H
          replace H : (some (t173, t174, t175)) = some (r1, r2, r3) := H
          have A22 := Aside0.mk A220
          clear A220
          simp only [Option.some.injEq, Prod.mk.injEq] at H
          obtain ⟨rfl, rfl, rfl⟩ := H
          go_wp2_with (first | ((with_reducible refine gate_callee (f := 60) rfl ?_); refine goesL_ (some 20) rfl rfl Try.func60 (by kernel_rfl) rfl #[.string a0, .int .i64 x1_1, .int .i64 1] rfl (by (try simp only [List.map_toArray, List.map_cons, List.map_nil]); first | done | rfl | (simp only [List.length_drop, List.length_take]; rfl) | (simp only [ByteArray.size_append, Int.natCast_add]; rfl) | (rw [Go.Proofs.Ytdkkanpbcifkfaa.B.w64] <;> first | rfl | omega | (simp only [decide_eq_false_iff_not, decide_eq_true_eq, Int.not_lt, Nat.not_lt, gt_iff_lt] at * <;> omega))) ?_; (with_reducible refine (wellspringref01_Get.calls k1 a0 x1_1 1 t155 true _ A3.out).mono ?_); rintro e w' ⟨rfl, ⟨nd, rfl⟩⟩; refine ⟨_, rfl, ?_⟩) | ((with_reducible refine gate_callee (f := 37) rfl ?_); refine goesL_ (some 78) rfl rfl Try.func37 (by kernel_rfl) rfl #[.string a0, .int .i64 x1_1, .int .i64 (wrap64 (t155 + 1))] rfl (by (try simp only [List.map_toArray, List.map_cons, List.map_nil]); first | done | rfl | (simp only [List.length_drop, List.length_take]; rfl) | (simp only [ByteArray.size_append, Int.natCast_add]; rfl) | (rw [Go.Proofs.Ytdkkanpbcifkfaa.B.w64] <;> first | rfl | omega | (simp only [decide_eq_false_iff_not, decide_eq_true_eq, Int.not_lt, Nat.not_lt, gt_iff_lt] at * <;> omega))) ?_; (with_reducible refine (wellspringref01_Take.calls a0 x1_1 (wrap64 (t155 + 1)) t171 true _ A18.out).mono ?_); rintro e w' ⟨rfl, ⟨nd, rfl⟩⟩; refine ⟨_, rfl, ?_⟩) | ((with_reducible refine gate_callee (f := 61) rfl ?_); refine goesL_ (some 94) rfl rfl Try.func61 (by kernel_rfl) rfl #[.int .i64 3] rfl (by (try simp only [List.map_toArray, List.map_cons, List.map_nil]); first | done | rfl | (simp only [List.length_drop, List.length_take]; rfl) | (simp only [ByteArray.size_append, Int.natCast_add]; rfl) | (rw [Go.Proofs.Ytdkkanpbcifkfaa.B.w64] <;> first | rfl | omega | (simp only [decide_eq_false_iff_not, decide_eq_true_eq, Int.not_lt, Nat.not_lt, gt_iff_lt] at * <;> omega))) ?_; (with_reducible refine (wellspringref04_bad.calls 3 t173 t174 t175 _ A22.out).mono ?_); rintro e w' ⟨rfl, ⟨nd, rfl⟩⟩; refine ⟨_, rfl, ?_⟩))
          go_ret3
          exact ⟨by first | rfl | (simp; done) | (simp [*]; done), by repeat (first | exact Drawn0.refl _ | apply Drawn0.step)⟩
         ·rw [if_neg c21] at H
          have c21b0 : decide (255 < (wrap64 (((x7_1 ++ t171).size : Int) + 1))) = false := decide_eq_false c21
          (try (have c21b1 : decide (255 < (wrap64 (((x7_1.size : Int) + (t171.size : Int)) + 1))) = false := by have h_ : decide (255 < (wrap64 (((x7_1 ++ t171).size : Int) + 1))) = false := decide_eq_false c21; rw [show ((x7_1 ++ t171).size : Int) = ((x7_1.size : Int) + (t171.size : Int)) from by (simp only [ByteArray.size_append, Int.natCast_add]; first | done | rfl)] at h_; (first | exact h_ | (simp only [Int.add_sub_cancel] at h_; exact h_))))
          (try (have c21b2 : decide (255 < ((((x7_1 ++ t171).size : Int) + 1))) = false := by have h_ : decide (255 < (wrap64 (((x7_1 ++ t171).size : Int) + 1))) = false := decide_eq_false c21; rw [Go.Proofs.Ytdkkanpbcifkfaa.B.w64 (by omega) (by omega)] at h_; exact h_))
          (try (have c21b3 : decide (255 < ((((x7_1.size : Int) + (t171.size : Int)) + 1))) = false := by have h_ : decide (255 < (wrap64 (((x7_1.size : Int) + (t171.size : Int)) + 1))) = false := by have h_ : decide (255 < (wrap64 (((x7_1 ++ t171).size : Int) + 1))) = false := decide_eq_false c21; rw [show ((x7_1 ++ t171).size : Int) = ((x7_1.size : Int) + (t171.size : Int)) from by (simp only [ByteArray.size_append, Int.natCast_add]; first | done | rfl)] at h_; (first | exact h_ | (simp only [Int.add_sub_cancel] at h_; exact h_)); rw [Go.Proofs.Ytdkkanpbcifkfaa.B.w64 (by omega) (by omega)] at h_; exact h_))
          clear c21
          have H' := Aside0.mk H
          clear H
          go_wp2_with (first | ((with_reducible refine gate_callee (f := 60) rfl ?_); refine goesL_ (some 20) rfl rfl Try.func60 (by kernel_rfl) rfl #[.string a0, .int .i64 x1_1, .int .i64 1] rfl (by (try simp only [List.map_toArray, List.map_cons, List.map_nil]); first | done | rfl | (simp only [List.length_drop, List.length_take]; rfl) | (simp only [ByteArray.size_append, Int.natCast_add]; rfl) | (rw [Go.Proofs.Ytdkkanpbcifkfaa.B.w64] <;> first | rfl | omega | (simp only [decide_eq_false_iff_not, decide_eq_true_eq, Int.not_lt, Nat.not_lt, gt_iff_lt] at * <;> omega))) ?_; (with_reducible refine (wellspringref01_Get.calls k1 a0 x1_1 1 t155 true _ A3.out).mono ?_); rintro e w' ⟨rfl, ⟨nd, rfl⟩⟩; refine ⟨_, rfl, ?_⟩) | ((with_reducible refine gate_callee (f := 37) rfl ?_); refine goesL_ (some 78) rfl rfl Try.func37 (by kernel_rfl) rfl #[.string a0, .int .i64 x1_1, .int .i64 (wrap64 (t155 + 1))] rfl (by (try simp only [List.map_toArray, List.map_cons, List.map_nil]); first | done | rfl | (simp only [List.length_drop, List.length_take]; rfl) | (simp only [ByteArray.size_append, Int.natCast_add]; rfl) | (rw [Go.Proofs.Ytdkkanpbcifkfaa.B.w64] <;> first | rfl | omega | (simp only [decide_eq_false_iff_not, decide_eq_true_eq, Int.not_lt, Nat.not_lt, gt_iff_lt] at * <;> omega))) ?_; (with_reducible refine (wellspringref01_Take.calls a0 x1_1 (wrap64 (t155 + 1)) t171 true _ A18.out).mono ?_); rintro e w' ⟨rfl, ⟨nd, rfl⟩⟩; refine ⟨_, rfl, ?_⟩))
          go_roundg k1
          case measure => have := HK1.out; omega
          case rel => exact ⟨(wrap64 ((wrap64 (x1_1 + t155)) + 1)), (x7_1 ++ t171), (x8_1), (x9_1), (by first | rfl | (simp; done) | (simp [*]; done) | (simp [Go.Proofs.Ytdkkanpbcifkfaa.B.beq_not_bne]; done) | (simp [Go.Proofs.Ytdkkanpbcifkfaa.B.bne_not_beq]; done)), (by first | rfl | (simp; done) | (simp [*]; done) | (simp [Go.Proofs.Ytdkkanpbcifkfaa.B.beq_not_bne]; done) | (simp [Go.Proofs.Ytdkkanpbcifkfaa.B.bne_not_beq]; done)), (by first | rfl | (simp; done) | (simp [*]; done) | (simp [Go.Proofs.Ytdkkanpbcifkfaa.B.beq_not_bne]; done) | (simp [Go.Proofs.Ytdkkanpbcifkfaa.B.bne_not_beq]; done)), (by first | rfl | (simp; done) | (simp [*]; done) | (simp [Go.Proofs.Ytdkkanpbcifkfaa.B.beq_not_bne]; done) | (simp [Go.Proofs.Ytdkkanpbcifkfaa.B.bne_not_beq]; done)), H', ⟨by have := HK1.out; omega⟩, by repeat (first | exact Drawn0.refl _ | apply Drawn0.step)⟩
        ·rw [if_neg c20] at H
         exact absurd H (by simp)
       ·replace c19 := Bool.eq_false_iff.mpr c19
        subst c19
        have H1 : ((wellspringref04_bad.f 2).bind fun bt176 => (some (bt176.1, bt176.2.1, bt176.2.2))) = some (r1, r2, r3) := by rw [if_neg (show ¬ (false = true) by decide)] at H; exact H
        clear H
        have H := H1
        clear H1
        replace H := Option.bind_eq_some_iff.mp H
        obtain ⟨⟨t176, t177, t178⟩, A230, H⟩ := H
        replace H : (some (t176, t177, t178)) = some (r1, r2, r3) := H
        have A23 := Aside0.mk A230
        clear A230
        simp only [Option.some.injEq, Prod.mk.injEq] at H
        obtain ⟨rfl, rfl, rfl⟩ := H
        go_wp2_with (first | ((with_reducible refine gate_callee (f := 60) rfl ?_); refine goesL_ (some 20) rfl rfl Try.func60 (by kernel_rfl) rfl #[.string a0, .int .i64 x1_1, .int .i64 1] rfl (by (try simp only [List.map_toArray, List.map_cons, List.map_nil]); first | done | rfl | (simp only [List.length_drop, List.length_take]; rfl) | (simp only [ByteArray.size_append, Int.natCast_add]; rfl) | (rw [Go.Proofs.Ytdkkanpbcifkfaa.B.w64] <;> first | rfl | omega | (simp only [decide_eq_false_iff_not, decide_eq_true_eq, Int.not_lt, Nat.not_lt, gt_iff_lt] at * <;> omega))) ?_; (with_reducible refine (wellspringref01_Get.calls k1 a0 x1_1 1 t155 true _ A3.out).mono ?_); rintro e w' ⟨rfl, ⟨nd, rfl⟩⟩; refine ⟨_, rfl, ?_⟩) | ((with_reducible refine gate_callee (f := 37) rfl ?_); refine goesL_ (some 78) rfl rfl Try.func37 (by kernel_rfl) rfl #[.string a0, .int .i64 x1_1, .int .i64 (wrap64 (t155 + 1))] rfl (by (try simp only [List.map_toArray, List.map_cons, List.map_nil]); first | done | rfl | (simp only [List.length_drop, List.length_take]; rfl) | (simp only [ByteArray.size_append, Int.natCast_add]; rfl) | (rw [Go.Proofs.Ytdkkanpbcifkfaa.B.w64] <;> first | rfl | omega | (simp only [decide_eq_false_iff_not, decide_eq_true_eq, Int.not_lt, Nat.not_lt, gt_iff_lt] at * <;> omega))) ?_; (with_reducible refine (wellspringref01_Take.calls a0 x1_1 (wrap64 (t155 + 1)) t171 false _ A18.out).mono ?_); rintro e w' ⟨rfl, ⟨nd, rfl⟩⟩; refine ⟨_, rfl, ?_⟩) | ((with_reducible refine gate_callee (f := 61) rfl ?_); refine goesL_ (some 83) rfl rfl Try.func61 (by kernel_rfl) rfl #[.int .i64 2] rfl (by (try simp only [List.map_toArray, List.map_cons, List.map_nil]); first | done | rfl | (simp only [List.length_drop, List.length_take]; rfl) | (simp only [ByteArray.size_append, Int.natCast_add]; rfl) | (rw [Go.Proofs.Ytdkkanpbcifkfaa.B.w64] <;> first | rfl | omega | (simp only [decide_eq_false_iff_not, decide_eq_true_eq, Int.not_lt, Nat.not_lt, gt_iff_lt] at * <;> omega))) ?_; (with_reducible refine (wellspringref04_bad.calls 2 t176 t177 t178 _ A23.out).mono ?_); rintro e w' ⟨rfl, ⟨nd, rfl⟩⟩; refine ⟨_, rfl, ?_⟩))
        go_ret3
        exact ⟨by first | rfl | (simp; done) | (simp [*]; done), by repeat (first | exact Drawn0.refl _ | apply Drawn0.step)⟩
   ·replace c4 := Bool.eq_false_iff.mpr c4
    subst c4
    have H1 : ((wellspringref04_bad.f 2).bind fun bt157 => (some (bt157.1, bt157.2.1, bt157.2.2))) = some (r1, r2, r3) := by rw [if_neg (show ¬ (false = true) by decide)] at H; exact H
    clear H
    have H := H1
    clear H1
    replace H := Option.bind_eq_some_iff.mp H
    obtain ⟨⟨t157, t158, t159⟩, A240, H⟩ := H
    replace H : (some (t157, t158, t159)) = some (r1, r2, r3) := H
    have A24 := Aside0.mk A240
    clear A240
    simp only [Option.some.injEq, Prod.mk.injEq] at H
    obtain ⟨rfl, rfl, rfl⟩ := H
    go_wp2_with (first | ((with_reducible refine gate_callee (f := 60) rfl ?_); refine goesL_ (some 20) rfl rfl Try.func60 (by kernel_rfl) rfl #[.string a0, .int .i64 x1_1, .int .i64 1] rfl (by (try simp only [List.map_toArray, List.map_cons, List.map_nil]); first | done | rfl | (simp only [List.length_drop, List.length_take]; rfl) | (simp only [ByteArray.size_append, Int.natCast_add]; rfl) | (rw [Go.Proofs.Ytdkkanpbcifkfaa.B.w64] <;> first | rfl | omega | (simp only [decide_eq_false_iff_not, decide_eq_true_eq, Int.not_lt, Nat.not_lt, gt_iff_lt] at * <;> omega))) ?_; (with_reducible refine (wellspringref01_Get.calls k1 a0 x1_1 1 t155 false _ A3.out).mono ?_); rintro e w' ⟨rfl, ⟨nd, rfl⟩⟩; refine ⟨_, rfl, ?_⟩) | ((with_reducible refine gate_callee (f := 61) rfl ?_); refine goesL_ (some 25) rfl rfl Try.func61 (by kernel_rfl) rfl #[.int .i64 2] rfl (by (try simp only [List.map_toArray, List.map_cons, List.map_nil]); first | done | rfl | (simp only [List.length_drop, List.length_take]; rfl) | (simp only [ByteArray.size_append, Int.natCast_add]; rfl) | (rw [Go.Proofs.Ytdkkanpbcifkfaa.B.w64] <;> first | rfl | omega | (simp only [decide_eq_false_iff_not, decide_eq_true_eq, Int.not_lt, Nat.not_lt, gt_iff_lt] at * <;> omega))) ?_; (with_reducible refine (wellspringref04_bad.calls 2 t157 t158 t159 _ A24.out).mono ?_); rintro e w' ⟨rfl, ⟨nd, rfl⟩⟩; refine ⟨_, rfl, ?_⟩))
    go_ret3
    exact ⟨by first | rfl | (simp; done) | (simp [*]; done), by repeat (first | exact Drawn0.refl _ | apply Drawn0.step)⟩

end Go.Proofs.Ytdkkanpbcifkfaa.ZQ

-- Written by a program of this session (wip/tools/myprint.py), over the kit's printer; Lean checks it.
import Derived.Test.YtdkkanpbcifkfaaZQ0
namespace Go.Proofs.Ytdkkanpbcifkfaa.ZQ
open Go.RowKit Go.Proofs.YtdkkanpbcifkfaaW.PrintWords Go.Proofs.YtdkkanpbcifkfaaW.PrintLast Go.Proofs.YtdkkanpbcifkfaaW.PrintMore
attribute [local go_sem] max2_int min2_int max_two min_two max_three min_three max_four min_four   -- for this text's walks alone
set_option linter.unusedVariables false
set_option linter.unusedSimpArgs false

/-! ### wellspringref01_Take: function 37 -/
def wellspringref01_Take.f (a0 : ByteArray) (a1 : Int) (a2 : Int) : Option (ByteArray × Bool) := if a1 < 0 then (some ((⟨#[]⟩ : ByteArray), false)) else (if a2 < 0 then (some ((⟨#[]⟩ : ByteArray), false)) else (if a1 > (a0.size : Int) then (some ((⟨#[]⟩ : ByteArray), false)) else (if a2 > (wrap64 ((a0.size : Int) - a1)) then (some ((⟨#[]⟩ : ByteArray), false)) else (if 0 ≤ a1 then (if a1 ≤ (wrap64 (a1 + a2)) then (if (wrap64 (a1 + a2)) ≤ (a0.size : Int) then (some (a0.extract (a1 : Int).toNat ((wrap64 (a1 + a2)) : Int).toNat, true)) else (none)) else (none)) else (none)))))
set_option maxHeartbeats 8000000 in
set_option maxRecDepth 100000 in
theorem wellspringref01_Take.calls (a0 : ByteArray) (a1 : Int) (a2 : Int) (r1 : ByteArray) (r2 : Bool) (w : World) (h : wellspringref01_Take.f a0 a1 a2 = some (r1, r2)) :
  Calls Try.prog 37 #[.string a0, .int .i64 a1, .int .i64 a2] w fun e w' => e = .returned (.tuple #[.string r1, .bool r2]) ∧ Drawn0 w w' := by
 have H : (if a1 < 0 then (some ((⟨#[]⟩ : ByteArray), false)) else (if a2 < 0 then (some ((⟨#[]⟩ : ByteArray), false)) else (if a1 > (a0.size : Int) then (some ((⟨#[]⟩ : ByteArray), false)) else (if a2 > (wrap64 ((a0.size : Int) - a1)) then (some ((⟨#[]⟩ : ByteArray), false)) else (if 0 ≤ a1 then (if a1 ≤ (wrap64 (a1 + a2)) then (if (wrap64 (a1 + a2)) ≤ (a0.size : Int) then (some (a0.extract (a1 : Int).toNat ((wrap64 (a1 + a2)) : Int).toNat, true)) else (none)) else (none)) else (none)))))) = some (r1, r2) := h
 clear h
 by_cases c4 : a1 < 0
 ·rw [if_pos c4] at H
  have c4b0 : decide (a1 < 0) = true := decide_eq_true c4
  clear c4
  simp only [Option.some.injEq, Prod.mk.injEq] at H
  obtain ⟨rfl, rfl⟩ := H
  go_enter Try.func37, Try.ntmps37
  go_wp2
  go_ret2
  exact ⟨by first | rfl | (simp; done) | (simp [*]; done), by repeat (first | exact Drawn0.refl _ | apply Drawn0.step)⟩
 ·rw [if_neg c4] at H
  have c4b0 : decide (a1 < 0) = false := decide_eq_false c4
  clear c4
  by_cases c5 : a2 < 0
  ·rw [if_pos c5] at H
   have c5b0 : decide (a2 < 0) = true := decide_eq_true c5
   clear c5
   simp only [Option.some.injEq, Prod.mk.injEq] at H
   obtain ⟨rfl, rfl⟩ := H
   go_enter Try.func37, Try.ntmps37
   go_wp2
   go_ret2
   exact ⟨by first | rfl | (simp; done) | (simp [*]; done), by repeat (first | exact Drawn0.refl _ | apply Drawn0.step)⟩
  ·rw [if_neg c5] at H
   have c5b0 : decide (a2 < 0) = false := decide_eq_false c5
   clear c5
   by_cases c6 : a1 > (a0.size : Int)
   ·rw [if_pos c6] at H
    have c6b0 : decide ((a0.size : Int) < a1) = true := decide_eq_true c6
    clear c6
    simp only [Option.some.injEq, Prod.mk.injEq] at H
    obtain ⟨rfl, rfl⟩ := H
    go_enter Try.func37, Try.ntmps37
    go_wp2
    go_ret2
    exact ⟨by first | rfl | (simp; done) | (simp [*]; done), by repeat (first | exact Drawn0.refl _ | apply Drawn0.step)⟩
   ·rw [if_neg c6] at H
    have c6b0 : decide ((a0.size : Int) < a1) = false := decide_eq_false c6
    clear c6
    by_cases c7 : a2 > (wrap64 ((a0.size : Int) - a1))
    ·rw [if_pos c7] at H
     have c7b0 : decide ((wrap64 ((a0.size : Int) - a1)) < a2) = true := decide_eq_true c7
     (try (have c7b1 : decide ((((a0.size : Int) - a1)) < a2) = true := by have h_ : decide ((wrap64 ((a0.size : Int) - a1)) < a2) = true := decide_eq_true c7; rw [Go.Proofs.Ytdkkanpbcifkfaa.B.w64 (by omega) (by omega)] at h_; exact h_))
     clear c7
     simp only [Option.some.injEq, Prod.mk.injEq] at H
     obtain ⟨rfl, rfl⟩ := H
     go_enter Try.func37, Try.ntmps37
     go_wp2
     go_ret2
     exact ⟨by first | rfl | (simp; done) | (simp [*]; done), by repeat (first | exact Drawn0.refl _ | apply Drawn0.step)⟩
    ·rw [if_neg c7] at H
     have c7b0 : decide ((wrap64 ((a0.size : Int) - a1)) < a2) = false := decide_eq_false c7
     (try (have c7b1 : decide ((((a0.size : Int) - a1)) < a2) = false := by have h_ : decide ((wrap64 ((a0.size : Int) - a1)) < a2) = false := decide_eq_false c7; rw [Go.Proofs.Ytdkkanpbcifkfaa.B.w64 (by omega) (by omega)] at h_; exact h_))
     clear c7
     by_cases c8 : 0 ≤ a1
     ·rw [if_pos c8] at H
      have c8b0 := eq_true c8
      have c8b1 : decide (0 ≤ a1) = true := decide_eq_true c8
      clear c8
      by_cases c9 : a1 ≤ (wrap64 (a1 + a2))
      ·rw [if_pos c9] at H
       have c9b0 := eq_true c9
       have c9b1 : decide (a1 ≤ (wrap64 (a1 + a2))) = true := decide_eq_true c9
       by_cases c10 : (wrap64 (a1 + a2)) ≤ (a0.size : Int)
       ·rw [if_pos c10] at H
        have c10b0 := eq_true c10
        have c10b1 : decide ((wrap64 (a1 + a2)) ≤ (a0.size : Int)) = true := decide_eq_true c10
        simp only [Option.some.injEq, Prod.mk.injEq] at H
        obtain ⟨rfl, rfl⟩ := H
        go_enter Try.func37, Try.ntmps37
        go_wp2
        go_ret2
        exact ⟨by first | rfl | (simp; done) | (simp [*]; done), by repeat (first | exact Drawn0.refl _ | apply Drawn0.step)⟩
       ·rw [if_neg c10] at H
        exact absurd H (by simp)
      ·rw [if_neg c9] at H
       exact absurd H (by simp)
     ·rw [if_neg c8] at H
      exact absurd H (by simp)

/-! ### wellspringref01_Get: function 60 -/
mutual
def wellspringref01_Get.j0 : Nat → Int → ByteArray → Bool → Option (Int × Bool)
 | 0, _, _, _ => none
 | k + 1, x2, x8, x28 => if x28 = true then (some (0, false)) else (wellspringref01_Get.l0 k x2 x8 0 0)
def wellspringref01_Get.l0 : Nat → Int → ByteArray → Int → Int → Option (Int × Bool)
 | 0, _, _, _, _ => none
 | k + 1, x2, x8, x10, x11 => if x11 < x2 then (if 0 ≤ x11 then (if x11 < (x8.size : Int) then (wellspringref01_Get.l0 k x2 x8 (wrap64 ((wrap64 (256 * x10)) + (wrap64 (bt x8 x11)))) (wrap64 (x11 + 1))) else (none)) else (none)) else (some (x10, true))
end
def wellspringref01_Get.f (k : Nat) (a0 : ByteArray) (a1 : Int) (a2 : Int) : Option (Int × Bool) := (wellspringref01_Take.f a0 a1 a2).bind fun bt153 => (if bt153.2 = true then (if a2 < 1 then (wellspringref01_Get.j0 k a2 bt153.1 true) else (wellspringref01_Get.j0 k a2 bt153.1 (decide (a2 > 4)))) else (wellspringref01_Get.j0 k a2 bt153.1 true))
set_option maxHeartbeats 8000000 in
set_option maxRecDepth 100000 in
theorem wellspringref01_Get.calls (k : Nat) (a0 : ByteArray) (a1 : Int) (a2 : Int) (r1 : Int) (r2 : Bool) (w : World) (h : wellspringref01_Get.f k a0 a1 a2 = some (r1, r2)) :
  Calls Try.prog 60 #[.string a0, .int .i64 a1, .int .i64 a2] w fun e w' => e = .returned (.tuple #[.int .i64 r1, .bool r2]) ∧ Drawn0 w w' := by
 have H : ((wellspringref01_Take.f a0 a1 a2).bind fun bt153 => (if bt153.2 = true then (if a2 < 1 then (wellspringref01_Get.j0 k a2 bt153.1 true) else (wellspringref01_Get.j0 k a2 bt153.1 (decide (a2 > 4)))) else (wellspringref01_Get.j0 k a2 bt153.1 true))) = some (r1, r2) := h
 clear h
 replace H := Option.bind_eq_some_iff.mp H
 obtain ⟨⟨t153, t154⟩, A40, H⟩ := H
 replace H : (if t154 = true then (if a2 < 1 then (wellspringref01_Get.j0 k a2 t153 true) else (wellspringref01_Get.j0 k a2 t153 (decide (a2 > 4)))) else (wellspringref01_Get.j0 k a2 t153 true)) = some (r1, r2) := H
 have A4 := Aside0.mk A40
 clear A40
 have HC5 := Aside0.mk H
 clear H
 go_enter Try.func60, Try.ntmps60
 go_upto_region 2 with (first | ((with_reducible refine gate_callee (f := 37) rfl ?_); refine goesL_ (some 16) rfl rfl Try.func37 (by kernel_rfl) rfl #[.string a0, .int .i64 a1, .int .i64 a2] rfl (by (try simp only [List.map_toArray, List.map_cons, List.map_nil]); first | done | rfl | (simp only [List.length_drop, List.length_take]; rfl) | (simp only [ByteArray.size_append, Int.natCast_add]; rfl) | (rw [Go.Proofs.Ytdkkanpbcifkfaa.B.w64] <;> first | rfl | omega | (simp only [decide_eq_false_iff_not, decide_eq_true_eq, Int.not_lt, Nat.not_lt, gt_iff_lt] at * <;> omega))) ?_; (with_reducible refine (wellspringref01_Take.calls a0 a1 a2 t153 t154 _ A4.out).mono ?_); rintro e w' ⟨rfl, ⟨nd, rfl⟩⟩; refine ⟨_, rfl, ?_⟩))
 (try simp only [Act.put, List.setIfInBounds_toArray, List.set_cons_zero, List.set_cons_succ])
 go_cut [28] (fun v28 wc => ∃ (kq : Nat) (x28_4 : Bool), v28 = .bool x28_4 ∧ Aside0 (wellspringref01_Get.j0 kq a2 t153 x28_4 = some (r1, r2)) ∧ Aside0 (kq ≤ k) ∧ Drawn0 w wc)
 case first =>
  have H := HC5.out
  clear HC5
  by_cases c6 : t154 = true
  ·subst c6
   have H1 : (if a2 < 1 then (wellspringref01_Get.j0 k a2 t153 true) else (wellspringref01_Get.j0 k a2 t153 (decide (a2 > 4)))) = some (r1, r2) := by rw [if_pos rfl] at H; exact H
   clear H
   have H := H1
   clear H1
   by_cases c7 : a2 < 1
   ·rw [if_pos c7] at H
    have c7b0 : decide (a2 < 1) = true := decide_eq_true c7
    clear c7
    (first | rw [c7b0] | rw [c7b2] | (simp only [i64_w, i32_w]; rw [c7b0]) | skip)
    have H' := Aside0.mk H
    clear H
    go_wp2
    go_meet
    case rel => exact ⟨_, (true), (by first | rfl | (simp; done) | (simp [*]; done) | (simp [Go.Proofs.Ytdkkanpbcifkfaa.B.beq_not_bne]; done) | (simp [Go.Proofs.Ytdkkanpbcifkfaa.B.bne_not_beq]; done)), H', ⟨by first | omega | exact Nat.le_refl _⟩, by repeat (first | exact Drawn0.refl _ | apply Drawn0.step)⟩
   ·rw [if_neg c7] at H
    have c7b0 : decide (a2 < 1) = false := decide_eq_false c7
    clear c7
    (first | rw [c7b0] | rw [c7b2] | (simp only [i64_w, i32_w]; rw [c7b0]) | skip)
    have H' := Aside0.mk H
    clear H
    go_wp2
    go_meet
    case rel => exact ⟨_, (decide (a2 > 4)), (by first | rfl | (simp; done) | (simp [*]; done) | (simp [Go.Proofs.Ytdkkanpbcifkfaa.B.beq_not_bne]; done) | (simp [Go.Proofs.Ytdkkanpbcifkfaa.B.bne_not_beq]; done)), H', ⟨by first | omega | exact Nat.le_refl _⟩, by repeat (first | exact Drawn0.refl _ | apply Drawn0.step)⟩
  ·replace c6 := Bool.eq_false_iff.mpr c6
   subst c6
   have H1 : (wellspringref01_Get.j0 k a2 t153 true) = some (r1, r2) := by rw [if_neg (show ¬ (false = true) by decide)] at H; exact H
   clear H
   have H := H1
   clear H1
   have H' := Aside0.mk H
   clear H
   go_wp2
   go_meet
   case rel => exact ⟨_, (true), (by first | rfl | (simp; done) | (simp [*]; done) | (simp [Go.Proofs.Ytdkkanpbcifkfaa.B.beq_not_bne]; done) | (simp [Go.Proofs.Ytdkkanpbcifkfaa.B.bne_not_beq]; done)), H', ⟨by first | omega | exact Nat.le_refl _⟩, by repeat (first | exact Drawn0.refl _ | apply Drawn0.step)⟩
 case rest =>
  clear HC5
  try clear p2
  try clear c3
  try clear c6
  try clear c7
  try clear c7b0
  try clear c7b2
  obtain ⟨kq, x28_4, rfl, HA, HJ4, ⟨mc4, rfl⟩⟩ := hcut
  cases kq with
  | zero => exact absurd HA.out (by simp [wellspringref01_Get.j0])
  | succ kj4 =>
   have H := HA.out
   clear HA
   simp only [wellspringref01_Get.j0] at H
   by_cases c8 : x28_4 = true
   ·subst c8
    have H1 : (some (0, false)) = some (r1, r2) := by rw [if_pos rfl] at H; exact H
    clear H
    have H := H1
    clear H1
    simp only [Option.some.injEq, Prod.mk.injEq] at H
    obtain ⟨rfl, rfl⟩ := H
    go_wp2
    go_ret2
    exact ⟨by first | rfl | (simp; done) | (simp [*]; done), by repeat (first | exact Drawn0.refl _ | apply Drawn0.step)⟩
   ·replace c8 := Bool.eq_false_iff.mpr c8
    subst c8
    have H1 : (wellspringref01_Get.l0 kj4 a2 t153 0 0) = some (r1, r2) := by rw [if_neg (show ¬ (false = true) by decide)] at H; exact H
    clear H
    have H := H1
    clear H1
    have H' := Aside0.mk H
    clear H
    go_wp2
    go_loopg [10, 11] kj4 (fun kq v10 v11 w' => ∃ (x10_2 : Int) (x11_2 : Int), v10 = .int .i64 x10_2 ∧ v11 = .int .i64 x11_2 ∧ Aside0 (wellspringref01_Get.l0 kq a2 t153 x10_2 x11_2 = some (r1, r2)) ∧ Aside0 (kq ≤ kj4) ∧ Drawn0 w w')
    case atStart => exact ⟨(0), (0), (by first | rfl | (simp; done) | (simp [*]; done) | (simp [Go.Proofs.Ytdkkanpbcifkfaa.B.beq_not_bne]; done) | (simp [Go.Proofs.Ytdkkanpbcifkfaa.B.bne_not_beq]; done)), (by first | rfl | (simp; done) | (simp [*]; done) | (simp [Go.Proofs.Ytdkkanpbcifkfaa.B.beq_not_bne]; done) | (simp [Go.Proofs.Ytdkkanpbcifkfaa.B.bne_not_beq]; done)), H', ⟨Nat.le_refl _⟩, by repeat (first | exact Drawn0.refl _ | apply Drawn0.step)⟩
    case round =>
     clear H'
     try clear p2
     try clear c3
     try clear c4
     try clear c6
     try clear c7
     try clear c7b0
     try clear c7b2
     try clear c8
     try clear p2
     obtain ⟨x10_2, x11_2, rfl, rfl, HA, HK2, ⟨m2, rfl⟩⟩ := hrel
     cases gk with
     | zero => exact absurd HA.out (by simp [wellspringref01_Get.l0])
     | succ k2 =>
      have H := HA.out
      clear HA
      simp only [wellspringref01_Get.l0] at H
      by_cases c9 : x11_2 < a2
      ·rw [if_pos c9] at H
       have c9b0 : decide (x11_2 < a2) = true := decide_eq_true c9
       clear c9
       by_cases c10 : 0 ≤ x11_2
       ·rw [if_pos c10] at H
        have c10b0 : decide (0 ≤ x11_2) = true := decide_eq_true c10
        clear c10
        by_cases c11 : x11_2 < (t153.size : Int)
        ·rw [if_pos c11] at H
         have c11b0 : decide (x11_2 < (t153.size : Int)) = true := decide_eq_true c11
         clear c11
         have H' := Aside0.mk H
         clear H
         have p12 : 0 ≤ (x11_2 : Int) := of_decide_eq_true (by first | (with_reducible assumption) | assumption)
         have q12 : x11_2 < (t153.size : Int) := of_decide_eq_true (by first | (with_reducible assumption) | assumption)
         have hx12 := bt_at t153 x11_2
         replace p12 := eq_true p12
         replace q12 := eq_true q12
         go_wp2
         go_roundg k2
         case measure => have := HJ4.out; have := HK2.out; omega
         case rel => exact ⟨(wrap64 ((wrap64 (256 * x10_2)) + (wrap64 (bt t153 x11_2)))), (wrap64 (x11_2 + 1)), (by first | rfl | (simp; done) | (simp [*]; done) | (simp [Go.Proofs.Ytdkkanpbcifkfaa.B.beq_not_bne]; done) | (simp [Go.Proofs.Ytdkkanpbcifkfaa.B.bne_not_beq]; done)), (by first | rfl | (simp; done) | (simp [*]; done) | (simp [Go.Proofs.Ytdkkanpbcifkfaa.B.beq_not_bne]; done) | (simp [Go.Proofs.Ytdkkanpbcifkfaa.B.bne_not_beq]; done)), H', ⟨by have := HJ4.out; have := HK2.out; omega⟩, by repeat (first | exact Drawn0.refl _ | apply Drawn0.step)⟩
        ·rw [if_neg c11] at H
         exact absurd H (by simp)
       ·rw [if_neg c10] at H
        exact absurd H (by simp)
      ·rw [if_neg c9] at H
       have c9b0 : decide (x11_2 < a2) = false := decide_eq_false c9
       clear c9
       simp only [Option.some.injEq, Prod.mk.injEq] at H
       obtain ⟨rfl, rfl⟩ := H
       go_wp2
       go_ret2
       exact ⟨by first | rfl | (simp; done) | (simp [*]; done), by repeat (first | exact Drawn0.refl _ | apply Drawn0.step)⟩

end Go.Proofs.Ytdkkanpbcifkfaa.ZQ

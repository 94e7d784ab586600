-- Written by a program of this session (wip/tools/myprint.py), over the kit's printer; Lean checks it.
import Derived.Test.YtdkkanpbcifkfaaZQ0
import Derived.Test.YtdkkanpbcifkfaaZRow
import Derived.Test.YtdkkanpbcifkfaaZBld
import Derived.BigRegion
import Derived.Laws.BitsLemmas
namespace Go.Proofs.Ytdkkanpbcifkfaa.ZQ
open Go.RowKit Go.Proofs.YtdkkanpbcifkfaaW.PrintWords Go.Proofs.YtdkkanpbcifkfaaW.PrintLast Go.Proofs.YtdkkanpbcifkfaaW.PrintMore
attribute [local go_sem] max2_int min2_int max_two min_two max_three min_three max_four min_four   -- for this text's walks alone
set_option linter.unusedVariables false
set_option linter.unusedSimpArgs false

/-! ### wellspringref02_Texts: function 32 -/
def wellspringref02_Texts.l0 : Nat → List ByteArray → List ByteArray → Int → Option (Bool)
 | 0, _, _, _ => none
 | k + 1, x0, x1, x5 => if x5 < (x0.length : Int) then (if 0 ≤ x5 then (if x5 < (x1.length : Int) then (if (rdOf ByteArray.empty x0 x5).toList = (rdOf ByteArray.empty x1 x5).toList then (wellspringref02_Texts.l0 k x0 x1 (wrap64 (x5 + 1))) else (some false)) else (none)) else (none)) else (some true)
def wellspringref02_Texts.f (k : Nat) (l0 : List ByteArray) (l1 : List ByteArray) : Option (Bool) := if (l0.length : Int) = (l1.length : Int) then (wellspringref02_Texts.l0 k l0 l1 0) else (some false)
theorem wellspringref02_Texts.mono_l : ∀ k, (∀ y0 y1 y2, LeO (wellspringref02_Texts.l0 k y0 y1 y2) (wellspringref02_Texts.l0 (k + 1) y0 y1 y2))
 | 0 => fun _ _ _ r h => by simp [wellspringref02_Texts.l0] at h
 | k + 1 => by
  have ih0 := wellspringref02_Texts.mono_l k
  ·intro y0 y1 y2
   unfold wellspringref02_Texts.l0
   repeat' first
   | (with_reducible exact ih0 _ _ _)
   | (with_reducible exact LeO.refl _)
   | (with_reducible exact LeO.none _)
   | (with_reducible refine LeO.ite ?_ ?_)
   | (with_reducible refine LeO.bind ?_ (fun _ => ?_))
   | exact ih0 _ _ _
   | exact LeO.none _
   | refine LeO.ite ?_ ?_
   | refine LeO.bind ?_ (fun _ => ?_)
theorem wellspringref02_Texts.mono : ∀ a0 a1 k, LeO (wellspringref02_Texts.f k a0 a1) (wellspringref02_Texts.f (k + 1) a0 a1) := by
 intro a0 a1 k
 have ih0 := wellspringref02_Texts.mono_l k
 unfold wellspringref02_Texts.f
 repeat' first
   | (with_reducible exact ih0 _ _ _)
   | (with_reducible exact LeO.refl _)
   | (with_reducible exact LeO.none _)
   | (with_reducible refine LeO.ite ?_ ?_)
   | (with_reducible refine LeO.bind ?_ (fun _ => ?_))
   | exact ih0 _ _ _
   | exact LeO.none _
   | refine LeO.ite ?_ ?_
   | refine LeO.bind ?_ (fun _ => ?_)
set_option maxHeartbeats 8000000 in
set_option maxRecDepth 100000 in
theorem wellspringref02_Texts.calls (k : Nat) (A0 : Option Addr) (c0 : Nat) (l0 : List ByteArray) (A1 : Option Addr) (c1 : Nat) (l1 : List ByteArray) (r : Bool) (w : World) (hr0 : Kd.C Kd.string w A0 l0.length l0) (hc0 : l0.length ≤ c0) (hr1 : Kd.C Kd.string w A1 l1.length l1) (hc1 : l1.length ≤ c1) (h : wellspringref02_Texts.f k l0 l1 = some r) :
  Calls Try.prog 32 #[.slice A0 l0.length c0, .slice A1 l1.length c1] w fun e w' => e = .returned (.bool r) ∧ Drawn0 w w' := by
 have HR0 := Aside0.mk hr0
 have HC0 := Aside0.mk hc0
 clear hr0 hc0
 have HR1 := Aside0.mk hr1
 have HC1 := Aside0.mk hc1
 clear hr1 hc1
 have H : (if (l0.length : Int) = (l1.length : Int) then (wellspringref02_Texts.l0 k l0 l1 0) else (some false)) = some r := h
 clear h
 by_cases c3 : (l0.length : Int) = (l1.length : Int)
 ·rw [if_pos c3] at H
  have c3b0 : ((l0.length : Int) == (l1.length : Int)) = true := beq_iff_eq.mpr c3
  have c3b1 : ((l0.length : Int) != (l1.length : Int)) = false := bne_eq_false_iff_eq.mpr c3
  have c3b2 : (l0.length == l1.length) = true := by first | simpa using c3 | (simp at c3 ⊢; omega)
  clear c3
  have H' := Aside0.mk H
  clear H
  go_enter Try.func32, Try.ntmps32
  go_wp2
  repeat (go_quiet (fail); try go_wp2)
  go_loopg [5] k (fun kq v5 w' => ∃ (x5_1 : Int), v5 = .int .i64 x5_1 ∧ Aside0 (wellspringref02_Texts.l0 kq l0 l1 x5_1 = some r) ∧ Aside0 (kq ≤ k) ∧ Drawn0 w w')
  case atStart => exact ⟨(0), (by first | rfl | (simp; done) | (simp [*]; done) | (simp [Go.Proofs.Ytdkkanpbcifkfaa.B.beq_not_bne]; done) | (simp [Go.Proofs.Ytdkkanpbcifkfaa.B.bne_not_beq]; done)), H', ⟨Nat.le_refl _⟩, by repeat (first | exact Drawn0.refl _ | apply Drawn0.step)⟩
  case round =>
   clear H'
   try clear c1
   try clear p2
   try clear c3
   try clear c3b0
   try clear c3b1
   try clear c3b2
   obtain ⟨x5_1, rfl, HA, HK1, ⟨m1, rfl⟩⟩ := hrel
   cases gk with
   | zero => exact absurd HA.out (by simp [wellspringref02_Texts.l0])
   | succ k1 =>
    have H := HA.out
    clear HA
    simp only [wellspringref02_Texts.l0] at H
    by_cases c4 : x5_1 < (l0.length : Int)
    ·rw [if_pos c4] at H
     have c4b0 : decide (x5_1 < (l0.length : Int)) = true := decide_eq_true c4
     clear c4
     by_cases c5 : 0 ≤ x5_1
     ·rw [if_pos c5] at H
      have c5b0 : decide (0 ≤ x5_1) = true := decide_eq_true c5
      clear c5
      by_cases c6 : x5_1 < (l1.length : Int)
      ·rw [if_pos c6] at H
       have c6b0 : decide (x5_1 < (l1.length : Int)) = true := decide_eq_true c6
       clear c6
       by_cases c7 : (rdOf ByteArray.empty l0 x5_1).toList = (rdOf ByteArray.empty l1 x5_1).toList
       ·rw [if_pos c7] at H
        have c7b0 : ((rdOf ByteArray.empty l0 x5_1).toList == (rdOf ByteArray.empty l1 x5_1).toList) = true := beq_iff_eq.mpr c7
        have c7b1 : ((rdOf ByteArray.empty l0 x5_1).toList != (rdOf ByteArray.empty l1 x5_1).toList) = false := bne_eq_false_iff_eq.mpr c7
        clear c7
        have H' := Aside0.mk H
        clear H
        have p115 : 0 ≤ (x5_1 : Int) := of_decide_eq_true (by first | (with_reducible assumption) | assumption)
        have q115 : x5_1 < (l0.length : Int) := of_decide_eq_true (by first | (with_reducible assumption) | assumption)
        obtain ⟨ad115, e115, hx115_0⟩ := Kd.at_string HR0.out x5_1 p115 q115
        cases e115
        replace p115 := eq_true p115
        replace q115 := eq_true q115
        have p116 : 0 ≤ (x5_1 : Int) := of_decide_eq_true (by first | (with_reducible assumption) | assumption)
        have q116 : x5_1 < (l1.length : Int) := of_decide_eq_true (by first | (with_reducible assumption) | assumption)
        obtain ⟨ad116, e116, hx116_0⟩ := Kd.at_string HR1.out x5_1 p116 q116
        cases e116
        replace p116 := eq_true p116
        replace q116 := eq_true q116
        go_wp2
        repeat (go_quiet (fail); try go_wp2)
        go_roundg k1
        case measure => have := HK1.out; omega
        case rel => exact ⟨(wrap64 (x5_1 + 1)), (by first | rfl | (simp; done) | (simp [*]; done) | (simp [Go.Proofs.Ytdkkanpbcifkfaa.B.beq_not_bne]; done) | (simp [Go.Proofs.Ytdkkanpbcifkfaa.B.bne_not_beq]; done)), H', ⟨by have := HK1.out; omega⟩, by repeat (first | exact Drawn0.refl _ | apply Drawn0.step)⟩
       ·rw [if_neg c7] at H
        have c7b0 : ((rdOf ByteArray.empty l0 x5_1).toList == (rdOf ByteArray.empty l1 x5_1).toList) = false := beq_eq_false_iff_ne.mpr c7
        have c7b1 : ((rdOf ByteArray.empty l0 x5_1).toList != (rdOf ByteArray.empty l1 x5_1).toList) = true := bne_iff_ne.mpr c7
        obtain rfl := Option.some.inj H
        have p115 : 0 ≤ (x5_1 : Int) := of_decide_eq_true (by first | (with_reducible assumption) | assumption)
        have q115 : x5_1 < (l0.length : Int) := of_decide_eq_true (by first | (with_reducible assumption) | assumption)
        obtain ⟨ad115, e115, hx115_0⟩ := Kd.at_string HR0.out x5_1 p115 q115
        cases e115
        replace p115 := eq_true p115
        replace q115 := eq_true q115
        have p116 : 0 ≤ (x5_1 : Int) := of_decide_eq_true (by first | (with_reducible assumption) | assumption)
        have q116 : x5_1 < (l1.length : Int) := of_decide_eq_true (by first | (with_reducible assumption) | assumption)
        obtain ⟨ad116, e116, hx116_0⟩ := Kd.at_string HR1.out x5_1 p116 q116
        cases e116
        replace p116 := eq_true p116
        replace q116 := eq_true q116
        go_wp2
        repeat (go_quiet (fail); try go_wp2)
        go_ret
        exact ⟨by first | rfl | (simp; done) | (simp [*]; done), by repeat (first | exact Drawn0.refl _ | apply Drawn0.step)⟩
      ·rw [if_neg c6] at H
       exact absurd H (by simp)
     ·rw [if_neg c5] at H
      exact absurd H (by simp)
    ·rw [if_neg c4] at H
     have c4b0 : decide (x5_1 < (l0.length : Int)) = false := decide_eq_false c4
     clear c4
     obtain rfl := Option.some.inj H
     go_wp2
     repeat (go_quiet (fail); try go_wp2)
     go_ret
     exact ⟨by first | rfl | (simp; done) | (simp [*]; done), by repeat (first | exact Drawn0.refl _ | apply Drawn0.step)⟩
 ·rw [if_neg c3] at H
  have c3b0 : ((l0.length : Int) == (l1.length : Int)) = false := beq_eq_false_iff_ne.mpr c3
  have c3b1 : ((l0.length : Int) != (l1.length : Int)) = true := bne_iff_ne.mpr c3
  have c3b2 : (l0.length == l1.length) = false := by first | simpa using c3 | (simp at c3 ⊢; omega)
  obtain rfl := Option.some.inj H
  go_enter Try.func32, Try.ntmps32
  go_wp2
  repeat (go_quiet (fail); try go_wp2)
  go_ret
  exact ⟨by first | rfl | (simp; done) | (simp [*]; done), by repeat (first | exact Drawn0.refl _ | apply Drawn0.step)⟩

/-! ### wellspringref02_Labels: function 69 -/
mutual
def wellspringref02_Labels.j0 : Nat → ByteArray → List ByteArray → Bool → Option (List ByteArray × Bool)
 | 0, _, _, _ => none
 | k + 1, x0, x4, x14 => if x14 = true then (some (([] : List ByteArray), false)) else (wellspringref02_Labels.l0 k x0 x4 0)
def wellspringref02_Labels.l0 : Nat → ByteArray → List ByteArray → Int → Option (List ByteArray × Bool)
 | 0, _, _, _ => none
 | k + 1, x0, x4, x5 => if x5 < (x0.size : Int) then (if 0 ≤ x5 then (if (wrap64 (bt x0 x5)) = 0 then (some (x4, (x5 == (wrap64 ((x0.size : Int) - 1))))) else (if (wrap64 (bt x0 x5)) > 63 then (some (([] : List ByteArray), false)) else (if (wrap64 (bt x0 x5)) ≥ (wrap64 ((x0.size : Int) - x5)) then (some (([] : List ByteArray), false)) else (if 0 ≤ (wrap64 (x5 + 1)) then (if (wrap64 (x5 + 1)) ≤ (wrap64 ((wrap64 (x5 + 1)) + (wrap64 (bt x0 x5)))) then (if (wrap64 ((wrap64 (x5 + 1)) + (wrap64 (bt x0 x5)))) ≤ (x0.size : Int) then (if x4.length < 8796093022208 then (wellspringref02_Labels.l0 k x0 (x4 ++ [x0.extract ((wrap64 (x5 + 1)) : Int).toNat ((wrap64 ((wrap64 (x5 + 1)) + (wrap64 (bt x0 x5)))) : Int).toNat]) (wrap64 ((wrap64 (x5 + 1)) + (wrap64 (bt x0 x5))))) else (none)) else (none)) else (none)) else (none))))) else (none)) else (some (([] : List ByteArray), false))
end
def wellspringref02_Labels.f (k : Nat) (a0 : ByteArray) : Option (List ByteArray × Bool) := if (a0.size : Int) < 1 then (wellspringref02_Labels.j0 k a0 ([] : List ByteArray) true) else (wellspringref02_Labels.j0 k a0 ([] : List ByteArray) (decide ((a0.size : Int) > 255)))
set_option maxHeartbeats 8000000 in
set_option maxRecDepth 100000 in
theorem wellspringref02_Labels.calls (k : Nat) (a0 : ByteArray) (r1 : List ByteArray) (r2 : Bool) (w : World) (h : wellspringref02_Labels.f k a0 = some (r1, r2)) :
  Calls Try.prog 69 #[.string a0] w fun e w' => ∃ v0_ : Value, e = .returned (.tuple #[v0_, .bool r2]) ∧ Kd.R Kd.string 9 w' w.heap.size (fun _ => True) v0_ r1 ∧ Below w.heap.size w w' := by
 have HB := Aside0.mk (Below.refl w.heap.size w)
 have H : (if (a0.size : Int) < 1 then (wellspringref02_Labels.j0 k a0 ([] : List ByteArray) true) else (wellspringref02_Labels.j0 k a0 ([] : List ByteArray) (decide ((a0.size : Int) > 255)))) = some (r1, r2) := h
 clear h
 have HC2 := Aside0.mk H
 clear H
 go_enter Try.func69, Try.ntmps69
 go_upto_region 2 with (fail)
 go_cut [14] (fun v14 wc => ∃ (kq : Nat) (x14_1 : Bool), v14 = .bool x14_1 ∧ Aside0 (wellspringref02_Labels.j0 kq a0 ([] : List ByteArray) x14_1 = some (r1, r2)) ∧ Aside0 (kq ≤ k) ∧ Aside0 (Kd.R Kd.string 9 wc w.heap.size (fun _ => True) (.slice none 0 0) ([] : List ByteArray)) ∧ Aside0 (Below w.heap.size w wc))
 case first =>
  have H := HC2.out
  clear HC2
  by_cases c3 : (a0.size : Int) < 1
  ·rw [if_pos c3] at H
   have c3b0 : decide ((a0.size : Int) < 1) = true := decide_eq_true c3
   have c3b1 : decide (a0.size < 1) = true := decide_eq_true (by omega)
   clear c3
   (first | rw [c3b0] | rw [c3b2] | (simp only [i64_w, i32_w]; rw [c3b0]) | skip)
   have H' := Aside0.mk H
   clear H
   go_wp2
   go_meet
   case rel => exact ⟨_, (true), (by first | rfl | (simp; done) | (simp [*]; done) | (simp [Go.Proofs.Ytdkkanpbcifkfaa.B.beq_not_bne]; done) | (simp [Go.Proofs.Ytdkkanpbcifkfaa.B.bne_not_beq]; done)), H', ⟨by first | omega | exact Nat.le_refl _⟩, ⟨by first | exact Kd.R_nil _ _ _ _ _ | exact Kd.N_nil _ _ _ _ _ | exact Kd.V_nil _ _ _ _ _ | exact Kd.Q_nil _ _ _ _ _ | exact Kd.S_nil _ _ _ _ _⟩, ⟨by repeat (first | (with_reducible first | exact HB.out | apply below_alloc | apply pw_below_drewN | apply below_drew1) | exact HB.out)⟩⟩
  ·rw [if_neg c3] at H
   have c3b0 : decide ((a0.size : Int) < 1) = false := decide_eq_false c3
   have c3b1 : decide (a0.size < 1) = false := decide_eq_false (by omega)
   clear c3
   (first | rw [c3b0] | rw [c3b2] | (simp only [i64_w, i32_w]; rw [c3b0]) | skip)
   have H' := Aside0.mk H
   clear H
   go_wp2
   go_meet
   case rel => exact ⟨_, (decide ((a0.size : Int) > 255)), (by first | rfl | (simp; done) | (simp [*]; done) | (simp [Go.Proofs.Ytdkkanpbcifkfaa.B.beq_not_bne]; done) | (simp [Go.Proofs.Ytdkkanpbcifkfaa.B.bne_not_beq]; done)), H', ⟨by first | omega | exact Nat.le_refl _⟩, ⟨by first | exact Kd.R_nil _ _ _ _ _ | exact Kd.N_nil _ _ _ _ _ | exact Kd.V_nil _ _ _ _ _ | exact Kd.Q_nil _ _ _ _ _ | exact Kd.S_nil _ _ _ _ _⟩, ⟨by repeat (first | (with_reducible first | exact HB.out | apply below_alloc | apply pw_below_drewN | apply below_drew1) | exact HB.out)⟩⟩
 case rest =>
  clear HC2
  try clear p2
  try clear c3
  try clear c3b0
  try clear c3b1
  try clear c3b2
  obtain ⟨kq, x14_1, rfl, HA, HJ1, HO_4, HB⟩ := hcut
  cases kq with
  | zero => exact absurd HA.out (by simp [wellspringref02_Labels.j0])
  | succ kj1 =>
   have H := HA.out
   clear HA
   simp only [wellspringref02_Labels.j0] at H
   by_cases c4 : x14_1 = true
   ·subst c4
    have H1 : (some (([] : List ByteArray), false)) = some (r1, r2) := by rw [if_pos rfl] at H; exact H
    clear H
    have H := H1
    clear H1
    simp only [Option.some.injEq, Prod.mk.injEq] at H
    obtain ⟨rfl, rfl⟩ := H
    go_wp2
    go_ret2
    exact ⟨_, by first | rfl | (simp [errW_none, errW_some] <;> rfl) | (simp [*, errW_none, errW_some] <;> rfl), by first | exact Kd.R_nil _ _ _ _ _ | exact Kd.N_nil _ _ _ _ _ | exact Kd.V_nil _ _ _ _ _ | exact Kd.Q_nil _ _ _ _ _ | exact Kd.S_nil _ _ _ _ _, by repeat (first | (with_reducible first | exact HB.out | apply below_alloc | apply pw_below_drewN | apply below_drew1) | exact HB.out)⟩
   ·replace c4 := Bool.eq_false_iff.mpr c4
    subst c4
    have H1 : (wellspringref02_Labels.l0 kj1 a0 ([] : List ByteArray) 0) = some (r1, r2) := by rw [if_neg (show ¬ (false = true) by decide)] at H; exact H
    clear H
    have H := H1
    clear H1
    have H' := Aside0.mk H
    clear H
    go_wp2
    go_loopg [4, 5] kj1 (fun kq v4 v5 w' => ∃ (x4_2 : List ByteArray) (x5_2 : Int), v5 = .int .i64 x5_2 ∧ Aside0 (wellspringref02_Labels.l0 kq a0 x4_2 x5_2 = some (r1, r2)) ∧ Aside0 (kq ≤ kj1) ∧ Aside0 (Kd.R Kd.string 9 w' w.heap.size (fun _ => True) v4 x4_2) ∧ Aside0 (Below w.heap.size w w'))
    case atStart => exact ⟨(([] : List ByteArray)), (0), (by first | rfl | (simp; done) | (simp [*]; done) | (simp [Go.Proofs.Ytdkkanpbcifkfaa.B.beq_not_bne]; done) | (simp [Go.Proofs.Ytdkkanpbcifkfaa.B.bne_not_beq]; done)), H', ⟨Nat.le_refl _⟩, ⟨by (with_reducible repeat (first | apply Kd.R_alloc | apply Kd.R_drewN | apply Kd.R_drew)); exact HO_4.out⟩, ⟨by repeat (first | (with_reducible first | exact HB.out | apply below_alloc | apply pw_below_drewN | apply below_drew1) | exact HB.out)⟩⟩
    case round =>
     clear H'
     try clear p2
     try clear c3
     try clear c3b0
     try clear c3b1
     try clear c3b2
     try clear c4
     try clear p2
     obtain ⟨x4_2, x5_2, rfl, HA, HK2, HO_4, HB⟩ := hrel
     cases gk with
     | zero => exact absurd HA.out (by simp [wellspringref02_Labels.l0])
     | succ k2 =>
      have H := HA.out
      clear HA
      simp only [wellspringref02_Labels.l0] at H
      by_cases c5 : x5_2 < (a0.size : Int)
      ·rw [if_pos c5] at H
       have c5b0 : decide (x5_2 < (a0.size : Int)) = true := decide_eq_true c5
       clear c5
       by_cases c6 : 0 ≤ x5_2
       ·rw [if_pos c6] at H
        have c6b0 : decide (0 ≤ x5_2) = true := decide_eq_true c6
        clear c6
        by_cases c8 : (wrap64 (bt a0 x5_2)) = 0
        ·rw [if_pos c8] at H
         have c8b0 : ((wrap64 (bt a0 x5_2)) == 0) = true := beq_iff_eq.mpr c8
         have c8b1 : ((wrap64 (bt a0 x5_2)) != 0) = false := bne_eq_false_iff_eq.mpr c8
         (try (have c8b2 : (((bt a0 x5_2)) == 0) = true := by have h_ : ((wrap64 (bt a0 x5_2)) == 0) = true := beq_iff_eq.mpr c8; rw [Go.Proofs.Ytdkkanpbcifkfaa.B.w64 (by omega) (by omega)] at h_; exact h_))
         (try (have c8b3 : (((bt a0 x5_2)) != 0) = false := by have h_ : ((wrap64 (bt a0 x5_2)) != 0) = false := bne_eq_false_iff_eq.mpr c8; rw [Go.Proofs.Ytdkkanpbcifkfaa.B.w64 (by omega) (by omega)] at h_; exact h_))
         clear c8
         simp only [Option.some.injEq, Prod.mk.injEq] at H
         obtain ⟨rfl, rfl⟩ := H
         have p7 : 0 ≤ (x5_2 : Int) := of_decide_eq_true (by first | (with_reducible assumption) | assumption)
         have q7 : x5_2 < (a0.size : Int) := of_decide_eq_true (by first | (with_reducible assumption) | assumption)
         have hx7 := bt_at a0 x5_2
         replace p7 := eq_true p7
         replace q7 := eq_true q7
         go_wp2
         go_ret2
         exact ⟨_, by first | rfl | (simp [errW_none, errW_some] <;> rfl) | (simp [*, errW_none, errW_some] <;> rfl), by (with_reducible repeat (first | apply Kd.R_alloc | apply Kd.R_drewN | apply Kd.R_drew)); exact HO_4.out, by repeat (first | (with_reducible first | exact HB.out | apply below_alloc | apply pw_below_drewN | apply below_drew1) | exact HB.out)⟩
        ·rw [if_neg c8] at H
         have c8b0 : ((wrap64 (bt a0 x5_2)) == 0) = false := beq_eq_false_iff_ne.mpr c8
         have c8b1 : ((wrap64 (bt a0 x5_2)) != 0) = true := bne_iff_ne.mpr c8
         (try (have c8b2 : (((bt a0 x5_2)) == 0) = false := by have h_ : ((wrap64 (bt a0 x5_2)) == 0) = false := beq_eq_false_iff_ne.mpr c8; rw [Go.Proofs.Ytdkkanpbcifkfaa.B.w64 (by omega) (by omega)] at h_; exact h_))
         (try (have c8b3 : (((bt a0 x5_2)) != 0) = true := by have h_ : ((wrap64 (bt a0 x5_2)) != 0) = true := bne_iff_ne.mpr c8; rw [Go.Proofs.Ytdkkanpbcifkfaa.B.w64 (by omega) (by omega)] at h_; exact h_))
         by_cases c9 : (wrap64 (bt a0 x5_2)) > 63
         ·rw [if_pos c9] at H
          have c9b0 : decide (63 < (wrap64 (bt a0 x5_2))) = true := decide_eq_true c9
          (try (have c9b1 : decide (63 < ((bt a0 x5_2))) = true := by have h_ : decide (63 < (wrap64 (bt a0 x5_2))) = true := decide_eq_true c9; rw [Go.Proofs.Ytdkkanpbcifkfaa.B.w64 (by omega) (by omega)] at h_; exact h_))
          clear c9
          simp only [Option.some.injEq, Prod.mk.injEq] at H
          obtain ⟨rfl, rfl⟩ := H
          have p7 : 0 ≤ (x5_2 : Int) := of_decide_eq_true (by first | (with_reducible assumption) | assumption)
          have q7 : x5_2 < (a0.size : Int) := of_decide_eq_true (by first | (with_reducible assumption) | assumption)
          have hx7 := bt_at a0 x5_2
          replace p7 := eq_true p7
          replace q7 := eq_true q7
          go_wp2
          go_ret2
          exact ⟨_, by first | rfl | (simp [errW_none, errW_some] <;> rfl) | (simp [*, errW_none, errW_some] <;> rfl), by first | exact Kd.R_nil _ _ _ _ _ | exact Kd.N_nil _ _ _ _ _ | exact Kd.V_nil _ _ _ _ _ | exact Kd.Q_nil _ _ _ _ _ | exact Kd.S_nil _ _ _ _ _, by repeat (first | (with_reducible first | exact HB.out | apply below_alloc | apply pw_below_drewN | apply below_drew1) | exact HB.out)⟩
         ·rw [if_neg c9] at H
          have c9b0 : decide (63 < (wrap64 (bt a0 x5_2))) = false := decide_eq_false c9
          (try (have c9b1 : decide (63 < ((bt a0 x5_2))) = false := by have h_ : decide (63 < (wrap64 (bt a0 x5_2))) = false := decide_eq_false c9; rw [Go.Proofs.Ytdkkanpbcifkfaa.B.w64 (by omega) (by omega)] at h_; exact h_))
          clear c9
          by_cases c10 : (wrap64 (bt a0 x5_2)) ≥ (wrap64 ((a0.size : Int) - x5_2))
          ·rw [if_pos c10] at H
           have c10b0 : decide ((wrap64 ((a0.size : Int) - x5_2)) ≤ (wrap64 (bt a0 x5_2))) = true := decide_eq_true c10
           (try (have c10b1 : decide ((((a0.size : Int) - x5_2)) ≤ ((bt a0 x5_2))) = true := by have h_ : decide ((wrap64 ((a0.size : Int) - x5_2)) ≤ (wrap64 (bt a0 x5_2))) = true := decide_eq_true c10; rw [Go.Proofs.Ytdkkanpbcifkfaa.B.w64 (by omega) (by omega)] at h_; rw [Go.Proofs.Ytdkkanpbcifkfaa.B.w64 (by omega) (by omega)] at h_; exact h_))
           clear c10
           simp only [Option.some.injEq, Prod.mk.injEq] at H
           obtain ⟨rfl, rfl⟩ := H
           have p7 : 0 ≤ (x5_2 : Int) := of_decide_eq_true (by first | (with_reducible assumption) | assumption)
           have q7 : x5_2 < (a0.size : Int) := of_decide_eq_true (by first | (with_reducible assumption) | assumption)
           have hx7 := bt_at a0 x5_2
           replace p7 := eq_true p7
           replace q7 := eq_true q7
           go_wp2
           go_ret2
           exact ⟨_, by first | rfl | (simp [errW_none, errW_some] <;> rfl) | (simp [*, errW_none, errW_some] <;> rfl), by first | exact Kd.R_nil _ _ _ _ _ | exact Kd.N_nil _ _ _ _ _ | exact Kd.V_nil _ _ _ _ _ | exact Kd.Q_nil _ _ _ _ _ | exact Kd.S_nil _ _ _ _ _, by repeat (first | (with_reducible first | exact HB.out | apply below_alloc | apply pw_below_drewN | apply below_drew1) | exact HB.out)⟩
          ·rw [if_neg c10] at H
           have c10b0 : decide ((wrap64 ((a0.size : Int) - x5_2)) ≤ (wrap64 (bt a0 x5_2))) = false := decide_eq_false c10
           (try (have c10b1 : decide ((((a0.size : Int) - x5_2)) ≤ ((bt a0 x5_2))) = false := by have h_ : decide ((wrap64 ((a0.size : Int) - x5_2)) ≤ (wrap64 (bt a0 x5_2))) = false := decide_eq_false c10; rw [Go.Proofs.Ytdkkanpbcifkfaa.B.w64 (by omega) (by omega)] at h_; rw [Go.Proofs.Ytdkkanpbcifkfaa.B.w64 (by omega) (by omega)] at h_; exact h_))
           clear c10
           obtain ⟨ji11, hji11⟩ : ∃ j_ : Int, (wrap64 (x5_2 + 1)) = j_ := ⟨_, rfl⟩
           replace H : (if 0 ≤ (ji11) then (if (ji11) ≤ (wrap64 ((ji11) + (wrap64 (bt a0 x5_2)))) then (if (wrap64 ((ji11) + (wrap64 (bt a0 x5_2)))) ≤ (a0.size : Int) then (if x4_2.length < 8796093022208 then (wellspringref02_Labels.l0 k2 a0 (x4_2 ++ [a0.extract ((ji11) : Int).toNat ((wrap64 ((ji11) + (wrap64 (bt a0 x5_2)))) : Int).toNat]) (wrap64 ((ji11) + (wrap64 (bt a0 x5_2))))) else (none)) else (none)) else (none)) else (none)) = some (r1, r2) := by first | (rw [hji11] at H; exact H) | (simp only [hji11] at H ⊢; exact H)
           have hji11w : (IntKind.i64.wrap (x5_2 + 1)) = ji11 := (i64_w _).trans hji11
           by_cases c12 : 0 ≤ (ji11)
           ·rw [if_pos c12] at H
            have c12b0 := eq_true c12
            have c12b1 : decide (0 ≤ (ji11)) = true := decide_eq_true c12
            clear c12
            by_cases c13 : (ji11) ≤ (wrap64 ((ji11) + (wrap64 (bt a0 x5_2))))
            ·rw [if_pos c13] at H
             have c13b0 := eq_true c13
             have c13b1 : decide ((ji11) ≤ (wrap64 ((ji11) + (wrap64 (bt a0 x5_2))))) = true := decide_eq_true c13
             by_cases c14 : (wrap64 ((ji11) + (wrap64 (bt a0 x5_2)))) ≤ (a0.size : Int)
             ·rw [if_pos c14] at H
              have c14b0 := eq_true c14
              have c14b1 : decide ((wrap64 ((ji11) + (wrap64 (bt a0 x5_2)))) ≤ (a0.size : Int)) = true := decide_eq_true c14
              by_cases c15 : x4_2.length < 8796093022208
              ·rw [if_pos c15] at H
               have LMc15 := Aside0.mk c15
               clear c15
               obtain ⟨y210, hy210⟩ : ∃ y_ : List ByteArray, y_ = (x4_2 ++ [a0.extract ((ji11) : Int).toNat ((wrap64 ((ji11) + (wrap64 (bt a0 x5_2)))) : Int).toNat]) := ⟨_, rfl⟩
               replace H : (wellspringref02_Labels.l0 k2 a0 y210 (wrap64 ((ji11) + (wrap64 (bt a0 x5_2))))) = some (r1, r2) := by first | (rw [hy210]; with_reducible exact H) | (have H2_ := (Option.bind_some _ _).symm.trans H; rw [hy210]; with_reducible exact H2_) | (have H2_ := (Option.bind_some _ _).symm.trans H; with_reducible exact H2_) | with_reducible exact H | (rw [hy210]; exact H) | exact H
               have Ny210 := Aside0.mk hy210
               clear hy210
               have H' := Aside0.mk H
               clear H
               have p7 : 0 ≤ (x5_2 : Int) := of_decide_eq_true (by first | (with_reducible assumption) | assumption)
               have q7 : x5_2 < (a0.size : Int) := of_decide_eq_true (by first | (with_reducible assumption) | assumption)
               have hx7 := bt_at a0 x5_2
               replace p7 := eq_true p7
               replace q7 := eq_true q7
               go_wp2_with (first | ((with_reducible refine gate_builtin (b := .append) (xs := #[.tmp 41, .tmp 50]) rfl ?_); (try (refine gate_guard (by rfl) ?_; dsimp only)); at_builtin; refine Kd.R_append Kd.string (w0 := w) w.heap.size rfl (.tmp 41) (.tmp 50) 32 9 (.string ⟨#[]⟩) 16 rfl Try.underlying32 info9 rfl (by decide) (by omega) u4 x4_2 (a0.extract ((ji11) : Int).toNat ((wrap64 ((ji11) + (wrap64 (bt a0 x5_2)))) : Int).toNat) [.string (a0.extract ((ji11) : Int).toNat ((wrap64 ((ji11) + (wrap64 (bt a0 x5_2)))) : Int).toNat)] (fun _ => True) (fun _ => False) rfl rfl ?aP (fun _ hk => hk.elim) ?aF ?aO ?aB ?aS ?aL ?_; (case aP => exact rfl); (case aB => exact (by repeat (first | (with_reducible first | exact HB.out | apply below_alloc | apply pw_below_drewN | apply below_drew1) | exact HB.out))); (case aF => exact (fun _ _ => trivial)); (case aO => exact (by (with_reducible repeat (first | apply Kd.R_alloc | apply Kd.R_drewN | apply Kd.R_drew)); exact HO_4.out)); (case aS => exact (below_size (by repeat (first | (with_reducible first | exact HB.out | apply below_alloc | apply pw_below_drewN | apply below_drew1) | exact HB.out)))); (case aL => have := LMc15.out; omega); intro v211 w16 ho hb hg hat; rw [← Ny210.out] at ho; have n0_ := Aside0.mk (hb); have n1_ := Aside0.mk (ho); clear HB; clear HO_4; have HB := n0_; have HO212 := n1_; clear n0_ n1_; clear ho hb hg hat))
               go_roundg k2
               case measure => have := HJ1.out; have := HK2.out; omega
               case rel => exact ⟨(y210), (wrap64 ((ji11) + (wrap64 (bt a0 x5_2)))), (by first | rfl | (simp; done) | (simp only [← hji11] <;> (first | rfl | simp)) | (simp [*]; done)), H', ⟨by have := HJ1.out; have := HK2.out; omega⟩, ⟨by (with_reducible repeat (first | apply Kd.R_alloc | apply Kd.R_drewN | apply Kd.R_drew)); exact HO212.out⟩, ⟨by repeat (first | (with_reducible first | exact HB.out | apply below_alloc | apply pw_below_drewN | apply below_drew1) | exact HB.out)⟩⟩
              ·rw [if_neg c15] at H
               exact absurd H (by simp)
             ·rw [if_neg c14] at H
              exact absurd H (by simp)
            ·rw [if_neg c13] at H
             exact absurd H (by simp)
           ·rw [if_neg c12] at H
            exact absurd H (by simp)
       ·rw [if_neg c6] at H
        exact absurd H (by simp)
      ·rw [if_neg c5] at H
       have c5b0 : decide (x5_2 < (a0.size : Int)) = false := decide_eq_false c5
       clear c5
       simp only [Option.some.injEq, Prod.mk.injEq] at H
       obtain ⟨rfl, rfl⟩ := H
       go_wp2
       go_ret2
       exact ⟨_, by first | rfl | (simp [errW_none, errW_some] <;> rfl) | (simp [*, errW_none, errW_some] <;> rfl), by first | exact Kd.R_nil _ _ _ _ _ | exact Kd.N_nil _ _ _ _ _ | exact Kd.V_nil _ _ _ _ _ | exact Kd.Q_nil _ _ _ _ _ | exact Kd.S_nil _ _ _ _ _, by repeat (first | (with_reducible first | exact HB.out | apply below_alloc | apply pw_below_drewN | apply below_drew1) | exact HB.out)⟩

/-! ### wellspringref02_Check: function 25 -/
def wellspringref02_Check.f (k : Nat) (a0 : ByteArray) : Option (Bool) := (wellspringref02_Labels.f k a0).bind fun bt213 => (some bt213.2)
set_option maxHeartbeats 8000000 in
set_option maxRecDepth 100000 in
theorem wellspringref02_Check.calls (k : Nat) (a0 : ByteArray) (r : Bool) (w : World) (h : wellspringref02_Check.f k a0 = some r) :
  Calls Try.prog 25 #[.string a0] w fun e w' => e = .returned (.bool r) ∧ Below w.heap.size w w' := by
 have HB := Aside0.mk (Below.refl w.heap.size w)
 have H : ((wellspringref02_Labels.f k a0).bind fun bt213 => (some bt213.2)) = some r := h
 clear h
 replace H := Option.bind_eq_some_iff.mp H
 obtain ⟨⟨t213, t214⟩, A20, H⟩ := H
 replace H : (some t214) = some r := H
 have A2 := Aside0.mk A20
 clear A20
 obtain rfl := Option.some.inj H
 go_enter Try.func25, Try.ntmps25
 go_wp2_with (first | ((with_reducible refine gate_callee (f := 69) rfl ?_); refine goesL_ (some 7) rfl rfl Try.func69 (by kernel_rfl) rfl #[.string a0] rfl (by (try simp only [List.map_toArray, List.map_cons, List.map_nil]); first | done | rfl | (simp only [List.length_drop, List.length_take]; rfl) | (simp only [ByteArray.size_append, Int.natCast_add]; rfl) | (rw [Go.Proofs.Ytdkkanpbcifkfaa.B.w64] <;> first | rfl | omega | (simp only [decide_eq_false_iff_not, decide_eq_true_eq, Int.not_lt, Nat.not_lt, gt_iff_lt] at * <;> omega))) ?_; (with_reducible refine (wellspringref02_Labels.calls k a0 t213 t214 _ A2.out).mono ?_); rintro e w3 ⟨v215, rfl, ho0, hb⟩; refine ⟨_, rfl, ?_⟩; have n0_ := Aside0.mk (Kd.R_lower ho0 (below_size (by repeat (first | (with_reducible first | exact HB.out | apply below_alloc | apply pw_below_drewN | apply below_drew1) | exact HB.out)))); have n1_ := Aside0.mk (below_step (by repeat (first | (with_reducible first | exact HB.out | apply below_alloc | apply pw_below_drewN | apply below_drew1) | exact HB.out)) hb); clear HB; have HO216 := n0_; have HB := n1_; clear n0_ n1_; (try clear hb); (try clear hb2); (try clear hk); (try clear hi); (try clear ho0)))
 go_ret
 exact ⟨by first | rfl | (simp [errW_none, errW_some] <;> rfl) | (simp [*, errW_none, errW_some] <;> rfl), by repeat (first | (with_reducible first | exact HB.out | apply below_alloc | apply pw_below_drewN | apply below_drew1) | exact HB.out)⟩

-- GIVENPART Derived.Test.YtdkkanpbcifkfaaZRow
/-! ### wellspringref02_Small: function 70 -/
def wellspringref02_Small.f (a0 : ByteArray) : Option ByteArray := if a0.size ≤ 140737488355328 then some (B.lowB a0) else none
set_option maxHeartbeats 8000000 in
set_option maxRecDepth 100000 in
theorem wellspringref02_Small.calls (a0 : ByteArray) (r : ByteArray) (w : World) (h : wellspringref02_Small.f a0 = some r) :
    Calls Try.prog 70 #[.string a0] w fun e w' => e = .returned (.string r) ∧ Below w.heap.size w w' := by
  unfold wellspringref02_Small.f at h
  by_cases hs : a0.size ≤ 140737488355328
  · rw [if_pos hs] at h
    obtain rfl := Option.some.inj h
    clear h
    have kc := fun (W : World) => Lib.run_convert_string_bytes (P := Try.prog) W 9 69 5 a0 Try.underlying9 Try.underlying69 Try.underlying5
    have hb0 := Aside0.mk (B.below_conv (Below.refl w.heap.size w) (Nat.le_refl _) 5 a0)
    have hr0 := Aside0.mk (B.rowAt_conv w 5 a0)
    go_enter Try.func70, Try.ntmps70
    go_wp2
    generalize Lib.bytesWorld w 5 a0 = w1 at hb0 hr0 ⊢
    generalize grownCap w a0.size 0 5 = C
    have hz := Aside0.mk (B.numsOf_length a0)
    have hg := Aside0.mk (Nat.le_refl w.heap.size)
    generalize hgg : w.heap.size = g at hb0 hr0 hg ⊢
    have hg' := Aside0.mk hgg
    clear hgg
    go_loopw [4] (fun v wr => ∃ k : Nat, k ≤ a0.size ∧ v = .int .i64 k ∧ Aside0 (B.RowAt wr g (B.lowTo k (B.numsOf a0))) ∧ Aside0 (Below g w wr)) (fun v _ => a0.size - (intOf v).toNat)
    case atStart => exact ⟨0, Nat.zero_le _, rfl, ⟨by rw [B.lowTo_zero]; exact hr0.out⟩, hb0⟩
    case round =>
      obtain ⟨k, hk, rfl, hrow, hbel⟩ := hrel
      clear hr0 hb0 kc
      by_cases hlt : k < a0.size
      · have hkl : k < (B.numsOf a0).length := by rw [hz.out]; exact hlt
        have hc := (hrow.out k (by rw [B.lowTo_length]; exact hkl))
        rw [B.lowTo_at k _ hkl, B.numsOf_at] at hc
        obtain ⟨hc1, hc2⟩ := hc
        have hrange := B.bt_range' a0 k
        have hset := Aside0.mk (B.rowAt_set hrow.out k (B.smallI (bt a0 k)) (by rw [B.lowTo_length]; exact hkl))
        have hset' := Aside0.mk (show B.RowAt (wr.setCell ⟨g, k, none⟩ (.int .u8 (B.smallI (bt a0 k)))) g (B.lowTo (k + 1) (B.numsOf a0)) by
          have h1 := hset.out
          rw [← B.numsOf_at, B.lowTo_set k _ hkl] at h1
          rw [← B.numsOf_at]
          exact h1)
        have hbel' := Aside0.mk (hbel.out.setCell (p := ⟨g, k, none⟩) (Nat.le_refl _) (.int .u8 (B.smallI (bt a0 k))))
        have hsame := Aside0.mk (show B.smallI (bt a0 k) = bt a0 k → B.RowAt wr g (B.lowTo (k + 1) (B.numsOf a0)) by
          intro he j hj
          have h1 := hrow.out j (by rw [B.lowTo_length] at hj ⊢; exact hj)
          rw [← B.lowTo_set k _ hkl, B.numsOf_at, he]
          by_cases e : j = k
          · subst e
            rw [List.getD_eq_getElem?_getD, List.getElem?_set_self (by rw [B.lowTo_length]; exact hkl)]
            exact ⟨hc1, hc2⟩
          · rw [List.getD_eq_getElem?_getD, List.getElem?_set_ne (fun h => e h.symm), ← List.getD_eq_getElem?_getD]
            exact h1)
        clear hset hrow hkl
        generalize bt a0 k = c at *
        by_cases c1 : 65 ≤ c
        · by_cases c2 : c ≤ 90
          · have d1 : decide (65 ≤ c) = true := decide_eq_true c1
            have d2 : decide (c ≤ 90) = true := decide_eq_true c2
            have e1 : B.smallI c = c + 32 := by unfold B.smallI; rw [if_pos ⟨c1, c2⟩]
            have e2 : (c + 32) % 256 = c + 32 := by omega
            rw [e1] at hset' hbel'
            have e2' := Aside0.mk e2
            clear hsame hbel e1 e2 c1 c2
            go_wp2
            all_goals
              go_roundw
              case rel => exact ⟨k + 1, by omega, by go_num, ⟨fun j hj => by first | exact hset'.out j hj | (rw [e2'.out]; exact hset'.out j hj)⟩, ⟨by first | exact hbel'.out | (rw [e2'.out]; exact hbel'.out) | exact ⟨hbel'.out.os, hbel'.out.tape, hbel'.out.output, hbel'.out.size, hbel'.out.block⟩⟩⟩
              case measure => simp [intOf]; omega
          · have d1 : decide (65 ≤ c) = true := decide_eq_true c1
            have d2 : decide (c ≤ 90) = false := decide_eq_false c2
            have e1 : B.smallI c = c := by unfold B.smallI; rw [if_neg (by omega)]
            have hr2 := Aside0.mk (hsame.out e1)
            clear hsame hset' hbel' e1 c1 c2
            go_wp2
            go_roundw
            case rel => exact ⟨k + 1, by omega, by go_num, hr2, hbel⟩
            case measure => simp [intOf]; omega
        · have d1 : decide (65 ≤ c) = false := decide_eq_false c1
          have e1 : B.smallI c = c := by unfold B.smallI; rw [if_neg (by omega)]
          have hr2 := Aside0.mk (hsame.out e1)
          clear hsame hset' hbel' e1 c1
          go_wp2
          go_roundw
          case rel => exact ⟨k + 1, by omega, by go_num, hr2, hbel⟩
          case measure => simp [intOf]; omega
      · obtain rfl : k = a0.size := by omega
        have hl : (B.lowTo a0.size (B.numsOf a0)).length = a0.size := by rw [B.lowTo_length]; exact hz.out
        have kd := fun (dst : TypeId) (hd : Try.prog.underlying dst = some .string) => run_convert_bytes_arg (P := Try.prog) wr 69 5 Try.underlying69 Try.underlying5 g 0 a0.size C (B.lowTo a0.size (B.numsOf a0)) hl (fun i hi => by rw [Nat.zero_add]; exact (hrow.out i (by rw [hl]; exact hi)).1) dst hd
        replace kd := kd 9 Try.underlying9
        have he := Aside0.mk (show strOfNums (B.lowTo a0.size (B.numsOf a0)) = B.lowB a0 by
          have := B.lowTo_all (B.numsOf a0)
          rw [hz.out] at this
          rw [this]; rfl)
        generalize strOfNums (B.lowTo a0.size (B.numsOf a0)) = q at kd he
        clear hrow hl hlt
        have he' := he.out
        clear he
        subst he'
        go_wp2
        go_ret
        exact ⟨rfl, by rw [hg'.out]; exact hbel.out⟩
  · rw [if_neg hs] at h
    exact absurd h (by simp)

/-! ### wellspringref02_Low: function 38 -/
def wellspringref02_Low.f (k : Nat) (a0 : ByteArray) : Option (ByteArray) := (wellspringref02_Check.f k a0).bind fun t217 => (if t217 = true then ((wellspringref02_Small.f a0).bind fun t218 => (some t218)) else (some (⟨#[]⟩ : ByteArray)))
set_option maxHeartbeats 8000000 in
set_option maxRecDepth 100000 in
theorem wellspringref02_Low.calls (k : Nat) (a0 : ByteArray) (r : ByteArray) (w : World) (h : wellspringref02_Low.f k a0 = some r) :
  Calls Try.prog 38 #[.string a0] w fun e w' => e = .returned (.string r) ∧ Below w.heap.size w w' := by
 have HB := Aside0.mk (Below.refl w.heap.size w)
 have H : ((wellspringref02_Check.f k a0).bind fun t217 => (if t217 = true then ((wellspringref02_Small.f a0).bind fun t218 => (some t218)) else (some (⟨#[]⟩ : ByteArray)))) = some r := h
 clear h
 replace H := Option.bind_eq_some_iff.mp H
 obtain ⟨t217, A20, H⟩ := H
 replace H : (if t217 = true then ((wellspringref02_Small.f a0).bind fun t218 => (some t218)) else (some (⟨#[]⟩ : ByteArray))) = some r := H
 have A2 := Aside0.mk A20
 clear A20
 by_cases c3 : t217 = true
 ·subst c3
  have H1 : ((wellspringref02_Small.f a0).bind fun t218 => (some t218)) = some r := by rw [if_pos rfl] at H; exact H
  clear H
  have H := H1
  clear H1
  replace H := Option.bind_eq_some_iff.mp H
  obtain ⟨t218, A40, H⟩ := H
  replace H : (some t218) = some r := H
  have A4 := Aside0.mk A40
  clear A40
  obtain rfl := Option.some.inj H
  go_enter Try.func38, Try.ntmps38
  go_wp2_with (first | ((with_reducible refine gate_callee (f := 25) rfl ?_); refine goesL_ (some 4) rfl rfl Try.func25 (by kernel_rfl) rfl #[.string a0] rfl (by (try simp only [List.map_toArray, List.map_cons, List.map_nil]); first | done | rfl | (simp only [List.length_drop, List.length_take]; rfl) | (simp only [ByteArray.size_append, Int.natCast_add]; rfl) | (rw [Go.Proofs.Ytdkkanpbcifkfaa.B.w64] <;> first | rfl | omega | (simp only [decide_eq_false_iff_not, decide_eq_true_eq, Int.not_lt, Nat.not_lt, gt_iff_lt] at * <;> omega))) ?_; (with_reducible refine (wellspringref02_Check.calls k a0 true _ A2.out).mono ?_); rintro e w5 ⟨rfl, hb⟩; refine ⟨_, rfl, ?_⟩; have n0_ := Aside0.mk (below_step (by repeat (first | (with_reducible first | exact HB.out | apply below_alloc | apply pw_below_drewN | apply below_drew1) | exact HB.out)) hb); clear HB; have HB := n0_; clear n0_; (try clear hb); (try clear hb2); (try clear hk); (try clear hi)) | ((with_reducible refine gate_callee (f := 70) rfl ?_); refine goesL_ (some 7) rfl rfl Try.func70 (by kernel_rfl) rfl #[.string a0] rfl (by (try simp only [List.map_toArray, List.map_cons, List.map_nil]); first | done | rfl | (simp only [List.length_drop, List.length_take]; rfl) | (simp only [ByteArray.size_append, Int.natCast_add]; rfl) | (rw [Go.Proofs.Ytdkkanpbcifkfaa.B.w64] <;> first | rfl | omega | (simp only [decide_eq_false_iff_not, decide_eq_true_eq, Int.not_lt, Nat.not_lt, gt_iff_lt] at * <;> omega))) ?_; (with_reducible refine (wellspringref02_Small.calls a0 t218 _ A4.out).mono ?_); rintro e w6 ⟨rfl, hb⟩; refine ⟨_, rfl, ?_⟩; have n0_ := Aside0.mk (below_step (by repeat (first | (with_reducible first | exact HB.out | apply below_alloc | apply pw_below_drewN | apply below_drew1) | exact HB.out)) hb); clear HB; have HB := n0_; clear n0_; (try clear hb); (try clear hb2); (try clear hk); (try clear hi)))
  go_ret
  exact ⟨by first | rfl | (simp [errW_none, errW_some] <;> rfl) | (simp [*, errW_none, errW_some] <;> rfl), by repeat (first | (with_reducible first | exact HB.out | apply below_alloc | apply pw_below_drewN | apply below_drew1) | exact HB.out)⟩
 ·replace c3 := Bool.eq_false_iff.mpr c3
  subst c3
  have H1 : (some (⟨#[]⟩ : ByteArray)) = some r := by rw [if_neg (show ¬ (false = true) by decide)] at H; exact H
  clear H
  have H := H1
  clear H1
  obtain rfl := Option.some.inj H
  go_enter Try.func38, Try.ntmps38
  go_wp2_with (first | ((with_reducible refine gate_callee (f := 25) rfl ?_); refine goesL_ (some 4) rfl rfl Try.func25 (by kernel_rfl) rfl #[.string a0] rfl (by (try simp only [List.map_toArray, List.map_cons, List.map_nil]); first | done | rfl | (simp only [List.length_drop, List.length_take]; rfl) | (simp only [ByteArray.size_append, Int.natCast_add]; rfl) | (rw [Go.Proofs.Ytdkkanpbcifkfaa.B.w64] <;> first | rfl | omega | (simp only [decide_eq_false_iff_not, decide_eq_true_eq, Int.not_lt, Nat.not_lt, gt_iff_lt] at * <;> omega))) ?_; (with_reducible refine (wellspringref02_Check.calls k a0 false _ A2.out).mono ?_); rintro e w7 ⟨rfl, hb⟩; refine ⟨_, rfl, ?_⟩; have n0_ := Aside0.mk (below_step (by repeat (first | (with_reducible first | exact HB.out | apply below_alloc | apply pw_below_drewN | apply below_drew1) | exact HB.out)) hb); clear HB; have HB := n0_; clear n0_; (try clear hb); (try clear hb2); (try clear hk); (try clear hi)))
  go_ret
  exact ⟨by first | rfl | (simp [errW_none, errW_some] <;> rfl) | (simp [*, errW_none, errW_some] <;> rfl), by repeat (first | (with_reducible first | exact HB.out | apply below_alloc | apply pw_below_drewN | apply below_drew1) | exact HB.out)⟩

/-! ### wellspringref02_Same: function 26 -/
def wellspringref02_Same.f (k : Nat) (a0 : ByteArray) (a1 : ByteArray) : Option (Bool) := (wellspringref02_Check.f k a0).bind fun t253 => (if t253 = true then ((wellspringref02_Check.f k a1).bind fun t254 => (if t254 = true then ((wellspringref02_Small.f a0).bind fun t255 => ((wellspringref02_Small.f a1).bind fun t256 => (some (t255.toList == t256.toList)))) else (some false))) else (some false))
set_option maxHeartbeats 8000000 in
set_option maxRecDepth 100000 in
theorem wellspringref02_Same.calls (k : Nat) (a0 : ByteArray) (a1 : ByteArray) (r : Bool) (w : World) (h : wellspringref02_Same.f k a0 a1 = some r) :
  Calls Try.prog 26 #[.string a0, .string a1] w fun e w' => e = .returned (.bool r) ∧ Below w.heap.size w w' := by
 have HB := Aside0.mk (Below.refl w.heap.size w)
 have H : ((wellspringref02_Check.f k a0).bind fun t253 => (if t253 = true then ((wellspringref02_Check.f k a1).bind fun t254 => (if t254 = true then ((wellspringref02_Small.f a0).bind fun t255 => ((wellspringref02_Small.f a1).bind fun t256 => (some (t255.toList == t256.toList)))) else (some false))) else (some false))) = some r := h
 clear h
 replace H := Option.bind_eq_some_iff.mp H
 obtain ⟨t253, A30, H⟩ := H
 replace H : (if t253 = true then ((wellspringref02_Check.f k a1).bind fun t254 => (if t254 = true then ((wellspringref02_Small.f a0).bind fun t255 => ((wellspringref02_Small.f a1).bind fun t256 => (some (t255.toList == t256.toList)))) else (some false))) else (some false)) = some r := H
 have A3 := Aside0.mk A30
 clear A30
 by_cases c4 : t253 = true
 ·subst c4
  have H1 : ((wellspringref02_Check.f k a1).bind fun t254 => (if t254 = true then ((wellspringref02_Small.f a0).bind fun t255 => ((wellspringref02_Small.f a1).bind fun t256 => (some (t255.toList == t256.toList)))) else (some false))) = some r := by rw [if_pos rfl] at H; exact H
  clear H
  have H := H1
  clear H1
  replace H := Option.bind_eq_some_iff.mp H
  obtain ⟨t254, A50, H⟩ := H
  replace H : (if t254 = true then ((wellspringref02_Small.f a0).bind fun t255 => ((wellspringref02_Small.f a1).bind fun t256 => (some (t255.toList == t256.toList)))) else (some false)) = some r := H
  have A5 := Aside0.mk A50
  clear A50
  by_cases c6 : t254 = true
  ·subst c6
   have H1 : ((wellspringref02_Small.f a0).bind fun t255 => ((wellspringref02_Small.f a1).bind fun t256 => (some (t255.toList == t256.toList)))) = some r := by rw [if_pos rfl] at H; exact H
   clear H
   have H := H1
   clear H1
   replace H := Option.bind_eq_some_iff.mp H
   obtain ⟨t255, A70, H⟩ := H
   replace H : ((wellspringref02_Small.f a1).bind fun t256 => (some (t255.toList == t256.toList))) = some r := H
   have A7 := Aside0.mk A70
   clear A70
   replace H := Option.bind_eq_some_iff.mp H
   obtain ⟨t256, A80, H⟩ := H
   replace H : (some (t255.toList == t256.toList)) = some r := H
   have A8 := Aside0.mk A80
   clear A80
   obtain rfl := Option.some.inj H
   go_enter Try.func26, Try.ntmps26
   go_wp2_with (first | ((with_reducible refine gate_callee (f := 25) rfl ?_); refine goesL_ (some 6) rfl rfl Try.func25 (by kernel_rfl) rfl #[.string a0] rfl (by (try simp only [List.map_toArray, List.map_cons, List.map_nil]); first | done | rfl | (simp only [List.length_drop, List.length_take]; rfl) | (simp only [ByteArray.size_append, Int.natCast_add]; rfl) | (rw [Go.Proofs.Ytdkkanpbcifkfaa.B.w64] <;> first | rfl | omega | (simp only [decide_eq_false_iff_not, decide_eq_true_eq, Int.not_lt, Nat.not_lt, gt_iff_lt] at * <;> omega))) ?_; (with_reducible refine (wellspringref02_Check.calls k a0 true _ A3.out).mono ?_); rintro e w9 ⟨rfl, hb⟩; refine ⟨_, rfl, ?_⟩; have n0_ := Aside0.mk (below_step (by repeat (first | (with_reducible first | exact HB.out | apply below_alloc | apply pw_below_drewN | apply below_drew1) | exact HB.out)) hb); clear HB; have HB := n0_; clear n0_; (try clear hb); (try clear hb2); (try clear hk); (try clear hi)) | (go_at_call 25; (with_reducible refine (wellspringref02_Check.calls k a1 true _ A5.out).mono ?_); rintro e w10 ⟨rfl, hb⟩; have n0_ := Aside0.mk (below_step (by repeat (first | (with_reducible first | exact HB.out | apply below_alloc | apply pw_below_drewN | apply below_drew1) | exact HB.out)) hb); clear HB; have HB := n0_; clear n0_; (try clear hb); (try clear hb2); (try clear hk); (try clear hi)) | (go_at_call 70; (with_reducible refine (wellspringref02_Small.calls a0 t255 _ A7.out).mono ?_); rintro e w11 ⟨rfl, hb⟩; have n0_ := Aside0.mk (below_step (by repeat (first | (with_reducible first | exact HB.out | apply below_alloc | apply pw_below_drewN | apply below_drew1) | exact HB.out)) hb); clear HB; have HB := n0_; clear n0_; (try clear hb); (try clear hb2); (try clear hk); (try clear hi)) | (go_at_call 70; (with_reducible refine (wellspringref02_Small.calls a1 t256 _ A8.out).mono ?_); rintro e w12 ⟨rfl, hb⟩; have n0_ := Aside0.mk (below_step (by repeat (first | (with_reducible first | exact HB.out | apply below_alloc | apply pw_below_drewN | apply below_drew1) | exact HB.out)) hb); clear HB; have HB := n0_; clear n0_; (try clear hb); (try clear hb2); (try clear hk); (try clear hi)))
   go_ret
   exact ⟨by first | rfl | (simp [errW_none, errW_some] <;> rfl) | (simp [*, errW_none, errW_some] <;> rfl), by repeat (first | (with_reducible first | exact HB.out | apply below_alloc | apply pw_below_drewN | apply below_drew1) | exact HB.out)⟩
  ·replace c6 := Bool.eq_false_iff.mpr c6
   subst c6
   have H1 : (some false) = some r := by rw [if_neg (show ¬ (false = true) by decide)] at H; exact H
   clear H
   have H := H1
   clear H1
   obtain rfl := Option.some.inj H
   go_enter Try.func26, Try.ntmps26
   go_wp2_with (first | ((with_reducible refine gate_callee (f := 25) rfl ?_); refine goesL_ (some 6) rfl rfl Try.func25 (by kernel_rfl) rfl #[.string a0] rfl (by (try simp only [List.map_toArray, List.map_cons, List.map_nil]); first | done | rfl | (simp only [List.length_drop, List.length_take]; rfl) | (simp only [ByteArray.size_append, Int.natCast_add]; rfl) | (rw [Go.Proofs.Ytdkkanpbcifkfaa.B.w64] <;> first | rfl | omega | (simp only [decide_eq_false_iff_not, decide_eq_true_eq, Int.not_lt, Nat.not_lt, gt_iff_lt] at * <;> omega))) ?_; (with_reducible refine (wellspringref02_Check.calls k a0 true _ A3.out).mono ?_); rintro e w13 ⟨rfl, hb⟩; refine ⟨_, rfl, ?_⟩; have n0_ := Aside0.mk (below_step (by repeat (first | (with_reducible first | exact HB.out | apply below_alloc | apply pw_below_drewN | apply below_drew1) | exact HB.out)) hb); clear HB; have HB := n0_; clear n0_; (try clear hb); (try clear hb2); (try clear hk); (try clear hi)) | (go_at_call 25; (with_reducible refine (wellspringref02_Check.calls k a1 false _ A5.out).mono ?_); rintro e w14 ⟨rfl, hb⟩; have n0_ := Aside0.mk (below_step (by repeat (first | (with_reducible first | exact HB.out | apply below_alloc | apply pw_below_drewN | apply below_drew1) | exact HB.out)) hb); clear HB; have HB := n0_; clear n0_; (try clear hb); (try clear hb2); (try clear hk); (try clear hi)))
   go_ret
   exact ⟨by first | rfl | (simp [errW_none, errW_some] <;> rfl) | (simp [*, errW_none, errW_some] <;> rfl), by repeat (first | (with_reducible first | exact HB.out | apply below_alloc | apply pw_below_drewN | apply below_drew1) | exact HB.out)⟩
 ·replace c4 := Bool.eq_false_iff.mpr c4
  subst c4
  have H1 : (some false) = some r := by rw [if_neg (show ¬ (false = true) by decide)] at H; exact H
  clear H
  have H := H1
  clear H1
  obtain rfl := Option.some.inj H
  go_enter Try.func26, Try.ntmps26
  go_wp2_with (first | ((with_reducible refine gate_callee (f := 25) rfl ?_); refine goesL_ (some 6) rfl rfl Try.func25 (by kernel_rfl) rfl #[.string a0] rfl (by (try simp only [List.map_toArray, List.map_cons, List.map_nil]); first | done | rfl | (simp only [List.length_drop, List.length_take]; rfl) | (simp only [ByteArray.size_append, Int.natCast_add]; rfl) | (rw [Go.Proofs.Ytdkkanpbcifkfaa.B.w64] <;> first | rfl | omega | (simp only [decide_eq_false_iff_not, decide_eq_true_eq, Int.not_lt, Nat.not_lt, gt_iff_lt] at * <;> omega))) ?_; (with_reducible refine (wellspringref02_Check.calls k a0 false _ A3.out).mono ?_); rintro e w15 ⟨rfl, hb⟩; refine ⟨_, rfl, ?_⟩; have n0_ := Aside0.mk (below_step (by repeat (first | (with_reducible first | exact HB.out | apply below_alloc | apply pw_below_drewN | apply below_drew1) | exact HB.out)) hb); clear HB; have HB := n0_; clear n0_; (try clear hb); (try clear hb2); (try clear hk); (try clear hi)))
  go_ret
  exact ⟨by first | rfl | (simp [errW_none, errW_some] <;> rfl) | (simp [*, errW_none, errW_some] <;> rfl), by repeat (first | (with_reducible first | exact HB.out | apply below_alloc | apply pw_below_drewN | apply below_drew1) | exact HB.out)⟩

-- GIVENPART Derived.Test.YtdkkanpbcifkfaaZBld Derived.BigRegion Derived.Laws.BitsLemmas
end Go.Proofs.Ytdkkanpbcifkfaa.ZQ

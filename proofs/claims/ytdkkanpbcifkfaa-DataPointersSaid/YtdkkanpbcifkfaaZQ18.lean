-- Written by a program of this session (wip/tools/myprint.py), over the kit's printer; Lean checks it.
import Derived.Test.YtdkkanpbcifkfaaZQ0
import Derived.Test.YtdkkanpbcifkfaaZQ7
import Derived.Test.YtdkkanpbcifkfaaZQ10
import Derived.Test.YtdkkanpbcifkfaaZQ12
namespace Go.Proofs.Ytdkkanpbcifkfaa.ZQ
open Go.RowKit Go.Proofs.YtdkkanpbcifkfaaW.PrintWords Go.Proofs.YtdkkanpbcifkfaaW.PrintLast Go.Proofs.YtdkkanpbcifkfaaW.PrintMore
attribute [local go_sem] max2_int min2_int max_two min_two max_three min_three max_four min_four   -- for this text's walks alone
set_option linter.unusedVariables false
set_option linter.unusedSimpArgs false

/-! ### wellspringlaw05_DataPointers: function 12 -/
mutual
def wellspringlaw05_DataPointers.j0 : Nat → ByteArray → Int → Bool → Option (Bool)
 | 0, _, _, _ => none
 | k + 1, x0, x1, x18 => if x18 = true then ((wellspringlaw05_live.f k).bind fun t285 => (some t285)) else (if x1 = 2 then (wellspringlaw05_DataPointers.j1 k x0 x1 (⟨#[]⟩ : ByteArray) (⟨#[]⟩ : ByteArray) x1 (x1 == 2)) else (if x1 = 5 then (wellspringlaw05_DataPointers.j1 k x0 x1 (⟨#[]⟩ : ByteArray) (⟨#[]⟩ : ByteArray) x1 (x1 == 5)) else (wellspringlaw05_DataPointers.j1 k x0 x1 (⟨#[]⟩ : ByteArray) (⟨#[]⟩ : ByteArray) x1 (x1 == 12))))
def wellspringlaw05_DataPointers.j2 : Nat → ByteArray → Int → ByteArray → ByteArray → Option (Bool)
 | 0, _, _, _, _ => none
 | k + 1, x0, x1, x5, x6 => if x5.size + 2 ≤ 9223372036854775807 then (if (x5 ++ (⟨#[192, 0]⟩ : ByteArray)).size + x6.size ≤ 9223372036854775807 then (if x0.size + ((x5 ++ (⟨#[192, 0]⟩ : ByteArray)) ++ x6).size ≤ 9223372036854775807 then ((data_Expand.f k (x0 ++ ((x5 ++ (⟨#[192, 0]⟩ : ByteArray)) ++ x6)) (x0.size : Int) (((x5 ++ (⟨#[192, 0]⟩ : ByteArray)) ++ x6).size : Int) x1).bind fun bt287 => (if x5.size + x0.size ≤ 9223372036854775807 then (if x1 = 6 then (if x0.size + x0.size ≤ 9223372036854775807 then (if (x0 ++ x0).size + 20 ≤ 9223372036854775807 then (if bt287.2 = 0 then (if bt287.1.toList = ((x0 ++ x0) ++ (⟨#[49, 50, 51, 52, 53, 54, 55, 56, 57, 48, 49, 50, 51, 52, 53, 54, 55, 56, 57, 48]⟩ : ByteArray)).toList then ((data_Check.f k x1 bt287.1).bind fun t289 => (if t289 = true then ((data_Check.f k x1 ((x5 ++ (⟨#[192, 0]⟩ : ByteArray)) ++ x6)).bind fun t290 => (if t290 = true then (some false) else ((wellspringlaw05_live.f k).bind fun t291 => (some t291)))) else (some false))) else (some false)) else (some false)) else (none)) else (none)) else (if bt287.2 = 0 then (if bt287.1.toList = (x5 ++ x0).toList then ((data_Check.f k x1 bt287.1).bind fun t292 => (if t292 = true then ((data_Check.f k x1 ((x5 ++ (⟨#[192, 0]⟩ : ByteArray)) ++ x6)).bind fun t293 => (if t293 = true then (some false) else ((wellspringlaw05_live.f k).bind fun t294 => (some t294)))) else (some false))) else (some false)) else (some false))) else (none))) else (none)) else (none)) else (none)
def wellspringlaw05_DataPointers.j1 : Nat → ByteArray → Int → ByteArray → ByteArray → Int → Bool → Option (Bool)
 | 0, _, _, _, _, _, _ => none
 | k + 1, x0, x1, x5, x6, x20, x22 => if x22 = true then (wellspringlaw05_DataPointers.j2 k x0 x1 x5 x6) else (if x20 = 15 then (wellspringlaw05_DataPointers.j2 k x0 x1 (⟨#[0, 10]⟩ : ByteArray) x6) else (if x20 = 33 then (wellspringlaw05_DataPointers.j2 k x0 x1 (⟨#[49, 50, 51, 52, 53, 54]⟩ : ByteArray) x6) else (if x20 = 6 then (wellspringlaw05_DataPointers.j2 k x0 x1 x5 (⟨#[192, 0, 49, 50, 51, 52, 53, 54, 55, 56, 57, 48, 49, 50, 51, 52, 53, 54, 55, 56, 57, 48]⟩ : ByteArray)) else ((wellspringlaw05_live.f k).bind fun t286 => (some t286)))))
end
def wellspringlaw05_DataPointers.f (k : Nat) (a0 : ByteArray) (a1 : Int) : Option (Bool) := if (a0.size : Int) > 300 then (wellspringlaw05_DataPointers.j0 k a0 a1 true) else ((wellspringref02_Check.f k a0).bind fun t284 => (wellspringlaw05_DataPointers.j0 k a0 a1 (!t284)))
set_option maxHeartbeats 8000000 in
set_option maxRecDepth 100000 in
theorem wellspringlaw05_DataPointers.calls (k : Nat) (a0 : ByteArray) (a1 : Int) (r : Bool) (w : World) (h : wellspringlaw05_DataPointers.f k a0 a1 = some r) :
  Calls Try.prog 12 #[.string a0, .int .i64 a1] w fun e w' => e = .returned (.bool r) ∧ Below w.heap.size w w' := by
 have HB := Aside0.mk (Below.refl w.heap.size w)
 have H : (if (a0.size : Int) > 300 then (wellspringlaw05_DataPointers.j0 k a0 a1 true) else ((wellspringref02_Check.f k a0).bind fun t284 => (wellspringlaw05_DataPointers.j0 k a0 a1 (!t284)))) = some r := h
 clear h
 have HC3 := Aside0.mk H
 clear H
 go_enter Try.func12, Try.ntmps12
 go_upto_region 1 with (fail)
 go_cut [18] (fun v18 wc => ∃ (kq : Nat) (x18_2 : Bool), v18 = .bool x18_2 ∧ Aside0 (wellspringlaw05_DataPointers.j0 kq a0 a1 x18_2 = some r) ∧ Aside0 (kq ≤ k) ∧ Aside0 (Below w.heap.size w wc))
 case first =>
  have H := HC3.out
  clear HC3
  by_cases c4 : (a0.size : Int) > 300
  ·rw [if_pos c4] at H
   have c4b0 : decide (300 < (a0.size : Int)) = true := decide_eq_true c4
   have c4b1 : decide (300 < a0.size) = true := decide_eq_true (by omega)
   clear c4
   (first | rw [c4b0] | rw [c4b2] | (simp only [i64_w, i32_w]; rw [c4b0]) | skip)
   have H' := Aside0.mk H
   clear H
   go_wp2
   go_meet
   case rel => exact ⟨_, (true), (by first | rfl | (simp; done) | (simp [*]; done) | (simp [Go.Proofs.Ytdkkanpbcifkfaa.B.beq_not_bne]; done) | (simp [Go.Proofs.Ytdkkanpbcifkfaa.B.bne_not_beq]; done)), H', ⟨by first | omega | exact Nat.le_refl _⟩, ⟨by repeat (first | (with_reducible first | exact HB.out | apply below_alloc | apply pw_below_drewN | apply below_drew1) | exact HB.out)⟩⟩
  ·rw [if_neg c4] at H
   have c4b0 : decide (300 < (a0.size : Int)) = false := decide_eq_false c4
   have c4b1 : decide (300 < a0.size) = false := decide_eq_false (by omega)
   clear c4
   (first | rw [c4b0] | rw [c4b2] | (simp only [i64_w, i32_w]; rw [c4b0]) | skip)
   replace H := Option.bind_eq_some_iff.mp H
   obtain ⟨t284, A50, H⟩ := H
   replace H : (wellspringlaw05_DataPointers.j0 k a0 a1 (!t284)) = some r := H
   have A5 := Aside0.mk A50
   clear A50
   have H' := Aside0.mk H
   clear H
   go_wp2_with (first | (go_at_call 25; (with_reducible refine (wellspringref02_Check.calls k a0 t284 _ A5.out).mono ?_); rintro e w6 ⟨rfl, hb⟩; have n0_ := Aside0.mk (below_step (by repeat (first | (with_reducible first | exact HB.out | apply below_alloc | apply pw_below_drewN | apply below_drew1) | exact HB.out)) hb); clear HB; have HB := n0_; clear n0_; (try clear hb); (try clear hb2); (try clear hk); (try clear hi)))
   go_meet
   case rel => exact ⟨_, (!t284), (by first | rfl | (simp; done) | (simp [*]; done) | (simp [Go.Proofs.Ytdkkanpbcifkfaa.B.beq_not_bne]; done) | (simp [Go.Proofs.Ytdkkanpbcifkfaa.B.bne_not_beq]; done)), H', ⟨by first | omega | exact Nat.le_refl _⟩, ⟨by repeat (first | (with_reducible first | exact HB.out | apply below_alloc | apply pw_below_drewN | apply below_drew1) | exact HB.out)⟩⟩
 case rest =>
  clear HC3
  try clear c1
  try clear p2
  try clear c4
  try clear c4b0
  try clear c4b1
  try clear c4b2
  obtain ⟨kq, x18_2, rfl, HA, HJ2, HB⟩ := hcut
  cases kq with
  | zero => exact absurd HA.out (by simp [wellspringlaw05_DataPointers.j0])
  | succ kj2 =>
   have H := HA.out
   clear HA
   simp only [wellspringlaw05_DataPointers.j0] at H
   by_cases c7 : x18_2 = true
   ·subst c7
    have H1 : ((wellspringlaw05_live.f kj2).bind fun t285 => (some t285)) = some r := by rw [if_pos rfl] at H; exact H
    clear H
    have H := H1
    clear H1
    replace H := Option.bind_eq_some_iff.mp H
    obtain ⟨t285, A80, H⟩ := H
    replace H : (some t285) = some r := H
    have A8 := Aside0.mk A80
    clear A80
    obtain rfl := Option.some.inj H
    go_wp2_with (first | ((with_reducible refine gate_callee (f := 27) rfl ?_); refine goesL_ (some 19) rfl rfl Try.func27 (by kernel_rfl) rfl #[] rfl (by (try simp only [List.map_toArray, List.map_cons, List.map_nil]); first | done | rfl | (simp only [List.length_drop, List.length_take]; rfl) | (simp only [ByteArray.size_append, Int.natCast_add]; rfl) | (rw [Go.Proofs.Ytdkkanpbcifkfaa.B.w64] <;> first | rfl | omega | (simp only [decide_eq_false_iff_not, decide_eq_true_eq, Int.not_lt, Nat.not_lt, gt_iff_lt] at * <;> omega))) ?_; (with_reducible refine (wellspringlaw05_live.calls kj2  t285 _ A8.out).mono ?_); rintro e w9 ⟨rfl, hb⟩; refine ⟨_, rfl, ?_⟩; have n0_ := Aside0.mk (below_step (by repeat (first | (with_reducible first | exact HB.out | apply below_alloc | apply pw_below_drewN | apply below_drew1) | exact HB.out)) hb); clear HB; have HB := n0_; clear n0_; (try clear hb); (try clear hb2); (try clear hk); (try clear hi)))
    go_ret
    exact ⟨by first | rfl | (simp [errW_none, errW_some] <;> rfl) | (simp [*, errW_none, errW_some] <;> rfl), by repeat (first | (with_reducible first | exact HB.out | apply below_alloc | apply pw_below_drewN | apply below_drew1) | exact HB.out)⟩
   ·replace c7 := Bool.eq_false_iff.mpr c7
    subst c7
    have H1 : (if a1 = 2 then (wellspringlaw05_DataPointers.j1 kj2 a0 a1 (⟨#[]⟩ : ByteArray) (⟨#[]⟩ : ByteArray) a1 (a1 == 2)) else (if a1 = 5 then (wellspringlaw05_DataPointers.j1 kj2 a0 a1 (⟨#[]⟩ : ByteArray) (⟨#[]⟩ : ByteArray) a1 (a1 == 5)) else (wellspringlaw05_DataPointers.j1 kj2 a0 a1 (⟨#[]⟩ : ByteArray) (⟨#[]⟩ : ByteArray) a1 (a1 == 12)))) = some r := by rw [if_neg (show ¬ (false = true) by decide)] at H; exact H
    clear H
    have H := H1
    clear H1
    have HC10 := Aside0.mk H
    clear H
    go_upto_block 0 with (fail)
    go_cut [5, 6] (fun v5 v6 wc => ∃ (kq : Nat) (x5_9 : ByteArray) (x6_9 : ByteArray), v5 = .string x5_9 ∧ v6 = .string x6_9 ∧ Aside0 (wellspringlaw05_DataPointers.j2 kq a0 a1 x5_9 x6_9 = some r) ∧ Aside0 (kq ≤ kj2) ∧ Aside0 (Below w.heap.size w wc))
    case first =>
     have H := HC10.out
     clear HC10
     have HC11 := Aside0.mk H
     clear H
     go_upto_if 22 with (fail)
     go_cut [22] (fun v22 wc => ∃ (kq : Nat) (x22_10 : Bool), v22 = .bool x22_10 ∧ Aside0 (wellspringlaw05_DataPointers.j1 kq a0 a1 (⟨#[]⟩ : ByteArray) (⟨#[]⟩ : ByteArray) a1 x22_10 = some r) ∧ Aside0 (kq ≤ kj2) ∧ Aside0 (Below w.heap.size w wc))
     case first =>
      have H := HC11.out
      clear HC11
      by_cases c12 : a1 = 2
      ·rw [if_pos c12] at H
       have c12b0 : (a1 == 2) = true := beq_iff_eq.mpr c12
       have c12b1 : (a1 != 2) = false := bne_eq_false_iff_eq.mpr c12
       clear c12
       (first | rw [c12b0] | rw [c12b2] | (simp only [i64_w, i32_w]; rw [c12b0]) | skip)
       have H' := Aside0.mk H
       clear H
       go_wp2
       go_meet
       case rel => exact ⟨_, ((a1 == 2)), (by first | rfl | (simp; done) | (simp [*]; done) | (simp [Go.Proofs.Ytdkkanpbcifkfaa.B.beq_not_bne]; done) | (simp [Go.Proofs.Ytdkkanpbcifkfaa.B.bne_not_beq]; done)), H', ⟨by have := HJ2.out; first | omega | exact Nat.le_refl _⟩, ⟨by repeat (first | (with_reducible first | exact HB.out | apply below_alloc | apply pw_below_drewN | apply below_drew1) | exact HB.out)⟩⟩
      ·rw [if_neg c12] at H
       have c12b0 : (a1 == 2) = false := beq_eq_false_iff_ne.mpr c12
       have c12b1 : (a1 != 2) = true := bne_iff_ne.mpr c12
       (first | rw [c12b0] | rw [c12b2] | (simp only [i64_w, i32_w]; rw [c12b0]) | skip)
       by_cases c13 : a1 = 5
       ·rw [if_pos c13] at H
        have c13b0 : (a1 == 5) = true := beq_iff_eq.mpr c13
        have c13b1 : (a1 != 5) = false := bne_eq_false_iff_eq.mpr c13
        clear c13
        have H' := Aside0.mk H
        clear H
        go_wp2
        go_meet
        case rel => exact ⟨_, ((a1 == 5)), (by first | rfl | (simp; done) | (simp [*]; done) | (simp [Go.Proofs.Ytdkkanpbcifkfaa.B.beq_not_bne]; done) | (simp [Go.Proofs.Ytdkkanpbcifkfaa.B.bne_not_beq]; done)), H', ⟨by have := HJ2.out; first | omega | exact Nat.le_refl _⟩, ⟨by repeat (first | (with_reducible first | exact HB.out | apply below_alloc | apply pw_below_drewN | apply below_drew1) | exact HB.out)⟩⟩
       ·rw [if_neg c13] at H
        have c13b0 : (a1 == 5) = false := beq_eq_false_iff_ne.mpr c13
        have c13b1 : (a1 != 5) = true := bne_iff_ne.mpr c13
        have H' := Aside0.mk H
        clear H
        go_wp2
        go_meet
        case rel => exact ⟨_, ((a1 == 12)), (by first | rfl | (simp; done) | (simp [*]; done) | (simp [Go.Proofs.Ytdkkanpbcifkfaa.B.beq_not_bne]; done) | (simp [Go.Proofs.Ytdkkanpbcifkfaa.B.bne_not_beq]; done)), H', ⟨by have := HJ2.out; first | omega | exact Nat.le_refl _⟩, ⟨by repeat (first | (with_reducible first | exact HB.out | apply below_alloc | apply pw_below_drewN | apply below_drew1) | exact HB.out)⟩⟩
     case rest =>
      clear HC11
      try clear c1
      try clear c2
      try clear p2
      try clear c4
      try clear c4b0
      try clear c4b1
      try clear c4b2
      try clear c7
      try clear c12
      try clear c12b0
      try clear c12b1
      try clear c12b2
      try clear c13
      try clear c13b0
      try clear c13b1
      try clear p2
      obtain ⟨kq, x22_10, rfl, HA, HJ10, HB⟩ := hcut
      cases kq with
      | zero => exact absurd HA.out (by simp [wellspringlaw05_DataPointers.j1])
      | succ kj10 =>
       have H := HA.out
       clear HA
       simp only [wellspringlaw05_DataPointers.j1] at H
       by_cases c14 : x22_10 = true
       ·subst c14
        have H1 : (wellspringlaw05_DataPointers.j2 kj10 a0 a1 (⟨#[]⟩ : ByteArray) (⟨#[]⟩ : ByteArray)) = some r := by rw [if_pos rfl] at H; exact H
        clear H
        have H := H1
        clear H1
        have H' := Aside0.mk H
        clear H
        go_wp2
        go_meet
        case rel => exact ⟨_, ((⟨#[]⟩ : ByteArray)), ((⟨#[]⟩ : ByteArray)), (by first | rfl | (simp; done) | (simp [*]; done) | (simp [Go.Proofs.Ytdkkanpbcifkfaa.B.beq_not_bne]; done) | (simp [Go.Proofs.Ytdkkanpbcifkfaa.B.bne_not_beq]; done)), (by first | rfl | (simp; done) | (simp [*]; done) | (simp [Go.Proofs.Ytdkkanpbcifkfaa.B.beq_not_bne]; done) | (simp [Go.Proofs.Ytdkkanpbcifkfaa.B.bne_not_beq]; done)), H', ⟨by have := HJ2.out; have := HJ10.out; first | omega | exact Nat.le_refl _⟩, ⟨by repeat (first | (with_reducible first | exact HB.out | apply below_alloc | apply pw_below_drewN | apply below_drew1) | exact HB.out)⟩⟩
       ·replace c14 := Bool.eq_false_iff.mpr c14
        subst c14
        have H1 : (if a1 = 15 then (wellspringlaw05_DataPointers.j2 kj10 a0 a1 (⟨#[0, 10]⟩ : ByteArray) (⟨#[]⟩ : ByteArray)) else (if a1 = 33 then (wellspringlaw05_DataPointers.j2 kj10 a0 a1 (⟨#[49, 50, 51, 52, 53, 54]⟩ : ByteArray) (⟨#[]⟩ : ByteArray)) else (if a1 = 6 then (wellspringlaw05_DataPointers.j2 kj10 a0 a1 (⟨#[]⟩ : ByteArray) (⟨#[192, 0, 49, 50, 51, 52, 53, 54, 55, 56, 57, 48, 49, 50, 51, 52, 53, 54, 55, 56, 57, 48]⟩ : ByteArray)) else ((wellspringlaw05_live.f kj10).bind fun t286 => (some t286))))) = some r := by rw [if_neg (show ¬ (false = true) by decide)] at H; exact H
        clear H
        have H := H1
        clear H1
        by_cases c15 : a1 = 15
        ·rw [if_pos c15] at H
         have c15b0 : (a1 == 15) = true := beq_iff_eq.mpr c15
         have c15b1 : (a1 != 15) = false := bne_eq_false_iff_eq.mpr c15
         clear c15
         have H' := Aside0.mk H
         clear H
         go_wp2
         go_meet
         case rel => exact ⟨_, ((⟨#[0, 10]⟩ : ByteArray)), ((⟨#[]⟩ : ByteArray)), (by first | rfl | (simp; done) | (simp [*]; done) | (simp [Go.Proofs.Ytdkkanpbcifkfaa.B.beq_not_bne]; done) | (simp [Go.Proofs.Ytdkkanpbcifkfaa.B.bne_not_beq]; done)), (by first | rfl | (simp; done) | (simp [*]; done) | (simp [Go.Proofs.Ytdkkanpbcifkfaa.B.beq_not_bne]; done) | (simp [Go.Proofs.Ytdkkanpbcifkfaa.B.bne_not_beq]; done)), H', ⟨by have := HJ2.out; have := HJ10.out; first | omega | exact Nat.le_refl _⟩, ⟨by repeat (first | (with_reducible first | exact HB.out | apply below_alloc | apply pw_below_drewN | apply below_drew1) | exact HB.out)⟩⟩
        ·rw [if_neg c15] at H
         have c15b0 : (a1 == 15) = false := beq_eq_false_iff_ne.mpr c15
         have c15b1 : (a1 != 15) = true := bne_iff_ne.mpr c15
         by_cases c16 : a1 = 33
         ·rw [if_pos c16] at H
          have c16b0 : (a1 == 33) = true := beq_iff_eq.mpr c16
          have c16b1 : (a1 != 33) = false := bne_eq_false_iff_eq.mpr c16
          clear c16
          have H' := Aside0.mk H
          clear H
          go_wp2
          go_meet
          case rel => exact ⟨_, ((⟨#[49, 50, 51, 52, 53, 54]⟩ : ByteArray)), ((⟨#[]⟩ : ByteArray)), (by first | rfl | (simp; done) | (simp [*]; done) | (simp [Go.Proofs.Ytdkkanpbcifkfaa.B.beq_not_bne]; done) | (simp [Go.Proofs.Ytdkkanpbcifkfaa.B.bne_not_beq]; done)), (by first | rfl | (simp; done) | (simp [*]; done) | (simp [Go.Proofs.Ytdkkanpbcifkfaa.B.beq_not_bne]; done) | (simp [Go.Proofs.Ytdkkanpbcifkfaa.B.bne_not_beq]; done)), H', ⟨by have := HJ2.out; have := HJ10.out; first | omega | exact Nat.le_refl _⟩, ⟨by repeat (first | (with_reducible first | exact HB.out | apply below_alloc | apply pw_below_drewN | apply below_drew1) | exact HB.out)⟩⟩
         ·rw [if_neg c16] at H
          have c16b0 : (a1 == 33) = false := beq_eq_false_iff_ne.mpr c16
          have c16b1 : (a1 != 33) = true := bne_iff_ne.mpr c16
          by_cases c17 : a1 = 6
          ·rw [if_pos c17] at H
           have c17b0 : (a1 == 6) = true := beq_iff_eq.mpr c17
           have c17b1 : (a1 != 6) = false := bne_eq_false_iff_eq.mpr c17
           clear c17
           have H' := Aside0.mk H
           clear H
           go_wp2
           go_meet
           case rel => exact ⟨_, ((⟨#[]⟩ : ByteArray)), ((⟨#[192, 0, 49, 50, 51, 52, 53, 54, 55, 56, 57, 48, 49, 50, 51, 52, 53, 54, 55, 56, 57, 48]⟩ : ByteArray)), (by first | rfl | (simp; done) | (simp [*]; done) | (simp [Go.Proofs.Ytdkkanpbcifkfaa.B.beq_not_bne]; done) | (simp [Go.Proofs.Ytdkkanpbcifkfaa.B.bne_not_beq]; done)), (by first | rfl | (simp; done) | (simp [*]; done) | (simp [Go.Proofs.Ytdkkanpbcifkfaa.B.beq_not_bne]; done) | (simp [Go.Proofs.Ytdkkanpbcifkfaa.B.bne_not_beq]; done)), H', ⟨by have := HJ2.out; have := HJ10.out; first | omega | exact Nat.le_refl _⟩, ⟨by repeat (first | (with_reducible first | exact HB.out | apply below_alloc | apply pw_below_drewN | apply below_drew1) | exact HB.out)⟩⟩
          ·rw [if_neg c17] at H
           have c17b0 : (a1 == 6) = false := beq_eq_false_iff_ne.mpr c17
           have c17b1 : (a1 != 6) = true := bne_iff_ne.mpr c17
           replace H := Option.bind_eq_some_iff.mp H
           obtain ⟨t286, A180, H⟩ := H
           replace H : (some t286) = some r := H
           have A18 := Aside0.mk A180
           clear A180
           obtain rfl := Option.some.inj H
           go_wp2_with (first | ((with_reducible refine gate_callee (f := 27) rfl ?_); refine goesL_ (some 21) rfl rfl Try.func27 (by kernel_rfl) rfl #[] rfl (by (try simp only [List.map_toArray, List.map_cons, List.map_nil]); first | done | rfl | (simp only [List.length_drop, List.length_take]; rfl) | (simp only [ByteArray.size_append, Int.natCast_add]; rfl) | (rw [Go.Proofs.Ytdkkanpbcifkfaa.B.w64] <;> first | rfl | omega | (simp only [decide_eq_false_iff_not, decide_eq_true_eq, Int.not_lt, Nat.not_lt, gt_iff_lt] at * <;> omega))) ?_; (with_reducible refine (wellspringlaw05_live.calls kj10  t286 _ A18.out).mono ?_); rintro e w19 ⟨rfl, hb⟩; refine ⟨_, rfl, ?_⟩; have n0_ := Aside0.mk (below_step (by repeat (first | (with_reducible first | exact HB.out | apply below_alloc | apply pw_below_drewN | apply below_drew1) | exact HB.out)) hb); clear HB; have HB := n0_; clear n0_; (try clear hb); (try clear hb2); (try clear hk); (try clear hi)))
           go_ret
           exact ⟨by first | rfl | (simp [errW_none, errW_some] <;> rfl) | (simp [*, errW_none, errW_some] <;> rfl), by repeat (first | (with_reducible first | exact HB.out | apply below_alloc | apply pw_below_drewN | apply below_drew1) | exact HB.out)⟩
    case rest =>
     clear HC10
     try clear c1
     try clear c2
     try clear p2
     try clear c4
     try clear c4b0
     try clear c4b1
     try clear c4b2
     try clear c7
     try clear c12
     try clear c12b0
     try clear c12b1
     try clear c12b2
     try clear c13
     try clear c13b0
     try clear c13b1
     try clear c14
     try clear c15
     try clear c15b0
     try clear c15b1
     try clear c16
     try clear c16b0
     try clear c16b1
     try clear c17
     try clear c17b0
     try clear c17b1
     try clear p2
     obtain ⟨kq, x5_9, x6_9, rfl, rfl, HA, HJ9, HB⟩ := hcut
     cases kq with
     | zero => exact absurd HA.out (by simp [wellspringlaw05_DataPointers.j2])
     | succ kj9 =>
      have H := HA.out
      clear HA
      simp only [wellspringlaw05_DataPointers.j2] at H
      by_cases c20 : x5_9.size + 2 ≤ 9223372036854775807
      ·rw [if_pos c20] at H
       have c20b0 := eq_true c20
       have c20b1 : decide (x5_9.size + 2 ≤ 9223372036854775807) = true := decide_eq_true c20
       try have c20b2 : (9223372036854775807 < x5_9.size + 2) = False := eq_false (Nat.not_lt.2 c20)
       by_cases c21 : (x5_9 ++ (⟨#[192, 0]⟩ : ByteArray)).size + x6_9.size ≤ 9223372036854775807
       ·rw [if_pos c21] at H
        have c21b0 := eq_true c21
        have c21b1 : decide ((x5_9 ++ (⟨#[192, 0]⟩ : ByteArray)).size + x6_9.size ≤ 9223372036854775807) = true := decide_eq_true c21
        try have c21b2 : (9223372036854775807 < (x5_9 ++ (⟨#[192, 0]⟩ : ByteArray)).size + x6_9.size) = False := eq_false (Nat.not_lt.2 c21)
        try have c21b4 : (9223372036854775807 < (x5_9.size + 2) + x6_9.size) = False := eq_false (by have h_ := c21; simp only [ByteArray.size_append] at h_; (first | omega | (simp at h_; omega)))
        by_cases c22 : a0.size + ((x5_9 ++ (⟨#[192, 0]⟩ : ByteArray)) ++ x6_9).size ≤ 9223372036854775807
        ·rw [if_pos c22] at H
         have c22b0 := eq_true c22
         have c22b1 : decide (a0.size + ((x5_9 ++ (⟨#[192, 0]⟩ : ByteArray)) ++ x6_9).size ≤ 9223372036854775807) = true := decide_eq_true c22
         try have c22b2 : (9223372036854775807 < a0.size + ((x5_9 ++ (⟨#[192, 0]⟩ : ByteArray)) ++ x6_9).size) = False := eq_false (Nat.not_lt.2 c22)
         try have c22b4 : (9223372036854775807 < a0.size + ((x5_9.size + 2) + x6_9.size)) = False := eq_false (by have h_ := c22; simp only [ByteArray.size_append] at h_; (first | omega | (simp at h_; omega)))
         replace H := Option.bind_eq_some_iff.mp H
         obtain ⟨⟨t287, t288⟩, A230, H⟩ := H
         replace H : (if x5_9.size + a0.size ≤ 9223372036854775807 then (if a1 = 6 then (if a0.size + a0.size ≤ 9223372036854775807 then (if (a0 ++ a0).size + 20 ≤ 9223372036854775807 then (if t288 = 0 then (if t287.toList = ((a0 ++ a0) ++ (⟨#[49, 50, 51, 52, 53, 54, 55, 56, 57, 48, 49, 50, 51, 52, 53, 54, 55, 56, 57, 48]⟩ : ByteArray)).toList then ((data_Check.f kj9 a1 t287).bind fun t289 => (if t289 = true then ((data_Check.f kj9 a1 ((x5_9 ++ (⟨#[192, 0]⟩ : ByteArray)) ++ x6_9)).bind fun t290 => (if t290 = true then (some false) else ((wellspringlaw05_live.f kj9).bind fun t291 => (some t291)))) else (some false))) else (some false)) else (some false)) else (none)) else (none)) else (if t288 = 0 then (if t287.toList = (x5_9 ++ a0).toList then ((data_Check.f kj9 a1 t287).bind fun t292 => (if t292 = true then ((data_Check.f kj9 a1 ((x5_9 ++ (⟨#[192, 0]⟩ : ByteArray)) ++ x6_9)).bind fun t293 => (if t293 = true then (some false) else ((wellspringlaw05_live.f kj9).bind fun t294 => (some t294)))) else (some false))) else (some false)) else (some false))) else (none)) = some r := H
         have A23 := Aside0.mk A230
         clear A230
         by_cases c24 : x5_9.size + a0.size ≤ 9223372036854775807
         ·rw [if_pos c24] at H
          have c24b0 := eq_true c24
          have c24b1 : decide (x5_9.size + a0.size ≤ 9223372036854775807) = true := decide_eq_true c24
          try have c24b2 : (9223372036854775807 < x5_9.size + a0.size) = False := eq_false (Nat.not_lt.2 c24)
          by_cases c25 : a1 = 6
          ·rw [if_pos c25] at H
           have c25b0 : (a1 == 6) = true := beq_iff_eq.mpr c25
           have c25b1 : (a1 != 6) = false := bne_eq_false_iff_eq.mpr c25
           clear c25
           by_cases c26 : a0.size + a0.size ≤ 9223372036854775807
           ·rw [if_pos c26] at H
            have c26b0 := eq_true c26
            have c26b1 : decide (a0.size + a0.size ≤ 9223372036854775807) = true := decide_eq_true c26
            try have c26b2 : (9223372036854775807 < a0.size + a0.size) = False := eq_false (Nat.not_lt.2 c26)
            by_cases c27 : (a0 ++ a0).size + 20 ≤ 9223372036854775807
            ·rw [if_pos c27] at H
             have c27b0 := eq_true c27
             have c27b1 : decide ((a0 ++ a0).size + 20 ≤ 9223372036854775807) = true := decide_eq_true c27
             try have c27b2 : (9223372036854775807 < (a0 ++ a0).size + 20) = False := eq_false (Nat.not_lt.2 c27)
             try have c27b4 : (9223372036854775807 < (a0.size + a0.size) + 20) = False := eq_false (by have h_ := c27; simp only [ByteArray.size_append] at h_; (first | omega | (simp at h_; omega)))
             by_cases c28 : t288 = 0
             ·rw [if_pos c28] at H
              have c28b0 : (t288 == 0) = true := beq_iff_eq.mpr c28
              have c28b1 : (t288 != 0) = false := bne_eq_false_iff_eq.mpr c28
              clear c28
              by_cases c29 : t287.toList = ((a0 ++ a0) ++ (⟨#[49, 50, 51, 52, 53, 54, 55, 56, 57, 48, 49, 50, 51, 52, 53, 54, 55, 56, 57, 48]⟩ : ByteArray)).toList
              ·rw [if_pos c29] at H
               have c29b0 : (t287.toList == ((a0 ++ a0) ++ (⟨#[49, 50, 51, 52, 53, 54, 55, 56, 57, 48, 49, 50, 51, 52, 53, 54, 55, 56, 57, 48]⟩ : ByteArray)).toList) = true := beq_iff_eq.mpr c29
               have c29b1 : (t287.toList != ((a0 ++ a0) ++ (⟨#[49, 50, 51, 52, 53, 54, 55, 56, 57, 48, 49, 50, 51, 52, 53, 54, 55, 56, 57, 48]⟩ : ByteArray)).toList) = false := bne_eq_false_iff_eq.mpr c29
               clear c29
               replace H := Option.bind_eq_some_iff.mp H
               obtain ⟨t289, A300, H⟩ := H
               replace H : (if t289 = true then ((data_Check.f kj9 a1 ((x5_9 ++ (⟨#[192, 0]⟩ : ByteArray)) ++ x6_9)).bind fun t290 => (if t290 = true then (some false) else ((wellspringlaw05_live.f kj9).bind fun t291 => (some t291)))) else (some false)) = some r := H
               have A30 := Aside0.mk A300
               clear A300
               by_cases c31 : t289 = true
               ·subst c31
                have H1 : ((data_Check.f kj9 a1 ((x5_9 ++ (⟨#[192, 0]⟩ : ByteArray)) ++ x6_9)).bind fun t290 => (if t290 = true then (some false) else ((wellspringlaw05_live.f kj9).bind fun t291 => (some t291)))) = some r := by rw [if_pos rfl] at H; exact H
                clear H
                have H := H1
                clear H1
                replace H := Option.bind_eq_some_iff.mp H
                obtain ⟨t290, A320, H⟩ := H
                replace H : (if t290 = true then (some false) else ((wellspringlaw05_live.f kj9).bind fun t291 => (some t291))) = some r := H
                have A32 := Aside0.mk A320
                clear A320
                by_cases c33 : t290 = true
                ·subst c33
                 have H1 : (some false) = some r := by rw [if_pos rfl] at H; exact H
                 clear H
                 have H := H1
                 clear H1
                 obtain rfl := Option.some.inj H
                 go_wp2_with (first | ((with_reducible refine gate_callee (f := 28) rfl ?_); refine goesL_ (some 45) rfl rfl Try.func28 (by kernel_rfl) rfl #[.string (a0 ++ ((x5_9 ++ (⟨#[192, 0]⟩ : ByteArray)) ++ x6_9)), .int .i64 (a0.size : Int), .int .i64 (((x5_9 ++ (⟨#[192, 0]⟩ : ByteArray)) ++ x6_9).size : Int), .int .i64 a1] rfl (by (try simp only [List.map_toArray, List.map_cons, List.map_nil]); first | done | rfl | (simp only [List.length_drop, List.length_take]; rfl) | (simp only [ByteArray.size_append, Int.natCast_add]; rfl) | (rw [Go.Proofs.Ytdkkanpbcifkfaa.B.w64] <;> first | rfl | omega | (simp only [decide_eq_false_iff_not, decide_eq_true_eq, Int.not_lt, Nat.not_lt, gt_iff_lt] at * <;> omega))) ?_; (with_reducible refine (data_Expand.calls kj9 (a0 ++ ((x5_9 ++ (⟨#[192, 0]⟩ : ByteArray)) ++ x6_9)) (a0.size : Int) (((x5_9 ++ (⟨#[192, 0]⟩ : ByteArray)) ++ x6_9).size : Int) a1 t287 t288 _ A23.out).mono ?_); rintro e w34 ⟨rfl, hb⟩; refine ⟨_, rfl, ?_⟩; have n0_ := Aside0.mk (below_step (by repeat (first | (with_reducible first | exact HB.out | apply below_alloc | apply pw_below_drewN | apply below_drew1) | exact HB.out)) hb); clear HB; have HB := n0_; clear n0_; (try clear hb); (try clear hb2); (try clear hk); (try clear hi)) | (go_at_call 30; (with_reducible refine (data_Check.calls kj9 a1 t287 true _ A30.out).mono ?_); rintro e w35 ⟨rfl, hb⟩; have n0_ := Aside0.mk (below_step (by repeat (first | (with_reducible first | exact HB.out | apply below_alloc | apply pw_below_drewN | apply below_drew1) | exact HB.out)) hb); clear HB; have HB := n0_; clear n0_; (try clear hb); (try clear hb2); (try clear hk); (try clear hi)) | (go_at_call 30; (with_reducible refine (data_Check.calls kj9 a1 ((x5_9 ++ (⟨#[192, 0]⟩ : ByteArray)) ++ x6_9) true _ A32.out).mono ?_); rintro e w36 ⟨rfl, hb⟩; have n0_ := Aside0.mk (below_step (by repeat (first | (with_reducible first | exact HB.out | apply below_alloc | apply pw_below_drewN | apply below_drew1) | exact HB.out)) hb); clear HB; have HB := n0_; clear n0_; (try clear hb); (try clear hb2); (try clear hk); (try clear hi)))
                 go_ret
                 exact ⟨by first | rfl | (simp [errW_none, errW_some] <;> rfl) | (simp [*, errW_none, errW_some] <;> rfl), by repeat (first | (with_reducible first | exact HB.out | apply below_alloc | apply pw_below_drewN | apply below_drew1) | exact HB.out)⟩
                ·replace c33 := Bool.eq_false_iff.mpr c33
                 subst c33
                 have H1 : ((wellspringlaw05_live.f kj9).bind fun t291 => (some t291)) = some r := by rw [if_neg (show ¬ (false = true) by decide)] at H; exact H
                 clear H
                 have H := H1
                 clear H1
                 replace H := Option.bind_eq_some_iff.mp H
                 obtain ⟨t291, A370, H⟩ := H
                 replace H : (some t291) = some r := H
                 have A37 := Aside0.mk A370
                 clear A370
                 obtain rfl := Option.some.inj H
                 go_wp2_with (first | ((with_reducible refine gate_callee (f := 28) rfl ?_); refine goesL_ (some 45) rfl rfl Try.func28 (by kernel_rfl) rfl #[.string (a0 ++ ((x5_9 ++ (⟨#[192, 0]⟩ : ByteArray)) ++ x6_9)), .int .i64 (a0.size : Int), .int .i64 (((x5_9 ++ (⟨#[192, 0]⟩ : ByteArray)) ++ x6_9).size : Int), .int .i64 a1] rfl (by (try simp only [List.map_toArray, List.map_cons, List.map_nil]); first | done | rfl | (simp only [List.length_drop, List.length_take]; rfl) | (simp only [ByteArray.size_append, Int.natCast_add]; rfl) | (rw [Go.Proofs.Ytdkkanpbcifkfaa.B.w64] <;> first | rfl | omega | (simp only [decide_eq_false_iff_not, decide_eq_true_eq, Int.not_lt, Nat.not_lt, gt_iff_lt] at * <;> omega))) ?_; (with_reducible refine (data_Expand.calls kj9 (a0 ++ ((x5_9 ++ (⟨#[192, 0]⟩ : ByteArray)) ++ x6_9)) (a0.size : Int) (((x5_9 ++ (⟨#[192, 0]⟩ : ByteArray)) ++ x6_9).size : Int) a1 t287 t288 _ A23.out).mono ?_); rintro e w38 ⟨rfl, hb⟩; refine ⟨_, rfl, ?_⟩; have n0_ := Aside0.mk (below_step (by repeat (first | (with_reducible first | exact HB.out | apply below_alloc | apply pw_below_drewN | apply below_drew1) | exact HB.out)) hb); clear HB; have HB := n0_; clear n0_; (try clear hb); (try clear hb2); (try clear hk); (try clear hi)) | (go_at_call 30; (with_reducible refine (data_Check.calls kj9 a1 t287 true _ A30.out).mono ?_); rintro e w39 ⟨rfl, hb⟩; have n0_ := Aside0.mk (below_step (by repeat (first | (with_reducible first | exact HB.out | apply below_alloc | apply pw_below_drewN | apply below_drew1) | exact HB.out)) hb); clear HB; have HB := n0_; clear n0_; (try clear hb); (try clear hb2); (try clear hk); (try clear hi)) | (go_at_call 30; (with_reducible refine (data_Check.calls kj9 a1 ((x5_9 ++ (⟨#[192, 0]⟩ : ByteArray)) ++ x6_9) false _ A32.out).mono ?_); rintro e w40 ⟨rfl, hb⟩; have n0_ := Aside0.mk (below_step (by repeat (first | (with_reducible first | exact HB.out | apply below_alloc | apply pw_below_drewN | apply below_drew1) | exact HB.out)) hb); clear HB; have HB := n0_; clear n0_; (try clear hb); (try clear hb2); (try clear hk); (try clear hi)) | (go_at_call 27; (with_reducible refine (wellspringlaw05_live.calls kj9  t291 _ A37.out).mono ?_); rintro e w41 ⟨rfl, hb⟩; have n0_ := Aside0.mk (below_step (by repeat (first | (with_reducible first | exact HB.out | apply below_alloc | apply pw_below_drewN | apply below_drew1) | exact HB.out)) hb); clear HB; have HB := n0_; clear n0_; (try clear hb); (try clear hb2); (try clear hk); (try clear hi)))
                 go_ret
                 exact ⟨by first | rfl | (simp [errW_none, errW_some] <;> rfl) | (simp [*, errW_none, errW_some] <;> rfl), by repeat (first | (with_reducible first | exact HB.out | apply below_alloc | apply pw_below_drewN | apply below_drew1) | exact HB.out)⟩
               ·replace c31 := Bool.eq_false_iff.mpr c31
                subst c31
                have H1 : (some false) = some r := by rw [if_neg (show ¬ (false = true) by decide)] at H; exact H
                clear H
                have H := H1
                clear H1
                obtain rfl := Option.some.inj H
                go_wp2_with (first | ((with_reducible refine gate_callee (f := 28) rfl ?_); refine goesL_ (some 45) rfl rfl Try.func28 (by kernel_rfl) rfl #[.string (a0 ++ ((x5_9 ++ (⟨#[192, 0]⟩ : ByteArray)) ++ x6_9)), .int .i64 (a0.size : Int), .int .i64 (((x5_9 ++ (⟨#[192, 0]⟩ : ByteArray)) ++ x6_9).size : Int), .int .i64 a1] rfl (by (try simp only [List.map_toArray, List.map_cons, List.map_nil]); first | done | rfl | (simp only [List.length_drop, List.length_take]; rfl) | (simp only [ByteArray.size_append, Int.natCast_add]; rfl) | (rw [Go.Proofs.Ytdkkanpbcifkfaa.B.w64] <;> first | rfl | omega | (simp only [decide_eq_false_iff_not, decide_eq_true_eq, Int.not_lt, Nat.not_lt, gt_iff_lt] at * <;> omega))) ?_; (with_reducible refine (data_Expand.calls kj9 (a0 ++ ((x5_9 ++ (⟨#[192, 0]⟩ : ByteArray)) ++ x6_9)) (a0.size : Int) (((x5_9 ++ (⟨#[192, 0]⟩ : ByteArray)) ++ x6_9).size : Int) a1 t287 t288 _ A23.out).mono ?_); rintro e w42 ⟨rfl, hb⟩; refine ⟨_, rfl, ?_⟩; have n0_ := Aside0.mk (below_step (by repeat (first | (with_reducible first | exact HB.out | apply below_alloc | apply pw_below_drewN | apply below_drew1) | exact HB.out)) hb); clear HB; have HB := n0_; clear n0_; (try clear hb); (try clear hb2); (try clear hk); (try clear hi)) | (go_at_call 30; (with_reducible refine (data_Check.calls kj9 a1 t287 false _ A30.out).mono ?_); rintro e w43 ⟨rfl, hb⟩; have n0_ := Aside0.mk (below_step (by repeat (first | (with_reducible first | exact HB.out | apply below_alloc | apply pw_below_drewN | apply below_drew1) | exact HB.out)) hb); clear HB; have HB := n0_; clear n0_; (try clear hb); (try clear hb2); (try clear hk); (try clear hi)))
                go_ret
                exact ⟨by first | rfl | (simp [errW_none, errW_some] <;> rfl) | (simp [*, errW_none, errW_some] <;> rfl), by repeat (first | (with_reducible first | exact HB.out | apply below_alloc | apply pw_below_drewN | apply below_drew1) | exact HB.out)⟩
              ·rw [if_neg c29] at H
               have c29b0 : (t287.toList == ((a0 ++ a0) ++ (⟨#[49, 50, 51, 52, 53, 54, 55, 56, 57, 48, 49, 50, 51, 52, 53, 54, 55, 56, 57, 48]⟩ : ByteArray)).toList) = false := beq_eq_false_iff_ne.mpr c29
               have c29b1 : (t287.toList != ((a0 ++ a0) ++ (⟨#[49, 50, 51, 52, 53, 54, 55, 56, 57, 48, 49, 50, 51, 52, 53, 54, 55, 56, 57, 48]⟩ : ByteArray)).toList) = true := bne_iff_ne.mpr c29
               obtain rfl := Option.some.inj H
               go_wp2_with (first | ((with_reducible refine gate_callee (f := 28) rfl ?_); refine goesL_ (some 45) rfl rfl Try.func28 (by kernel_rfl) rfl #[.string (a0 ++ ((x5_9 ++ (⟨#[192, 0]⟩ : ByteArray)) ++ x6_9)), .int .i64 (a0.size : Int), .int .i64 (((x5_9 ++ (⟨#[192, 0]⟩ : ByteArray)) ++ x6_9).size : Int), .int .i64 a1] rfl (by (try simp only [List.map_toArray, List.map_cons, List.map_nil]); first | done | rfl | (simp only [List.length_drop, List.length_take]; rfl) | (simp only [ByteArray.size_append, Int.natCast_add]; rfl) | (rw [Go.Proofs.Ytdkkanpbcifkfaa.B.w64] <;> first | rfl | omega | (simp only [decide_eq_false_iff_not, decide_eq_true_eq, Int.not_lt, Nat.not_lt, gt_iff_lt] at * <;> omega))) ?_; (with_reducible refine (data_Expand.calls kj9 (a0 ++ ((x5_9 ++ (⟨#[192, 0]⟩ : ByteArray)) ++ x6_9)) (a0.size : Int) (((x5_9 ++ (⟨#[192, 0]⟩ : ByteArray)) ++ x6_9).size : Int) a1 t287 t288 _ A23.out).mono ?_); rintro e w44 ⟨rfl, hb⟩; refine ⟨_, rfl, ?_⟩; have n0_ := Aside0.mk (below_step (by repeat (first | (with_reducible first | exact HB.out | apply below_alloc | apply pw_below_drewN | apply below_drew1) | exact HB.out)) hb); clear HB; have HB := n0_; clear n0_; (try clear hb); (try clear hb2); (try clear hk); (try clear hi)))
               go_ret
               exact ⟨by first | rfl | (simp [errW_none, errW_some] <;> rfl) | (simp [*, errW_none, errW_some] <;> rfl), by repeat (first | (with_reducible first | exact HB.out | apply below_alloc | apply pw_below_drewN | apply below_drew1) | exact HB.out)⟩
             ·rw [if_neg c28] at H
              have c28b0 : (t288 == 0) = false := beq_eq_false_iff_ne.mpr c28
              have c28b1 : (t288 != 0) = true := bne_iff_ne.mpr c28
              obtain rfl := Option.some.inj H
              go_wp2_with (first | ((with_reducible refine gate_callee (f := 28) rfl ?_); refine goesL_ (some 45) rfl rfl Try.func28 (by kernel_rfl) rfl #[.string (a0 ++ ((x5_9 ++ (⟨#[192, 0]⟩ : ByteArray)) ++ x6_9)), .int .i64 (a0.size : Int), .int .i64 (((x5_9 ++ (⟨#[192, 0]⟩ : ByteArray)) ++ x6_9).size : Int), .int .i64 a1] rfl (by (try simp only [List.map_toArray, List.map_cons, List.map_nil]); first | done | rfl | (simp only [List.length_drop, List.length_take]; rfl) | (simp only [ByteArray.size_append, Int.natCast_add]; rfl) | (rw [Go.Proofs.Ytdkkanpbcifkfaa.B.w64] <;> first | rfl | omega | (simp only [decide_eq_false_iff_not, decide_eq_true_eq, Int.not_lt, Nat.not_lt, gt_iff_lt] at * <;> omega))) ?_; (with_reducible refine (data_Expand.calls kj9 (a0 ++ ((x5_9 ++ (⟨#[192, 0]⟩ : ByteArray)) ++ x6_9)) (a0.size : Int) (((x5_9 ++ (⟨#[192, 0]⟩ : ByteArray)) ++ x6_9).size : Int) a1 t287 t288 _ A23.out).mono ?_); rintro e w45 ⟨rfl, hb⟩; refine ⟨_, rfl, ?_⟩; have n0_ := Aside0.mk (below_step (by repeat (first | (with_reducible first | exact HB.out | apply below_alloc | apply pw_below_drewN | apply below_drew1) | exact HB.out)) hb); clear HB; have HB := n0_; clear n0_; (try clear hb); (try clear hb2); (try clear hk); (try clear hi)))
              go_ret
              exact ⟨by first | rfl | (simp [errW_none, errW_some] <;> rfl) | (simp [*, errW_none, errW_some] <;> rfl), by repeat (first | (with_reducible first | exact HB.out | apply below_alloc | apply pw_below_drewN | apply below_drew1) | exact HB.out)⟩
            ·rw [if_neg c27] at H
             exact absurd H (by simp)
           ·rw [if_neg c26] at H
            exact absurd H (by simp)
          ·rw [if_neg c25] at H
           have c25b0 : (a1 == 6) = false := beq_eq_false_iff_ne.mpr c25
           have c25b1 : (a1 != 6) = true := bne_iff_ne.mpr c25
           by_cases c46 : t288 = 0
           ·rw [if_pos c46] at H
            have c46b0 : (t288 == 0) = true := beq_iff_eq.mpr c46
            have c46b1 : (t288 != 0) = false := bne_eq_false_iff_eq.mpr c46
            clear c46
            by_cases c47 : t287.toList = (x5_9 ++ a0).toList
            ·rw [if_pos c47] at H
             have c47b0 : (t287.toList == (x5_9 ++ a0).toList) = true := beq_iff_eq.mpr c47
             have c47b1 : (t287.toList != (x5_9 ++ a0).toList) = false := bne_eq_false_iff_eq.mpr c47
             clear c47
             replace H := Option.bind_eq_some_iff.mp H
             obtain ⟨t292, A480, H⟩ := H
             replace H : (if t292 = true then ((data_Check.f kj9 a1 ((x5_9 ++ (⟨#[192, 0]⟩ : ByteArray)) ++ x6_9)).bind fun t293 => (if t293 = true then (some false) else ((wellspringlaw05_live.f kj9).bind fun t294 => (some t294)))) else (some false)) = some r := H
             have A48 := Aside0.mk A480
             clear A480
             by_cases c49 : t292 = true
             ·subst c49
              have H1 : ((data_Check.f kj9 a1 ((x5_9 ++ (⟨#[192, 0]⟩ : ByteArray)) ++ x6_9)).bind fun t293 => (if t293 = true then (some false) else ((wellspringlaw05_live.f kj9).bind fun t294 => (some t294)))) = some r := by rw [if_pos rfl] at H; exact H
              clear H
              have H := H1
              clear H1
              replace H := Option.bind_eq_some_iff.mp H
              obtain ⟨t293, A500, H⟩ := H
              replace H : (if t293 = true then (some false) else ((wellspringlaw05_live.f kj9).bind fun t294 => (some t294))) = some r := H
              have A50 := Aside0.mk A500
              clear A500
              by_cases c51 : t293 = true
              ·subst c51
               have H1 : (some false) = some r := by rw [if_pos rfl] at H; exact H
               clear H
               have H := H1
               clear H1
               obtain rfl := Option.some.inj H
               go_wp2_with (first | ((with_reducible refine gate_callee (f := 28) rfl ?_); refine goesL_ (some 45) rfl rfl Try.func28 (by kernel_rfl) rfl #[.string (a0 ++ ((x5_9 ++ (⟨#[192, 0]⟩ : ByteArray)) ++ x6_9)), .int .i64 (a0.size : Int), .int .i64 (((x5_9 ++ (⟨#[192, 0]⟩ : ByteArray)) ++ x6_9).size : Int), .int .i64 a1] rfl (by (try simp only [List.map_toArray, List.map_cons, List.map_nil]); first | done | rfl | (simp only [List.length_drop, List.length_take]; rfl) | (simp only [ByteArray.size_append, Int.natCast_add]; rfl) | (rw [Go.Proofs.Ytdkkanpbcifkfaa.B.w64] <;> first | rfl | omega | (simp only [decide_eq_false_iff_not, decide_eq_true_eq, Int.not_lt, Nat.not_lt, gt_iff_lt] at * <;> omega))) ?_; (with_reducible refine (data_Expand.calls kj9 (a0 ++ ((x5_9 ++ (⟨#[192, 0]⟩ : ByteArray)) ++ x6_9)) (a0.size : Int) (((x5_9 ++ (⟨#[192, 0]⟩ : ByteArray)) ++ x6_9).size : Int) a1 t287 t288 _ A23.out).mono ?_); rintro e w52 ⟨rfl, hb⟩; refine ⟨_, rfl, ?_⟩; have n0_ := Aside0.mk (below_step (by repeat (first | (with_reducible first | exact HB.out | apply below_alloc | apply pw_below_drewN | apply below_drew1) | exact HB.out)) hb); clear HB; have HB := n0_; clear n0_; (try clear hb); (try clear hb2); (try clear hk); (try clear hi)) | (go_at_call 30; (with_reducible refine (data_Check.calls kj9 a1 t287 true _ A48.out).mono ?_); rintro e w53 ⟨rfl, hb⟩; have n0_ := Aside0.mk (below_step (by repeat (first | (with_reducible first | exact HB.out | apply below_alloc | apply pw_below_drewN | apply below_drew1) | exact HB.out)) hb); clear HB; have HB := n0_; clear n0_; (try clear hb); (try clear hb2); (try clear hk); (try clear hi)) | (go_at_call 30; (with_reducible refine (data_Check.calls kj9 a1 ((x5_9 ++ (⟨#[192, 0]⟩ : ByteArray)) ++ x6_9) true _ A50.out).mono ?_); rintro e w54 ⟨rfl, hb⟩; have n0_ := Aside0.mk (below_step (by repeat (first | (with_reducible first | exact HB.out | apply below_alloc | apply pw_below_drewN | apply below_drew1) | exact HB.out)) hb); clear HB; have HB := n0_; clear n0_; (try clear hb); (try clear hb2); (try clear hk); (try clear hi)))
               go_ret
               exact ⟨by first | rfl | (simp [errW_none, errW_some] <;> rfl) | (simp [*, errW_none, errW_some] <;> rfl), by repeat (first | (with_reducible first | exact HB.out | apply below_alloc | apply pw_below_drewN | apply below_drew1) | exact HB.out)⟩
              ·replace c51 := Bool.eq_false_iff.mpr c51
               subst c51
               have H1 : ((wellspringlaw05_live.f kj9).bind fun t294 => (some t294)) = some r := by rw [if_neg (show ¬ (false = true) by decide)] at H; exact H
               clear H
               have H := H1
               clear H1
               replace H := Option.bind_eq_some_iff.mp H
               obtain ⟨t294, A550, H⟩ := H
               replace H : (some t294) = some r := H
               have A55 := Aside0.mk A550
               clear A550
               obtain rfl := Option.some.inj H
               go_wp2_with (first | ((with_reducible refine gate_callee (f := 28) rfl ?_); refine goesL_ (some 45) rfl rfl Try.func28 (by kernel_rfl) rfl #[.string (a0 ++ ((x5_9 ++ (⟨#[192, 0]⟩ : ByteArray)) ++ x6_9)), .int .i64 (a0.size : Int), .int .i64 (((x5_9 ++ (⟨#[192, 0]⟩ : ByteArray)) ++ x6_9).size : Int), .int .i64 a1] rfl (by (try simp only [List.map_toArray, List.map_cons, List.map_nil]); first | done | rfl | (simp only [List.length_drop, List.length_take]; rfl) | (simp only [ByteArray.size_append, Int.natCast_add]; rfl) | (rw [Go.Proofs.Ytdkkanpbcifkfaa.B.w64] <;> first | rfl | omega | (simp only [decide_eq_false_iff_not, decide_eq_true_eq, Int.not_lt, Nat.not_lt, gt_iff_lt] at * <;> omega))) ?_; (with_reducible refine (data_Expand.calls kj9 (a0 ++ ((x5_9 ++ (⟨#[192, 0]⟩ : ByteArray)) ++ x6_9)) (a0.size : Int) (((x5_9 ++ (⟨#[192, 0]⟩ : ByteArray)) ++ x6_9).size : Int) a1 t287 t288 _ A23.out).mono ?_); rintro e w56 ⟨rfl, hb⟩; refine ⟨_, rfl, ?_⟩; have n0_ := Aside0.mk (below_step (by repeat (first | (with_reducible first | exact HB.out | apply below_alloc | apply pw_below_drewN | apply below_drew1) | exact HB.out)) hb); clear HB; have HB := n0_; clear n0_; (try clear hb); (try clear hb2); (try clear hk); (try clear hi)) | (go_at_call 30; (with_reducible refine (data_Check.calls kj9 a1 t287 true _ A48.out).mono ?_); rintro e w57 ⟨rfl, hb⟩; have n0_ := Aside0.mk (below_step (by repeat (first | (with_reducible first | exact HB.out | apply below_alloc | apply pw_below_drewN | apply below_drew1) | exact HB.out)) hb); clear HB; have HB := n0_; clear n0_; (try clear hb); (try clear hb2); (try clear hk); (try clear hi)) | (go_at_call 30; (with_reducible refine (data_Check.calls kj9 a1 ((x5_9 ++ (⟨#[192, 0]⟩ : ByteArray)) ++ x6_9) false _ A50.out).mono ?_); rintro e w58 ⟨rfl, hb⟩; have n0_ := Aside0.mk (below_step (by repeat (first | (with_reducible first | exact HB.out | apply below_alloc | apply pw_below_drewN | apply below_drew1) | exact HB.out)) hb); clear HB; have HB := n0_; clear n0_; (try clear hb); (try clear hb2); (try clear hk); (try clear hi)) | (go_at_call 27; (with_reducible refine (wellspringlaw05_live.calls kj9  t294 _ A55.out).mono ?_); rintro e w59 ⟨rfl, hb⟩; have n0_ := Aside0.mk (below_step (by repeat (first | (with_reducible first | exact HB.out | apply below_alloc | apply pw_below_drewN | apply below_drew1) | exact HB.out)) hb); clear HB; have HB := n0_; clear n0_; (try clear hb); (try clear hb2); (try clear hk); (try clear hi)))
               go_ret
               exact ⟨by first | rfl | (simp [errW_none, errW_some] <;> rfl) | (simp [*, errW_none, errW_some] <;> rfl), by repeat (first | (with_reducible first | exact HB.out | apply below_alloc | apply pw_below_drewN | apply below_drew1) | exact HB.out)⟩
             ·replace c49 := Bool.eq_false_iff.mpr c49
              subst c49
              have H1 : (some false) = some r := by rw [if_neg (show ¬ (false = true) by decide)] at H; exact H
              clear H
              have H := H1
              clear H1
              obtain rfl := Option.some.inj H
              go_wp2_with (first | ((with_reducible refine gate_callee (f := 28) rfl ?_); refine goesL_ (some 45) rfl rfl Try.func28 (by kernel_rfl) rfl #[.string (a0 ++ ((x5_9 ++ (⟨#[192, 0]⟩ : ByteArray)) ++ x6_9)), .int .i64 (a0.size : Int), .int .i64 (((x5_9 ++ (⟨#[192, 0]⟩ : ByteArray)) ++ x6_9).size : Int), .int .i64 a1] rfl (by (try simp only [List.map_toArray, List.map_cons, List.map_nil]); first | done | rfl | (simp only [List.length_drop, List.length_take]; rfl) | (simp only [ByteArray.size_append, Int.natCast_add]; rfl) | (rw [Go.Proofs.Ytdkkanpbcifkfaa.B.w64] <;> first | rfl | omega | (simp only [decide_eq_false_iff_not, decide_eq_true_eq, Int.not_lt, Nat.not_lt, gt_iff_lt] at * <;> omega))) ?_; (with_reducible refine (data_Expand.calls kj9 (a0 ++ ((x5_9 ++ (⟨#[192, 0]⟩ : ByteArray)) ++ x6_9)) (a0.size : Int) (((x5_9 ++ (⟨#[192, 0]⟩ : ByteArray)) ++ x6_9).size : Int) a1 t287 t288 _ A23.out).mono ?_); rintro e w60 ⟨rfl, hb⟩; refine ⟨_, rfl, ?_⟩; have n0_ := Aside0.mk (below_step (by repeat (first | (with_reducible first | exact HB.out | apply below_alloc | apply pw_below_drewN | apply below_drew1) | exact HB.out)) hb); clear HB; have HB := n0_; clear n0_; (try clear hb); (try clear hb2); (try clear hk); (try clear hi)) | (go_at_call 30; (with_reducible refine (data_Check.calls kj9 a1 t287 false _ A48.out).mono ?_); rintro e w61 ⟨rfl, hb⟩; have n0_ := Aside0.mk (below_step (by repeat (first | (with_reducible first | exact HB.out | apply below_alloc | apply pw_below_drewN | apply below_drew1) | exact HB.out)) hb); clear HB; have HB := n0_; clear n0_; (try clear hb); (try clear hb2); (try clear hk); (try clear hi)))
              go_ret
              exact ⟨by first | rfl | (simp [errW_none, errW_some] <;> rfl) | (simp [*, errW_none, errW_some] <;> rfl), by repeat (first | (with_reducible first | exact HB.out | apply below_alloc | apply pw_below_drewN | apply below_drew1) | exact HB.out)⟩
            ·rw [if_neg c47] at H
             have c47b0 : (t287.toList == (x5_9 ++ a0).toList) = false := beq_eq_false_iff_ne.mpr c47
             have c47b1 : (t287.toList != (x5_9 ++ a0).toList) = true := bne_iff_ne.mpr c47
             obtain rfl := Option.some.inj H
             go_wp2_with (first | ((with_reducible refine gate_callee (f := 28) rfl ?_); refine goesL_ (some 45) rfl rfl Try.func28 (by kernel_rfl) rfl #[.string (a0 ++ ((x5_9 ++ (⟨#[192, 0]⟩ : ByteArray)) ++ x6_9)), .int .i64 (a0.size : Int), .int .i64 (((x5_9 ++ (⟨#[192, 0]⟩ : ByteArray)) ++ x6_9).size : Int), .int .i64 a1] rfl (by (try simp only [List.map_toArray, List.map_cons, List.map_nil]); first | done | rfl | (simp only [List.length_drop, List.length_take]; rfl) | (simp only [ByteArray.size_append, Int.natCast_add]; rfl) | (rw [Go.Proofs.Ytdkkanpbcifkfaa.B.w64] <;> first | rfl | omega | (simp only [decide_eq_false_iff_not, decide_eq_true_eq, Int.not_lt, Nat.not_lt, gt_iff_lt] at * <;> omega))) ?_; (with_reducible refine (data_Expand.calls kj9 (a0 ++ ((x5_9 ++ (⟨#[192, 0]⟩ : ByteArray)) ++ x6_9)) (a0.size : Int) (((x5_9 ++ (⟨#[192, 0]⟩ : ByteArray)) ++ x6_9).size : Int) a1 t287 t288 _ A23.out).mono ?_); rintro e w62 ⟨rfl, hb⟩; refine ⟨_, rfl, ?_⟩; have n0_ := Aside0.mk (below_step (by repeat (first | (with_reducible first | exact HB.out | apply below_alloc | apply pw_below_drewN | apply below_drew1) | exact HB.out)) hb); clear HB; have HB := n0_; clear n0_; (try clear hb); (try clear hb2); (try clear hk); (try clear hi)))
             go_ret
             exact ⟨by first | rfl | (simp [errW_none, errW_some] <;> rfl) | (simp [*, errW_none, errW_some] <;> rfl), by repeat (first | (with_reducible first | exact HB.out | apply below_alloc | apply pw_below_drewN | apply below_drew1) | exact HB.out)⟩
           ·rw [if_neg c46] at H
            have c46b0 : (t288 == 0) = false := beq_eq_false_iff_ne.mpr c46
            have c46b1 : (t288 != 0) = true := bne_iff_ne.mpr c46
            obtain rfl := Option.some.inj H
            go_wp2_with (first | ((with_reducible refine gate_callee (f := 28) rfl ?_); refine goesL_ (some 45) rfl rfl Try.func28 (by kernel_rfl) rfl #[.string (a0 ++ ((x5_9 ++ (⟨#[192, 0]⟩ : ByteArray)) ++ x6_9)), .int .i64 (a0.size : Int), .int .i64 (((x5_9 ++ (⟨#[192, 0]⟩ : ByteArray)) ++ x6_9).size : Int), .int .i64 a1] rfl (by (try simp only [List.map_toArray, List.map_cons, List.map_nil]); first | done | rfl | (simp only [List.length_drop, List.length_take]; rfl) | (simp only [ByteArray.size_append, Int.natCast_add]; rfl) | (rw [Go.Proofs.Ytdkkanpbcifkfaa.B.w64] <;> first | rfl | omega | (simp only [decide_eq_false_iff_not, decide_eq_true_eq, Int.not_lt, Nat.not_lt, gt_iff_lt] at * <;> omega))) ?_; (with_reducible refine (data_Expand.calls kj9 (a0 ++ ((x5_9 ++ (⟨#[192, 0]⟩ : ByteArray)) ++ x6_9)) (a0.size : Int) (((x5_9 ++ (⟨#[192, 0]⟩ : ByteArray)) ++ x6_9).size : Int) a1 t287 t288 _ A23.out).mono ?_); rintro e w63 ⟨rfl, hb⟩; refine ⟨_, rfl, ?_⟩; have n0_ := Aside0.mk (below_step (by repeat (first | (with_reducible first | exact HB.out | apply below_alloc | apply pw_below_drewN | apply below_drew1) | exact HB.out)) hb); clear HB; have HB := n0_; clear n0_; (try clear hb); (try clear hb2); (try clear hk); (try clear hi)))
            go_ret
            exact ⟨by first | rfl | (simp [errW_none, errW_some] <;> rfl) | (simp [*, errW_none, errW_some] <;> rfl), by repeat (first | (with_reducible first | exact HB.out | apply below_alloc | apply pw_below_drewN | apply below_drew1) | exact HB.out)⟩
         ·rw [if_neg c24] at H
          exact absurd H (by simp)
        ·rw [if_neg c22] at H
         exact absurd H (by simp)
       ·rw [if_neg c21] at H
        exact absurd H (by simp)
      ·rw [if_neg c20] at H
       exact absurd H (by simp)

/-- THE ONE PURE STATEMENT of wellspringlaw05_DataPointers: yours. -/
def wellspringlaw05_DataPointers.Pure : Prop := ∀ (a0 : ByteArray) (a1 : Int), a0.size ≤ 140737488351232 → (Lit.int .i64 a1).wf = true → ∃ k, wellspringlaw05_DataPointers.f k a0 a1 = some true
theorem wellspringlaw05_DataPointers.walk (P : wellspringlaw05_DataPointers.Pure) (a0 : ByteArray) (a1 : Int) (w : World) (w0 : a0.size ≤ 140737488351232) (w1 : (Lit.int .i64 a1).wf = true) :
  Calls Try.prog 12 #[.string a0, .int .i64 a1] w fun e w' => e = .returned (.bool true) ∧ Below w.heap.size w w' := by
 obtain ⟨k, h⟩ := P a0 a1 w0 w1
 refine (wellspringlaw05_DataPointers.calls k a0 a1 true w h).mono ?_
 rintro e w' ⟨rfl, hd⟩
 exact ⟨rfl, hd⟩

end Go.Proofs.Ytdkkanpbcifkfaa.ZQ

-- Written by a program of this session (wip/tools/myprint.py), over the kit's printer; Lean checks it.
import Derived.Test.YtdkkanpbcifkfaaZQ0
import Derived.Test.YtdkkanpbcifkfaaZQ10
import Derived.Test.YtdkkanpbcifkfaaZQ12
namespace Go.Proofs.Ytdkkanpbcifkfaa.ZQ
open Go.RowKit Go.Proofs.YtdkkanpbcifkfaaW.PrintWords Go.Proofs.YtdkkanpbcifkfaaW.PrintLast Go.Proofs.YtdkkanpbcifkfaaW.PrintMore
attribute [local go_sem] max2_int min2_int max_two min_two max_three min_three max_four min_four   -- for this text's walks alone
set_option linter.unusedVariables false
set_option linter.unusedSimpArgs false

/-! ### wellspringlaw05_DataKinds: function 13 -/
mutual
def wellspringlaw05_DataKinds.j0 : Nat → ByteArray → Int → Bool → Option (Bool)
 | 0, _, _, _ => none
 | k + 1, x0, x1, x22 => if x22 = true then (some false) else (if x1 = 1 then (wellspringlaw05_DataKinds.j1 k x0 x1 true) else (if x1 = 2 then (wellspringlaw05_DataKinds.j1 k x0 x1 true) else (if x1 = 5 then (wellspringlaw05_DataKinds.j1 k x0 x1 true) else (if x1 = 6 then (wellspringlaw05_DataKinds.j1 k x0 x1 true) else (if x1 = 12 then (wellspringlaw05_DataKinds.j1 k x0 x1 true) else (if x1 = 15 then (wellspringlaw05_DataKinds.j1 k x0 x1 true) else (if x1 = 16 then (wellspringlaw05_DataKinds.j1 k x0 x1 true) else (if x1 = 28 then (wellspringlaw05_DataKinds.j1 k x0 x1 true) else (wellspringlaw05_DataKinds.j1 k x0 x1 (x1 == 33))))))))))
def wellspringlaw05_DataKinds.j1 : Nat → ByteArray → Int → Bool → Option (Bool)
 | 0, _, _, _ => none
 | k + 1, x0, x1, x56 => if x56 = true then ((wellspringlaw05_live.f k).bind fun t246 => (some t246)) else ((data_Check.f k x1 x0).bind fun t247 => (if t247 = true then ((data_Low.f k x1 x0).bind fun t248 => (if t248.toList = x0.toList then ((data_Names.f k x1 x0).bind fun t249 => (if (t249.length : Int) = 0 then ((wellspringlaw05_live.f k).bind fun t252 => (some t252)) else (some false))) else (some false))) else (some false)))
end
def wellspringlaw05_DataKinds.f (k : Nat) (a0 : ByteArray) (a1 : Int) : Option (Bool) := if (a0.size : Int) > 65535 then ((wellspringlaw05_live.f k).bind fun t243 => (some t243)) else ((data_Check.f k 1 a0).bind fun t244 => (if (t244 != ((a0.size : Int) == 4)) = true then (wellspringlaw05_DataKinds.j0 k a0 a1 true) else ((data_Check.f k 28 a0).bind fun t245 => (wellspringlaw05_DataKinds.j0 k a0 a1 (t245 != ((a0.size : Int) == 16))))))
set_option maxHeartbeats 8000000 in
set_option maxRecDepth 100000 in
theorem wellspringlaw05_DataKinds.calls (k : Nat) (a0 : ByteArray) (a1 : Int) (r : Bool) (w : World) (h : wellspringlaw05_DataKinds.f k a0 a1 = some r) :
  Calls Try.prog 13 #[.string a0, .int .i64 a1] w fun e w' => e = .returned (.bool r) ∧ Below w.heap.size w w' := by
 have HB := Aside0.mk (Below.refl w.heap.size w)
 have H : (if (a0.size : Int) > 65535 then ((wellspringlaw05_live.f k).bind fun t243 => (some t243)) else ((data_Check.f k 1 a0).bind fun t244 => (if (t244 != ((a0.size : Int) == 4)) = true then (wellspringlaw05_DataKinds.j0 k a0 a1 true) else ((data_Check.f k 28 a0).bind fun t245 => (wellspringlaw05_DataKinds.j0 k a0 a1 (t245 != ((a0.size : Int) == 16))))))) = some r := h
 clear h
 by_cases c3 : (a0.size : Int) > 65535
 ·rw [if_pos c3] at H
  have c3b0 : decide (65535 < (a0.size : Int)) = true := decide_eq_true c3
  have c3b1 : decide (65535 < a0.size) = true := decide_eq_true (by omega)
  clear c3
  replace H := Option.bind_eq_some_iff.mp H
  obtain ⟨t243, A40, H⟩ := H
  replace H : (some t243) = some r := H
  have A4 := Aside0.mk A40
  clear A40
  obtain rfl := Option.some.inj H
  go_enter Try.func13, Try.ntmps13
  go_wp2_with (first | ((with_reducible refine gate_callee (f := 27) rfl ?_); refine goesL_ (some 8) rfl rfl Try.func27 (by kernel_rfl) rfl #[] rfl (by (try simp only [List.map_toArray, List.map_cons, List.map_nil]); first | done | rfl | (simp only [List.length_drop, List.length_take]; rfl) | (simp only [ByteArray.size_append, Int.natCast_add]; rfl) | (rw [Go.Proofs.Ytdkkanpbcifkfaa.B.w64] <;> first | rfl | omega | (simp only [decide_eq_false_iff_not, decide_eq_true_eq, Int.not_lt, Nat.not_lt, gt_iff_lt] at * <;> omega))) ?_; (with_reducible refine (wellspringlaw05_live.calls k  t243 _ A4.out).mono ?_); rintro e w5 ⟨rfl, hb⟩; refine ⟨_, rfl, ?_⟩; have n0_ := Aside0.mk (below_step (by repeat (first | (with_reducible first | exact HB.out | apply below_alloc | apply pw_below_drewN | apply below_drew1) | exact HB.out)) hb); clear HB; have HB := n0_; clear n0_; (try clear hb); (try clear hb2); (try clear hk); (try clear hi)))
  go_ret
  exact ⟨by first | rfl | (simp [errW_none, errW_some] <;> rfl) | (simp [*, errW_none, errW_some] <;> rfl), by repeat (first | (with_reducible first | exact HB.out | apply below_alloc | apply pw_below_drewN | apply below_drew1) | exact HB.out)⟩
 ·rw [if_neg c3] at H
  have c3b0 : decide (65535 < (a0.size : Int)) = false := decide_eq_false c3
  have c3b1 : decide (65535 < a0.size) = false := decide_eq_false (by omega)
  clear c3
  have HC6 := Aside0.mk H
  clear H
  go_enter Try.func13, Try.ntmps13
  go_upto_region 3 with (fail)
  go_cut [22] (fun v22 wc => ∃ (kq : Nat) (x22_5 : Bool), v22 = .bool x22_5 ∧ Aside0 (wellspringlaw05_DataKinds.j0 kq a0 a1 x22_5 = some r) ∧ Aside0 (kq ≤ k) ∧ Aside0 (Below w.heap.size w wc))
  case first =>
   have H := HC6.out
   clear HC6
   replace H := Option.bind_eq_some_iff.mp H
   obtain ⟨t244, A70, H⟩ := H
   replace H : (if (t244 != ((a0.size : Int) == 4)) = true then (wellspringlaw05_DataKinds.j0 k a0 a1 true) else ((data_Check.f k 28 a0).bind fun t245 => (wellspringlaw05_DataKinds.j0 k a0 a1 (t245 != ((a0.size : Int) == 16))))) = some r := H
   have A7 := Aside0.mk A70
   clear A70
   by_cases c8 : (t244 != ((a0.size : Int) == 4)) = true
   ·rw [if_pos c8] at H
    have c8b0 : (t244 != ((a0.size : Int) == 4)) = true := c8
    (try (have c8b1 : decide (t244 = ((a0.size : Int) == 4)) = false := by simpa using c8))
    (try (have c8b2 : (t244 == ((a0.size : Int) == 4)) = false := by simpa using c8))
    (try (have c8b3 : ¬ (t244 = ((a0.size : Int) == 4)) := by simpa using c8))
    clear c8
    (first | rw [c8b0] | rw [c8b2] | (simp only [i64_w, i32_w]; rw [c8b0]) | skip)
    have H' := Aside0.mk H
    clear H
    go_wp2_with (first | ((with_reducible refine gate_callee (f := 30) rfl ?_); refine goesL_ (some 10) rfl rfl Try.func30 (by kernel_rfl) rfl #[.int .i64 1, .string a0] rfl (by (try simp only [List.map_toArray, List.map_cons, List.map_nil]); first | done | rfl | (simp only [List.length_drop, List.length_take]; rfl) | (simp only [ByteArray.size_append, Int.natCast_add]; rfl) | (rw [Go.Proofs.Ytdkkanpbcifkfaa.B.w64] <;> first | rfl | omega | (simp only [decide_eq_false_iff_not, decide_eq_true_eq, Int.not_lt, Nat.not_lt, gt_iff_lt] at * <;> omega))) ?_; (with_reducible refine (data_Check.calls k 1 a0 t244 _ A7.out).mono ?_); rintro e w9 ⟨rfl, hb⟩; refine ⟨_, rfl, ?_⟩; have n0_ := Aside0.mk (below_step (by repeat (first | (with_reducible first | exact HB.out | apply below_alloc | apply pw_below_drewN | apply below_drew1) | exact HB.out)) hb); clear HB; have HB := n0_; clear n0_; (try clear hb); (try clear hb2); (try clear hk); (try clear hi)))
    go_meet
    case rel => exact ⟨_, (true), (by first | rfl | (simp; done) | (simp [*]; done) | (simp [Go.Proofs.Ytdkkanpbcifkfaa.B.beq_not_bne]; done) | (simp [Go.Proofs.Ytdkkanpbcifkfaa.B.bne_not_beq]; done)), H', ⟨by first | omega | exact Nat.le_refl _⟩, ⟨by repeat (first | (with_reducible first | exact HB.out | apply below_alloc | apply pw_below_drewN | apply below_drew1) | exact HB.out)⟩⟩
   ·rw [if_neg c8] at H
    have c8b0 : (t244 != ((a0.size : Int) == 4)) = false := by simpa using c8
    (try (have c8b1 : decide (t244 = ((a0.size : Int) == 4)) = true := by simpa using c8))
    (try (have c8b2 : (t244 == ((a0.size : Int) == 4)) = true := by simpa using c8))
    clear c8
    (first | rw [c8b0] | rw [c8b2] | (simp only [i64_w, i32_w]; rw [c8b0]) | skip)
    replace H := Option.bind_eq_some_iff.mp H
    obtain ⟨t245, A100, H⟩ := H
    replace H : (wellspringlaw05_DataKinds.j0 k a0 a1 (t245 != ((a0.size : Int) == 16))) = some r := H
    have A10 := Aside0.mk A100
    clear A100
    have H' := Aside0.mk H
    clear H
    go_wp2_with (first | ((with_reducible refine gate_callee (f := 30) rfl ?_); refine goesL_ (some 10) rfl rfl Try.func30 (by kernel_rfl) rfl #[.int .i64 1, .string a0] rfl (by (try simp only [List.map_toArray, List.map_cons, List.map_nil]); first | done | rfl | (simp only [List.length_drop, List.length_take]; rfl) | (simp only [ByteArray.size_append, Int.natCast_add]; rfl) | (rw [Go.Proofs.Ytdkkanpbcifkfaa.B.w64] <;> first | rfl | omega | (simp only [decide_eq_false_iff_not, decide_eq_true_eq, Int.not_lt, Nat.not_lt, gt_iff_lt] at * <;> omega))) ?_; (with_reducible refine (data_Check.calls k 1 a0 t244 _ A7.out).mono ?_); rintro e w11 ⟨rfl, hb⟩; refine ⟨_, rfl, ?_⟩; have n0_ := Aside0.mk (below_step (by repeat (first | (with_reducible first | exact HB.out | apply below_alloc | apply pw_below_drewN | apply below_drew1) | exact HB.out)) hb); clear HB; have HB := n0_; clear n0_; (try clear hb); (try clear hb2); (try clear hk); (try clear hi)) | (go_at_call 30; (with_reducible refine (data_Check.calls k 28 a0 t245 _ A10.out).mono ?_); rintro e w12 ⟨rfl, hb⟩; have n0_ := Aside0.mk (below_step (by repeat (first | (with_reducible first | exact HB.out | apply below_alloc | apply pw_below_drewN | apply below_drew1) | exact HB.out)) hb); clear HB; have HB := n0_; clear n0_; (try clear hb); (try clear hb2); (try clear hk); (try clear hi)))
    go_meet
    case rel => exact ⟨_, ((t245 != ((a0.size : Int) == 16))), (by first | rfl | (simp; done) | (simp [*]; done) | (simp [Go.Proofs.Ytdkkanpbcifkfaa.B.beq_not_bne]; done) | (simp [Go.Proofs.Ytdkkanpbcifkfaa.B.bne_not_beq]; done)), H', ⟨by first | omega | exact Nat.le_refl _⟩, ⟨by repeat (first | (with_reducible first | exact HB.out | apply below_alloc | apply pw_below_drewN | apply below_drew1) | exact HB.out)⟩⟩
  case rest =>
   clear HC6
   try clear c1
   try clear c2
   try clear p2
   try clear c3
   try clear c3b0
   try clear c3b1
   try clear c8
   try clear c8b0
   try clear c8b1
   try clear c8b2
   obtain ⟨kq, x22_5, rfl, HA, HJ5, HB⟩ := hcut
   cases kq with
   | zero => exact absurd HA.out (by simp [wellspringlaw05_DataKinds.j0])
   | succ kj5 =>
    have H := HA.out
    clear HA
    simp only [wellspringlaw05_DataKinds.j0] at H
    by_cases c13 : x22_5 = true
    ·subst c13
     have H1 : (some false) = some r := by rw [if_pos rfl] at H; exact H
     clear H
     have H := H1
     clear H1
     obtain rfl := Option.some.inj H
     go_wp2
     go_ret
     exact ⟨by first | rfl | (simp [errW_none, errW_some] <;> rfl) | (simp [*, errW_none, errW_some] <;> rfl), by repeat (first | (with_reducible first | exact HB.out | apply below_alloc | apply pw_below_drewN | apply below_drew1) | exact HB.out)⟩
    ·replace c13 := Bool.eq_false_iff.mpr c13
     subst c13
     have H1 : (if a1 = 1 then (wellspringlaw05_DataKinds.j1 kj5 a0 a1 true) else (if a1 = 2 then (wellspringlaw05_DataKinds.j1 kj5 a0 a1 true) else (if a1 = 5 then (wellspringlaw05_DataKinds.j1 kj5 a0 a1 true) else (if a1 = 6 then (wellspringlaw05_DataKinds.j1 kj5 a0 a1 true) else (if a1 = 12 then (wellspringlaw05_DataKinds.j1 kj5 a0 a1 true) else (if a1 = 15 then (wellspringlaw05_DataKinds.j1 kj5 a0 a1 true) else (if a1 = 16 then (wellspringlaw05_DataKinds.j1 kj5 a0 a1 true) else (if a1 = 28 then (wellspringlaw05_DataKinds.j1 kj5 a0 a1 true) else (wellspringlaw05_DataKinds.j1 kj5 a0 a1 (a1 == 33)))))))))) = some r := by rw [if_neg (show ¬ (false = true) by decide)] at H; exact H
     clear H
     have H := H1
     clear H1
     have HC14 := Aside0.mk H
     clear H
     go_upto_region 5 with (fail)
     go_cut [56] (fun v56 wc => ∃ (kq : Nat) (x56_13 : Bool), v56 = .bool x56_13 ∧ Aside0 (wellspringlaw05_DataKinds.j1 kq a0 a1 x56_13 = some r) ∧ Aside0 (kq ≤ kj5) ∧ Aside0 (Below w.heap.size w wc))
     case first =>
      have H := HC14.out
      clear HC14
      by_cases c15 : a1 = 1
      ·rw [if_pos c15] at H
       have c15b0 : (a1 == 1) = true := beq_iff_eq.mpr c15
       have c15b1 : (a1 != 1) = false := bne_eq_false_iff_eq.mpr c15
       clear c15
       (first | rw [c15b0] | rw [c15b2] | (simp only [i64_w, i32_w]; rw [c15b0]) | skip)
       have H' := Aside0.mk H
       clear H
       go_wp2
       go_meet
       case rel => exact ⟨_, (true), (by first | rfl | (simp; done) | (simp [*]; done) | (simp [Go.Proofs.Ytdkkanpbcifkfaa.B.beq_not_bne]; done) | (simp [Go.Proofs.Ytdkkanpbcifkfaa.B.bne_not_beq]; done)), H', ⟨by have := HJ5.out; first | omega | exact Nat.le_refl _⟩, ⟨by repeat (first | (with_reducible first | exact HB.out | apply below_alloc | apply pw_below_drewN | apply below_drew1) | exact HB.out)⟩⟩
      ·rw [if_neg c15] at H
       have c15b0 : (a1 == 1) = false := beq_eq_false_iff_ne.mpr c15
       have c15b1 : (a1 != 1) = true := bne_iff_ne.mpr c15
       (first | rw [c15b0] | rw [c15b2] | (simp only [i64_w, i32_w]; rw [c15b0]) | skip)
       by_cases c16 : a1 = 2
       ·rw [if_pos c16] at H
        have c16b0 : (a1 == 2) = true := beq_iff_eq.mpr c16
        have c16b1 : (a1 != 2) = false := bne_eq_false_iff_eq.mpr c16
        clear c16
        have H' := Aside0.mk H
        clear H
        go_wp2
        go_meet
        case rel => exact ⟨_, (true), (by first | rfl | (simp; done) | (simp [*]; done) | (simp [Go.Proofs.Ytdkkanpbcifkfaa.B.beq_not_bne]; done) | (simp [Go.Proofs.Ytdkkanpbcifkfaa.B.bne_not_beq]; done)), H', ⟨by have := HJ5.out; first | omega | exact Nat.le_refl _⟩, ⟨by repeat (first | (with_reducible first | exact HB.out | apply below_alloc | apply pw_below_drewN | apply below_drew1) | exact HB.out)⟩⟩
       ·rw [if_neg c16] at H
        have c16b0 : (a1 == 2) = false := beq_eq_false_iff_ne.mpr c16
        have c16b1 : (a1 != 2) = true := bne_iff_ne.mpr c16
        by_cases c17 : a1 = 5
        ·rw [if_pos c17] at H
         have c17b0 : (a1 == 5) = true := beq_iff_eq.mpr c17
         have c17b1 : (a1 != 5) = false := bne_eq_false_iff_eq.mpr c17
         clear c17
         have H' := Aside0.mk H
         clear H
         go_wp2
         go_meet
         case rel => exact ⟨_, (true), (by first | rfl | (simp; done) | (simp [*]; done) | (simp [Go.Proofs.Ytdkkanpbcifkfaa.B.beq_not_bne]; done) | (simp [Go.Proofs.Ytdkkanpbcifkfaa.B.bne_not_beq]; done)), H', ⟨by have := HJ5.out; first | omega | exact Nat.le_refl _⟩, ⟨by repeat (first | (with_reducible first | exact HB.out | apply below_alloc | apply pw_below_drewN | apply below_drew1) | exact HB.out)⟩⟩
        ·rw [if_neg c17] at H
         have c17b0 : (a1 == 5) = false := beq_eq_false_iff_ne.mpr c17
         have c17b1 : (a1 != 5) = true := bne_iff_ne.mpr c17
         by_cases c18 : a1 = 6
         ·rw [if_pos c18] at H
          have c18b0 : (a1 == 6) = true := beq_iff_eq.mpr c18
          have c18b1 : (a1 != 6) = false := bne_eq_false_iff_eq.mpr c18
          clear c18
          have H' := Aside0.mk H
          clear H
          go_wp2
          go_meet
          case rel => exact ⟨_, (true), (by first | rfl | (simp; done) | (simp [*]; done) | (simp [Go.Proofs.Ytdkkanpbcifkfaa.B.beq_not_bne]; done) | (simp [Go.Proofs.Ytdkkanpbcifkfaa.B.bne_not_beq]; done)), H', ⟨by have := HJ5.out; first | omega | exact Nat.le_refl _⟩, ⟨by repeat (first | (with_reducible first | exact HB.out | apply below_alloc | apply pw_below_drewN | apply below_drew1) | exact HB.out)⟩⟩
         ·rw [if_neg c18] at H
          have c18b0 : (a1 == 6) = false := beq_eq_false_iff_ne.mpr c18
          have c18b1 : (a1 != 6) = true := bne_iff_ne.mpr c18
          by_cases c19 : a1 = 12
          ·rw [if_pos c19] at H
           have c19b0 : (a1 == 12) = true := beq_iff_eq.mpr c19
           have c19b1 : (a1 != 12) = false := bne_eq_false_iff_eq.mpr c19
           clear c19
           have H' := Aside0.mk H
           clear H
           go_wp2
           go_meet
           case rel => exact ⟨_, (true), (by first | rfl | (simp; done) | (simp [*]; done) | (simp [Go.Proofs.Ytdkkanpbcifkfaa.B.beq_not_bne]; done) | (simp [Go.Proofs.Ytdkkanpbcifkfaa.B.bne_not_beq]; done)), H', ⟨by have := HJ5.out; first | omega | exact Nat.le_refl _⟩, ⟨by repeat (first | (with_reducible first | exact HB.out | apply below_alloc | apply pw_below_drewN | apply below_drew1) | exact HB.out)⟩⟩
          ·rw [if_neg c19] at H
           have c19b0 : (a1 == 12) = false := beq_eq_false_iff_ne.mpr c19
           have c19b1 : (a1 != 12) = true := bne_iff_ne.mpr c19
           by_cases c20 : a1 = 15
           ·rw [if_pos c20] at H
            have c20b0 : (a1 == 15) = true := beq_iff_eq.mpr c20
            have c20b1 : (a1 != 15) = false := bne_eq_false_iff_eq.mpr c20
            clear c20
            have H' := Aside0.mk H
            clear H
            go_wp2
            go_meet
            case rel => exact ⟨_, (true), (by first | rfl | (simp; done) | (simp [*]; done) | (simp [Go.Proofs.Ytdkkanpbcifkfaa.B.beq_not_bne]; done) | (simp [Go.Proofs.Ytdkkanpbcifkfaa.B.bne_not_beq]; done)), H', ⟨by have := HJ5.out; first | omega | exact Nat.le_refl _⟩, ⟨by repeat (first | (with_reducible first | exact HB.out | apply below_alloc | apply pw_below_drewN | apply below_drew1) | exact HB.out)⟩⟩
           ·rw [if_neg c20] at H
            have c20b0 : (a1 == 15) = false := beq_eq_false_iff_ne.mpr c20
            have c20b1 : (a1 != 15) = true := bne_iff_ne.mpr c20
            by_cases c21 : a1 = 16
            ·rw [if_pos c21] at H
             have c21b0 : (a1 == 16) = true := beq_iff_eq.mpr c21
             have c21b1 : (a1 != 16) = false := bne_eq_false_iff_eq.mpr c21
             clear c21
             have H' := Aside0.mk H
             clear H
             go_wp2
             go_meet
             case rel => exact ⟨_, (true), (by first | rfl | (simp; done) | (simp [*]; done) | (simp [Go.Proofs.Ytdkkanpbcifkfaa.B.beq_not_bne]; done) | (simp [Go.Proofs.Ytdkkanpbcifkfaa.B.bne_not_beq]; done)), H', ⟨by have := HJ5.out; first | omega | exact Nat.le_refl _⟩, ⟨by repeat (first | (with_reducible first | exact HB.out | apply below_alloc | apply pw_below_drewN | apply below_drew1) | exact HB.out)⟩⟩
            ·rw [if_neg c21] at H
             have c21b0 : (a1 == 16) = false := beq_eq_false_iff_ne.mpr c21
             have c21b1 : (a1 != 16) = true := bne_iff_ne.mpr c21
             by_cases c22 : a1 = 28
             ·rw [if_pos c22] at H
              have c22b0 : (a1 == 28) = true := beq_iff_eq.mpr c22
              have c22b1 : (a1 != 28) = false := bne_eq_false_iff_eq.mpr c22
              clear c22
              have H' := Aside0.mk H
              clear H
              go_wp2
              go_meet
              case rel => exact ⟨_, (true), (by first | rfl | (simp; done) | (simp [*]; done) | (simp [Go.Proofs.Ytdkkanpbcifkfaa.B.beq_not_bne]; done) | (simp [Go.Proofs.Ytdkkanpbcifkfaa.B.bne_not_beq]; done)), H', ⟨by have := HJ5.out; first | omega | exact Nat.le_refl _⟩, ⟨by repeat (first | (with_reducible first | exact HB.out | apply below_alloc | apply pw_below_drewN | apply below_drew1) | exact HB.out)⟩⟩
             ·rw [if_neg c22] at H
              have c22b0 : (a1 == 28) = false := beq_eq_false_iff_ne.mpr c22
              have c22b1 : (a1 != 28) = true := bne_iff_ne.mpr c22
              have H' := Aside0.mk H
              clear H
              go_wp2
              go_meet
              case rel => exact ⟨_, ((a1 == 33)), (by first | rfl | (simp; done) | (simp [*]; done) | (simp [Go.Proofs.Ytdkkanpbcifkfaa.B.beq_not_bne]; done) | (simp [Go.Proofs.Ytdkkanpbcifkfaa.B.bne_not_beq]; done)), H', ⟨by have := HJ5.out; first | omega | exact Nat.le_refl _⟩, ⟨by repeat (first | (with_reducible first | exact HB.out | apply below_alloc | apply pw_below_drewN | apply below_drew1) | exact HB.out)⟩⟩
     case rest =>
      clear HC14
      try clear c1
      try clear c2
      try clear p2
      try clear c3
      try clear c3b0
      try clear c3b1
      try clear c8
      try clear c8b0
      try clear c8b1
      try clear c8b2
      try clear c13
      try clear c15
      try clear c15b0
      try clear c15b1
      try clear c15b2
      try clear c16
      try clear c16b0
      try clear c16b1
      try clear c17
      try clear c17b0
      try clear c17b1
      try clear c18
      try clear c18b0
      try clear c18b1
      try clear c19
      try clear c19b0
      try clear c19b1
      try clear c20
      try clear c20b0
      try clear c20b1
      try clear c21
      try clear c21b0
      try clear c21b1
      try clear c22
      try clear c22b0
      try clear c22b1
      try clear p2
      obtain ⟨kq, x56_13, rfl, HA, HJ13, HB⟩ := hcut
      cases kq with
      | zero => exact absurd HA.out (by simp [wellspringlaw05_DataKinds.j1])
      | succ kj13 =>
       have H := HA.out
       clear HA
       simp only [wellspringlaw05_DataKinds.j1] at H
       by_cases c23 : x56_13 = true
       ·subst c23
        have H1 : ((wellspringlaw05_live.f kj13).bind fun t246 => (some t246)) = some r := by rw [if_pos rfl] at H; exact H
        clear H
        have H := H1
        clear H1
        replace H := Option.bind_eq_some_iff.mp H
        obtain ⟨t246, A240, H⟩ := H
        replace H : (some t246) = some r := H
        have A24 := Aside0.mk A240
        clear A240
        obtain rfl := Option.some.inj H
        go_wp2_with (first | ((with_reducible refine gate_callee (f := 27) rfl ?_); refine goesL_ (some 57) rfl rfl Try.func27 (by kernel_rfl) rfl #[] rfl (by (try simp only [List.map_toArray, List.map_cons, List.map_nil]); first | done | rfl | (simp only [List.length_drop, List.length_take]; rfl) | (simp only [ByteArray.size_append, Int.natCast_add]; rfl) | (rw [Go.Proofs.Ytdkkanpbcifkfaa.B.w64] <;> first | rfl | omega | (simp only [decide_eq_false_iff_not, decide_eq_true_eq, Int.not_lt, Nat.not_lt, gt_iff_lt] at * <;> omega))) ?_; (with_reducible refine (wellspringlaw05_live.calls kj13  t246 _ A24.out).mono ?_); rintro e w25 ⟨rfl, hb⟩; refine ⟨_, rfl, ?_⟩; have n0_ := Aside0.mk (below_step (by repeat (first | (with_reducible first | exact HB.out | apply below_alloc | apply pw_below_drewN | apply below_drew1) | exact HB.out)) hb); clear HB; have HB := n0_; clear n0_; (try clear hb); (try clear hb2); (try clear hk); (try clear hi)))
        go_ret
        exact ⟨by first | rfl | (simp [errW_none, errW_some] <;> rfl) | (simp [*, errW_none, errW_some] <;> rfl), by repeat (first | (with_reducible first | exact HB.out | apply below_alloc | apply pw_below_drewN | apply below_drew1) | exact HB.out)⟩
       ·replace c23 := Bool.eq_false_iff.mpr c23
        subst c23
        have H1 : ((data_Check.f kj13 a1 a0).bind fun t247 => (if t247 = true then ((data_Low.f kj13 a1 a0).bind fun t248 => (if t248.toList = a0.toList then ((data_Names.f kj13 a1 a0).bind fun t249 => (if (t249.length : Int) = 0 then ((wellspringlaw05_live.f kj13).bind fun t252 => (some t252)) else (some false))) else (some false))) else (some false))) = some r := by rw [if_neg (show ¬ (false = true) by decide)] at H; exact H
        clear H
        have H := H1
        clear H1
        replace H := Option.bind_eq_some_iff.mp H
        obtain ⟨t247, A260, H⟩ := H
        replace H : (if t247 = true then ((data_Low.f kj13 a1 a0).bind fun t248 => (if t248.toList = a0.toList then ((data_Names.f kj13 a1 a0).bind fun t249 => (if (t249.length : Int) = 0 then ((wellspringlaw05_live.f kj13).bind fun t252 => (some t252)) else (some false))) else (some false))) else (some false)) = some r := H
        have A26 := Aside0.mk A260
        clear A260
        by_cases c27 : t247 = true
        ·subst c27
         have H1 : ((data_Low.f kj13 a1 a0).bind fun t248 => (if t248.toList = a0.toList then ((data_Names.f kj13 a1 a0).bind fun t249 => (if (t249.length : Int) = 0 then ((wellspringlaw05_live.f kj13).bind fun t252 => (some t252)) else (some false))) else (some false))) = some r := by rw [if_pos rfl] at H; exact H
         clear H
         have H := H1
         clear H1
         replace H := Option.bind_eq_some_iff.mp H
         obtain ⟨t248, A280, H⟩ := H
         replace H : (if t248.toList = a0.toList then ((data_Names.f kj13 a1 a0).bind fun t249 => (if (t249.length : Int) = 0 then ((wellspringlaw05_live.f kj13).bind fun t252 => (some t252)) else (some false))) else (some false)) = some r := H
         have A28 := Aside0.mk A280
         clear A280
         by_cases c29 : t248.toList = a0.toList
         ·rw [if_pos c29] at H
          have c29b0 : (t248.toList == a0.toList) = true := beq_iff_eq.mpr c29
          have c29b1 : (t248.toList != a0.toList) = false := bne_eq_false_iff_eq.mpr c29
          clear c29
          replace H := Option.bind_eq_some_iff.mp H
          obtain ⟨t249, A300, H⟩ := H
          replace H : (if (t249.length : Int) = 0 then ((wellspringlaw05_live.f kj13).bind fun t252 => (some t252)) else (some false)) = some r := H
          have A30 := Aside0.mk A300
          clear A300
          by_cases c31 : (t249.length : Int) = 0
          ·rw [if_pos c31] at H
           have c31b0 : ((t249.length : Int) == 0) = true := beq_iff_eq.mpr c31
           have c31b1 : ((t249.length : Int) != 0) = false := bne_eq_false_iff_eq.mpr c31
           clear c31
           replace H := Option.bind_eq_some_iff.mp H
           obtain ⟨t252, A320, H⟩ := H
           replace H : (some t252) = some r := H
           have A32 := Aside0.mk A320
           clear A320
           obtain rfl := Option.some.inj H
           go_wp2_with (first | ((with_reducible refine gate_callee (f := 30) rfl ?_); refine goesL_ (some 60) rfl rfl Try.func30 (by kernel_rfl) rfl #[.int .i64 a1, .string a0] rfl (by (try simp only [List.map_toArray, List.map_cons, List.map_nil]); first | done | rfl | (simp only [List.length_drop, List.length_take]; rfl) | (simp only [ByteArray.size_append, Int.natCast_add]; rfl) | (rw [Go.Proofs.Ytdkkanpbcifkfaa.B.w64] <;> first | rfl | omega | (simp only [decide_eq_false_iff_not, decide_eq_true_eq, Int.not_lt, Nat.not_lt, gt_iff_lt] at * <;> omega))) ?_; (with_reducible refine (data_Check.calls kj13 a1 a0 true _ A26.out).mono ?_); rintro e w33 ⟨rfl, hb⟩; refine ⟨_, rfl, ?_⟩; have n0_ := Aside0.mk (below_step (by repeat (first | (with_reducible first | exact HB.out | apply below_alloc | apply pw_below_drewN | apply below_drew1) | exact HB.out)) hb); clear HB; have HB := n0_; clear n0_; (try clear hb); (try clear hb2); (try clear hk); (try clear hi)) | (go_at_call 35; (with_reducible refine (data_Low.calls kj13 a1 a0 t248 _ A28.out).mono ?_); rintro e w34 ⟨rfl, hb⟩; have n0_ := Aside0.mk (below_step (by repeat (first | (with_reducible first | exact HB.out | apply below_alloc | apply pw_below_drewN | apply below_drew1) | exact HB.out)) hb); clear HB; have HB := n0_; clear n0_; (try clear hb); (try clear hb2); (try clear hk); (try clear hi)) | (go_at_call 33; (with_reducible refine (data_Names.calls kj13 a1 a0 t249 _ A30.out).mono ?_); rintro e w35 ⟨v250, rfl, ho0, hb⟩; have n0_ := Aside0.mk (Kd.R_lower ho0 (below_size (by repeat (first | (with_reducible first | exact HB.out | apply below_alloc | apply pw_below_drewN | apply below_drew1) | exact HB.out)))); have n1_ := Aside0.mk (below_step (by repeat (first | (with_reducible first | exact HB.out | apply below_alloc | apply pw_below_drewN | apply below_drew1) | exact HB.out)) hb); clear HB; have HO251 := n0_; have HB := n1_; clear n0_ n1_; (try clear hb); (try clear hb2); (try clear hk); (try clear hi); (try clear ho0); obtain ⟨Ao36, co36, eo36⟩ := Kd.R_slice HO251.out; subst eo36) | (go_at_call 27; (with_reducible refine (wellspringlaw05_live.calls kj13  t252 _ A32.out).mono ?_); rintro e w37 ⟨rfl, hb⟩; have n0_ := Aside0.mk (Kd.R_below (by (with_reducible repeat (first | apply Kd.R_alloc | apply Kd.R_drewN | apply Kd.R_drew)); exact HO251.out) hb); have n1_ := Aside0.mk (below_step (by repeat (first | (with_reducible first | exact HB.out | apply below_alloc | apply pw_below_drewN | apply below_drew1) | exact HB.out)) hb); clear HO251; clear HB; have HO251 := n0_; have HB := n1_; clear n0_ n1_; (try clear hb); (try clear hb2); (try clear hk); (try clear hi)))
           go_ret
           exact ⟨by first | rfl | (simp [errW_none, errW_some] <;> rfl) | (simp [*, errW_none, errW_some] <;> rfl), by repeat (first | (with_reducible first | exact HB.out | apply below_alloc | apply pw_below_drewN | apply below_drew1) | exact HB.out)⟩
          ·rw [if_neg c31] at H
           have c31b0 : ((t249.length : Int) == 0) = false := beq_eq_false_iff_ne.mpr c31
           have c31b1 : ((t249.length : Int) != 0) = true := bne_iff_ne.mpr c31
           have c31b2 : ¬ (t249 = []) := fun h_ => c31 (by rw [h_]; rfl)
           obtain rfl := Option.some.inj H
           go_wp2_with (first | ((with_reducible refine gate_callee (f := 30) rfl ?_); refine goesL_ (some 60) rfl rfl Try.func30 (by kernel_rfl) rfl #[.int .i64 a1, .string a0] rfl (by (try simp only [List.map_toArray, List.map_cons, List.map_nil]); first | done | rfl | (simp only [List.length_drop, List.length_take]; rfl) | (simp only [ByteArray.size_append, Int.natCast_add]; rfl) | (rw [Go.Proofs.Ytdkkanpbcifkfaa.B.w64] <;> first | rfl | omega | (simp only [decide_eq_false_iff_not, decide_eq_true_eq, Int.not_lt, Nat.not_lt, gt_iff_lt] at * <;> omega))) ?_; (with_reducible refine (data_Check.calls kj13 a1 a0 true _ A26.out).mono ?_); rintro e w38 ⟨rfl, hb⟩; refine ⟨_, rfl, ?_⟩; have n0_ := Aside0.mk (below_step (by repeat (first | (with_reducible first | exact HB.out | apply below_alloc | apply pw_below_drewN | apply below_drew1) | exact HB.out)) hb); clear HB; have HB := n0_; clear n0_; (try clear hb); (try clear hb2); (try clear hk); (try clear hi)) | (go_at_call 35; (with_reducible refine (data_Low.calls kj13 a1 a0 t248 _ A28.out).mono ?_); rintro e w39 ⟨rfl, hb⟩; have n0_ := Aside0.mk (below_step (by repeat (first | (with_reducible first | exact HB.out | apply below_alloc | apply pw_below_drewN | apply below_drew1) | exact HB.out)) hb); clear HB; have HB := n0_; clear n0_; (try clear hb); (try clear hb2); (try clear hk); (try clear hi)) | (go_at_call 33; (with_reducible refine (data_Names.calls kj13 a1 a0 t249 _ A30.out).mono ?_); rintro e w40 ⟨v250, rfl, ho0, hb⟩; have n0_ := Aside0.mk (Kd.R_lower ho0 (below_size (by repeat (first | (with_reducible first | exact HB.out | apply below_alloc | apply pw_below_drewN | apply below_drew1) | exact HB.out)))); have n1_ := Aside0.mk (below_step (by repeat (first | (with_reducible first | exact HB.out | apply below_alloc | apply pw_below_drewN | apply below_drew1) | exact HB.out)) hb); clear HB; have HO251 := n0_; have HB := n1_; clear n0_ n1_; (try clear hb); (try clear hb2); (try clear hk); (try clear hi); (try clear ho0); obtain ⟨Ao41, co41, eo41⟩ := Kd.R_slice HO251.out; subst eo41))
           go_ret
           exact ⟨by first | rfl | (simp [errW_none, errW_some] <;> rfl) | (simp [*, errW_none, errW_some] <;> rfl), by repeat (first | (with_reducible first | exact HB.out | apply below_alloc | apply pw_below_drewN | apply below_drew1) | exact HB.out)⟩
         ·rw [if_neg c29] at H
          have c29b0 : (t248.toList == a0.toList) = false := beq_eq_false_iff_ne.mpr c29
          have c29b1 : (t248.toList != a0.toList) = true := bne_iff_ne.mpr c29
          obtain rfl := Option.some.inj H
          go_wp2_with (first | ((with_reducible refine gate_callee (f := 30) rfl ?_); refine goesL_ (some 60) rfl rfl Try.func30 (by kernel_rfl) rfl #[.int .i64 a1, .string a0] rfl (by (try simp only [List.map_toArray, List.map_cons, List.map_nil]); first | done | rfl | (simp only [List.length_drop, List.length_take]; rfl) | (simp only [ByteArray.size_append, Int.natCast_add]; rfl) | (rw [Go.Proofs.Ytdkkanpbcifkfaa.B.w64] <;> first | rfl | omega | (simp only [decide_eq_false_iff_not, decide_eq_true_eq, Int.not_lt, Nat.not_lt, gt_iff_lt] at * <;> omega))) ?_; (with_reducible refine (data_Check.calls kj13 a1 a0 true _ A26.out).mono ?_); rintro e w42 ⟨rfl, hb⟩; refine ⟨_, rfl, ?_⟩; have n0_ := Aside0.mk (below_step (by repeat (first | (with_reducible first | exact HB.out | apply below_alloc | apply pw_below_drewN | apply below_drew1) | exact HB.out)) hb); clear HB; have HB := n0_; clear n0_; (try clear hb); (try clear hb2); (try clear hk); (try clear hi)) | (go_at_call 35; (with_reducible refine (data_Low.calls kj13 a1 a0 t248 _ A28.out).mono ?_); rintro e w43 ⟨rfl, hb⟩; have n0_ := Aside0.mk (below_step (by repeat (first | (with_reducible first | exact HB.out | apply below_alloc | apply pw_below_drewN | apply below_drew1) | exact HB.out)) hb); clear HB; have HB := n0_; clear n0_; (try clear hb); (try clear hb2); (try clear hk); (try clear hi)))
          go_ret
          exact ⟨by first | rfl | (simp [errW_none, errW_some] <;> rfl) | (simp [*, errW_none, errW_some] <;> rfl), by repeat (first | (with_reducible first | exact HB.out | apply below_alloc | apply pw_below_drewN | apply below_drew1) | exact HB.out)⟩
        ·replace c27 := Bool.eq_false_iff.mpr c27
         subst c27
         have H1 : (some false) = some r := by rw [if_neg (show ¬ (false = true) by decide)] at H; exact H
         clear H
         have H := H1
         clear H1
         obtain rfl := Option.some.inj H
         go_wp2_with (first | ((with_reducible refine gate_callee (f := 30) rfl ?_); refine goesL_ (some 60) rfl rfl Try.func30 (by kernel_rfl) rfl #[.int .i64 a1, .string a0] rfl (by (try simp only [List.map_toArray, List.map_cons, List.map_nil]); first | done | rfl | (simp only [List.length_drop, List.length_take]; rfl) | (simp only [ByteArray.size_append, Int.natCast_add]; rfl) | (rw [Go.Proofs.Ytdkkanpbcifkfaa.B.w64] <;> first | rfl | omega | (simp only [decide_eq_false_iff_not, decide_eq_true_eq, Int.not_lt, Nat.not_lt, gt_iff_lt] at * <;> omega))) ?_; (with_reducible refine (data_Check.calls kj13 a1 a0 false _ A26.out).mono ?_); rintro e w44 ⟨rfl, hb⟩; refine ⟨_, rfl, ?_⟩; have n0_ := Aside0.mk (below_step (by repeat (first | (with_reducible first | exact HB.out | apply below_alloc | apply pw_below_drewN | apply below_drew1) | exact HB.out)) hb); clear HB; have HB := n0_; clear n0_; (try clear hb); (try clear hb2); (try clear hk); (try clear hi)))
         go_ret
         exact ⟨by first | rfl | (simp [errW_none, errW_some] <;> rfl) | (simp [*, errW_none, errW_some] <;> rfl), by repeat (first | (with_reducible first | exact HB.out | apply below_alloc | apply pw_below_drewN | apply below_drew1) | exact HB.out)⟩

/-- THE ONE PURE STATEMENT of wellspringlaw05_DataKinds: yours. -/
def wellspringlaw05_DataKinds.Pure : Prop := ∀ (a0 : ByteArray) (a1 : Int), a0.size ≤ 140737488351232 → (Lit.int .i64 a1).wf = true → ∃ k, wellspringlaw05_DataKinds.f k a0 a1 = some true
theorem wellspringlaw05_DataKinds.walk (P : wellspringlaw05_DataKinds.Pure) (a0 : ByteArray) (a1 : Int) (w : World) (w0 : a0.size ≤ 140737488351232) (w1 : (Lit.int .i64 a1).wf = true) :
  Calls Try.prog 13 #[.string a0, .int .i64 a1] w fun e w' => e = .returned (.bool true) ∧ Below w.heap.size w w' := by
 obtain ⟨k, h⟩ := P a0 a1 w0 w1
 refine (wellspringlaw05_DataKinds.calls k a0 a1 true w h).mono ?_
 rintro e w' ⟨rfl, hd⟩
 exact ⟨rfl, hd⟩

end Go.Proofs.Ytdkkanpbcifkfaa.ZQ

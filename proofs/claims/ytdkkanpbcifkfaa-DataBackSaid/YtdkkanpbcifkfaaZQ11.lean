-- Written by a program of this session (wip/tools/myprint.py), over the kit's printer; Lean checks it.
import Derived.Test.YtdkkanpbcifkfaaZQ0
import Derived.Test.YtdkkanpbcifkfaaZQ1
import Derived.Test.YtdkkanpbcifkfaaZQ5
import Derived.Test.YtdkkanpbcifkfaaZQ7
import Derived.Test.YtdkkanpbcifkfaaZQ9
namespace Go.Proofs.Ytdkkanpbcifkfaa.ZQ
open Go.RowKit Go.Proofs.YtdkkanpbcifkfaaW.PrintWords Go.Proofs.YtdkkanpbcifkfaaW.PrintLast Go.Proofs.YtdkkanpbcifkfaaW.PrintMore
attribute [local go_sem] max2_int min2_int max_two min_two max_three min_three max_four min_four   -- for this text's walks alone
set_option linter.unusedVariables false
set_option linter.unusedSimpArgs false

attribute [local go_sem high] eqA96
/-! ### wellspringref05_shape: function 76 -/
def wellspringref05_shape.j0 : Nat → Int → Bool → Option (Int × Int × Int)
 | 0, _, _ => none
 | k + 1, x3, x4 => if x4 = true then (some (0, 1, 0)) else (if x3 = 6 then (some (0, 2, 20)) else (if x3 = 15 then (some (2, 1, 0)) else (if x3 = 33 then (some (6, 1, 0)) else (if x3 = 1 then (some (4, 0, 0)) else (if x3 = 28 then (some (16, 0, 0)) else (some (0, 0, 0)))))))
def wellspringref05_shape.f (k : Nat) (a0 : Int) : Option (Int × Int × Int) := if a0 = 2 then (wellspringref05_shape.j0 k a0 (a0 == 2)) else (if a0 = 5 then (wellspringref05_shape.j0 k a0 (a0 == 5)) else (wellspringref05_shape.j0 k a0 (a0 == 12)))
set_option maxHeartbeats 8000000 in
set_option maxRecDepth 100000 in
theorem wellspringref05_shape.calls (k : Nat) (a0 : Int) (r1 : Int) (r2 : Int) (r3 : Int) (w : World) (h : wellspringref05_shape.f k a0 = some (r1, r2, r3)) :
  Calls Try.prog 76 #[.int .i64 a0] w fun e w' => e = .returned (.agg #[.int .i64 r1, .int .i64 r2, .int .i64 r3]) ∧ Below w.heap.size w w' := by
 have hu96 := Try.underlying96
 have HB := Aside0.mk (Below.refl w.heap.size w)
 have H : (if a0 = 2 then (wellspringref05_shape.j0 k a0 (a0 == 2)) else (if a0 = 5 then (wellspringref05_shape.j0 k a0 (a0 == 5)) else (wellspringref05_shape.j0 k a0 (a0 == 12)))) = some (r1, r2, r3) := h
 clear h
 have HC2 := Aside0.mk H
 clear H
 go_enter Try.func76, Try.ntmps76
 go_upto_if 4 with (first | ((with_reducible refine gate_dst (N := 2) rfl ?_); refine box_event ?hg (N := 2) ?hd (cs := #[.int .i64 0, .int .i64 0, .int .i64 0]) (t := 96) ?hr ?_; (case hd => rfl); (case hg => rfl); (case hr => first | (go_simp; done) | (go_simp; rfl)); intro gb179 hg w3 hbox hb; have n0_ := Aside0.mk (below_step (by repeat (first | (with_reducible first | exact HB.out | apply below_alloc | apply pw_below_drewN | apply below_drew1) | exact HB.out)) hb); have n1_ := Aside0.mk (hbox); have n2_ := Aside0.mk ((by rw [hg]; exact (below_size (by repeat (first | (with_reducible first | exact HB.out | apply below_alloc | apply pw_below_drewN | apply below_drew1) | exact HB.out))) : w.heap.size ≤ gb179)); have n3_ := Aside0.mk ((by rw [hg]; exact (below_size (by repeat (first | (with_reducible first | exact HB.out | apply below_alloc | apply pw_below_drewN | apply below_drew1) | exact HB.out))) : w.heap.size ≤ gb179)); clear HB; have HB := n0_; have BK179 := n1_; have GW179 := n2_; have GE179 := n3_; clear n0_ n1_ n2_ n3_; clear hb hbox hg))
 (try simp only [Act.put, List.setIfInBounds_toArray, List.set_cons_zero, List.set_cons_succ])
 go_cut [4] (fun v4 wc => ∃ (kq : Nat) (x4_1 : Bool), v4 = .bool x4_1 ∧ Aside0 (wellspringref05_shape.j0 kq a0 x4_1 = some (r1, r2, r3)) ∧ Aside0 (kq ≤ k) ∧ Aside0 (wc.heap[gb179]? = some (.cells #[.int .i64 0, .int .i64 0, .int .i64 0] 96 (0, 0))) ∧ Aside0 (Below w.heap.size w wc))
 case first =>
  have H := HC2.out
  clear HC2
  by_cases c4 : a0 = 2
  ·rw [if_pos c4] at H
   have c4b0 : (a0 == 2) = true := beq_iff_eq.mpr c4
   have c4b1 : (a0 != 2) = false := bne_eq_false_iff_eq.mpr c4
   clear c4
   (first | rw [c4b0] | rw [c4b2] | (simp only [i64_w, i32_w]; rw [c4b0]) | skip)
   have H' := Aside0.mk H
   clear H
   go_wp2
   go_meet
   case rel => exact ⟨_, ((a0 == 2)), (by first | rfl | (simp; done) | (simp [*]; done) | (simp [Go.Proofs.Ytdkkanpbcifkfaa.B.beq_not_bne]; done) | (simp [Go.Proofs.Ytdkkanpbcifkfaa.B.bne_not_beq]; done)), H', ⟨by first | omega | exact Nat.le_refl _⟩, ⟨by (with_reducible repeat (first | refine blk_drewN ?_ _ | refine blk_drew ?_ | refine blk_alloc ?_ _)); exact BK179.out⟩, ⟨by repeat (first | (with_reducible first | exact HB.out | apply below_alloc | apply pw_below_drewN | apply below_drew1 | refine below_set ?_ GE179.out) | exact HB.out)⟩⟩
  ·rw [if_neg c4] at H
   have c4b0 : (a0 == 2) = false := beq_eq_false_iff_ne.mpr c4
   have c4b1 : (a0 != 2) = true := bne_iff_ne.mpr c4
   (first | rw [c4b0] | rw [c4b2] | (simp only [i64_w, i32_w]; rw [c4b0]) | skip)
   by_cases c5 : a0 = 5
   ·rw [if_pos c5] at H
    have c5b0 : (a0 == 5) = true := beq_iff_eq.mpr c5
    have c5b1 : (a0 != 5) = false := bne_eq_false_iff_eq.mpr c5
    clear c5
    have H' := Aside0.mk H
    clear H
    go_wp2
    go_meet
    case rel => exact ⟨_, ((a0 == 5)), (by first | rfl | (simp; done) | (simp [*]; done) | (simp [Go.Proofs.Ytdkkanpbcifkfaa.B.beq_not_bne]; done) | (simp [Go.Proofs.Ytdkkanpbcifkfaa.B.bne_not_beq]; done)), H', ⟨by first | omega | exact Nat.le_refl _⟩, ⟨by (with_reducible repeat (first | refine blk_drewN ?_ _ | refine blk_drew ?_ | refine blk_alloc ?_ _)); exact BK179.out⟩, ⟨by repeat (first | (with_reducible first | exact HB.out | apply below_alloc | apply pw_below_drewN | apply below_drew1 | refine below_set ?_ GE179.out) | exact HB.out)⟩⟩
   ·rw [if_neg c5] at H
    have c5b0 : (a0 == 5) = false := beq_eq_false_iff_ne.mpr c5
    have c5b1 : (a0 != 5) = true := bne_iff_ne.mpr c5
    have H' := Aside0.mk H
    clear H
    go_wp2
    go_meet
    case rel => exact ⟨_, ((a0 == 12)), (by first | rfl | (simp; done) | (simp [*]; done) | (simp [Go.Proofs.Ytdkkanpbcifkfaa.B.beq_not_bne]; done) | (simp [Go.Proofs.Ytdkkanpbcifkfaa.B.bne_not_beq]; done)), H', ⟨by first | omega | exact Nat.le_refl _⟩, ⟨by (with_reducible repeat (first | refine blk_drewN ?_ _ | refine blk_drew ?_ | refine blk_alloc ?_ _)); exact BK179.out⟩, ⟨by repeat (first | (with_reducible first | exact HB.out | apply below_alloc | apply pw_below_drewN | apply below_drew1 | refine below_set ?_ GE179.out) | exact HB.out)⟩⟩
 case rest =>
  clear HC2
  try clear p2
  try clear c4
  try clear c4b0
  try clear c4b1
  try clear c4b2
  try clear c5
  try clear c5b0
  try clear c5b1
  obtain ⟨kq, x4_1, rfl, HA, HJ1, BK179, HB⟩ := hcut
  cases kq with
  | zero => exact absurd HA.out (by simp [wellspringref05_shape.j0])
  | succ kj1 =>
   have H := HA.out
   clear HA
   simp only [wellspringref05_shape.j0] at H
   by_cases c6 : x4_1 = true
   ·subst c6
    have H1 : (some (0, 1, 0)) = some (r1, r2, r3) := by rw [if_pos rfl] at H; exact H
    clear H
    have H := H1
    clear H1
    simp only [Option.some.injEq, Prod.mk.injEq] at H
    obtain ⟨rfl, rfl, rfl⟩ := H
    have hcz7_0 : wc.cell? ⟨gb179, 0, none⟩ = some (.int .i64 0) := (blk_cell BK179.out 0).trans rfl
    have hcz7_1 : wc.cell? ⟨gb179, 1, none⟩ = some (.int .i64 0) := (blk_cell BK179.out 1).trans rfl
    have hcz7_2 : wc.cell? ⟨gb179, 2, none⟩ = some (.int .i64 0) := (blk_cell BK179.out 2).trans rfl
    have hfz7_0 := blk_frozen BK179.out 0
    have hfz7_1 := blk_frozen BK179.out 1
    have hfz7_2 := blk_frozen BK179.out 2
    go_wp2
    refine bodyPost_ret (results_cell_row rfl _ _ gb179 96 #[.int .i64 0, .int .i64 1, .int .i64 0] (0, 0) _ rfl (by (with_reducible repeat (first | refine blk_drewN ?_ _ | refine blk_drew ?_ | refine blk_alloc ?_ _)); refine blk_put (cs := #[.int .i64 0, .int .i64 1, .int .i64 0]) ?_ 2 _ rfl; (with_reducible repeat (first | refine blk_drewN ?_ _ | refine blk_drew ?_ | refine blk_alloc ?_ _)); refine blk_put (cs := #[.int .i64 0, .int .i64 0, .int .i64 0]) ?_ 1 _ rfl; (with_reducible repeat (first | refine blk_drewN ?_ _ | refine blk_drew ?_ | refine blk_alloc ?_ _)); refine blk_put (cs := #[.int .i64 0, .int .i64 0, .int .i64 0]) ?_ 0 _ rfl; (with_reducible repeat (first | refine blk_drewN ?_ _ | refine blk_drew ?_ | refine blk_alloc ?_ _)); exact BK179.out) Try.underlying96 rfl (by kernel_rfl)) rfl ?_
    exact ⟨by first | rfl | (simp [errW_none, errW_some] <;> rfl) | (simp [*, errW_none, errW_some] <;> rfl), by repeat (first | (with_reducible first | exact HB.out | apply below_alloc | apply pw_below_drewN | apply below_drew1 | refine below_set ?_ GE179.out) | exact HB.out)⟩
   ·replace c6 := Bool.eq_false_iff.mpr c6
    subst c6
    have H1 : (if a0 = 6 then (some (0, 2, 20)) else (if a0 = 15 then (some (2, 1, 0)) else (if a0 = 33 then (some (6, 1, 0)) else (if a0 = 1 then (some (4, 0, 0)) else (if a0 = 28 then (some (16, 0, 0)) else (some (0, 0, 0))))))) = some (r1, r2, r3) := by rw [if_neg (show ¬ (false = true) by decide)] at H; exact H
    clear H
    have H := H1
    clear H1
    by_cases c8 : a0 = 6
    ·rw [if_pos c8] at H
     have c8b0 : (a0 == 6) = true := beq_iff_eq.mpr c8
     have c8b1 : (a0 != 6) = false := bne_eq_false_iff_eq.mpr c8
     clear c8
     simp only [Option.some.injEq, Prod.mk.injEq] at H
     obtain ⟨rfl, rfl, rfl⟩ := H
     have hcz9_0 : wc.cell? ⟨gb179, 0, none⟩ = some (.int .i64 0) := (blk_cell BK179.out 0).trans rfl
     have hcz9_1 : wc.cell? ⟨gb179, 1, none⟩ = some (.int .i64 0) := (blk_cell BK179.out 1).trans rfl
     have hcz9_2 : wc.cell? ⟨gb179, 2, none⟩ = some (.int .i64 0) := (blk_cell BK179.out 2).trans rfl
     have hfz9_0 := blk_frozen BK179.out 0
     have hfz9_1 := blk_frozen BK179.out 1
     have hfz9_2 := blk_frozen BK179.out 2
     go_wp2
     refine bodyPost_ret (results_cell_row rfl _ _ gb179 96 #[.int .i64 0, .int .i64 2, .int .i64 20] (0, 0) _ rfl (by (with_reducible repeat (first | refine blk_drewN ?_ _ | refine blk_drew ?_ | refine blk_alloc ?_ _)); refine blk_put (cs := #[.int .i64 0, .int .i64 2, .int .i64 0]) ?_ 2 _ rfl; (with_reducible repeat (first | refine blk_drewN ?_ _ | refine blk_drew ?_ | refine blk_alloc ?_ _)); refine blk_put (cs := #[.int .i64 0, .int .i64 0, .int .i64 0]) ?_ 1 _ rfl; (with_reducible repeat (first | refine blk_drewN ?_ _ | refine blk_drew ?_ | refine blk_alloc ?_ _)); refine blk_put (cs := #[.int .i64 0, .int .i64 0, .int .i64 0]) ?_ 0 _ rfl; (with_reducible repeat (first | refine blk_drewN ?_ _ | refine blk_drew ?_ | refine blk_alloc ?_ _)); exact BK179.out) Try.underlying96 rfl (by kernel_rfl)) rfl ?_
     exact ⟨by first | rfl | (simp [errW_none, errW_some] <;> rfl) | (simp [*, errW_none, errW_some] <;> rfl), by repeat (first | (with_reducible first | exact HB.out | apply below_alloc | apply pw_below_drewN | apply below_drew1 | refine below_set ?_ GE179.out) | exact HB.out)⟩
    ·rw [if_neg c8] at H
     have c8b0 : (a0 == 6) = false := beq_eq_false_iff_ne.mpr c8
     have c8b1 : (a0 != 6) = true := bne_iff_ne.mpr c8
     by_cases c10 : a0 = 15
     ·rw [if_pos c10] at H
      have c10b0 : (a0 == 15) = true := beq_iff_eq.mpr c10
      have c10b1 : (a0 != 15) = false := bne_eq_false_iff_eq.mpr c10
      clear c10
      simp only [Option.some.injEq, Prod.mk.injEq] at H
      obtain ⟨rfl, rfl, rfl⟩ := H
      have hcz11_0 : wc.cell? ⟨gb179, 0, none⟩ = some (.int .i64 0) := (blk_cell BK179.out 0).trans rfl
      have hcz11_1 : wc.cell? ⟨gb179, 1, none⟩ = some (.int .i64 0) := (blk_cell BK179.out 1).trans rfl
      have hcz11_2 : wc.cell? ⟨gb179, 2, none⟩ = some (.int .i64 0) := (blk_cell BK179.out 2).trans rfl
      have hfz11_0 := blk_frozen BK179.out 0
      have hfz11_1 := blk_frozen BK179.out 1
      have hfz11_2 := blk_frozen BK179.out 2
      go_wp2
      refine bodyPost_ret (results_cell_row rfl _ _ gb179 96 #[.int .i64 2, .int .i64 1, .int .i64 0] (0, 0) _ rfl (by (with_reducible repeat (first | refine blk_drewN ?_ _ | refine blk_drew ?_ | refine blk_alloc ?_ _)); refine blk_put (cs := #[.int .i64 2, .int .i64 1, .int .i64 0]) ?_ 2 _ rfl; (with_reducible repeat (first | refine blk_drewN ?_ _ | refine blk_drew ?_ | refine blk_alloc ?_ _)); refine blk_put (cs := #[.int .i64 2, .int .i64 0, .int .i64 0]) ?_ 1 _ rfl; (with_reducible repeat (first | refine blk_drewN ?_ _ | refine blk_drew ?_ | refine blk_alloc ?_ _)); refine blk_put (cs := #[.int .i64 0, .int .i64 0, .int .i64 0]) ?_ 0 _ rfl; (with_reducible repeat (first | refine blk_drewN ?_ _ | refine blk_drew ?_ | refine blk_alloc ?_ _)); exact BK179.out) Try.underlying96 rfl (by kernel_rfl)) rfl ?_
      exact ⟨by first | rfl | (simp [errW_none, errW_some] <;> rfl) | (simp [*, errW_none, errW_some] <;> rfl), by repeat (first | (with_reducible first | exact HB.out | apply below_alloc | apply pw_below_drewN | apply below_drew1 | refine below_set ?_ GE179.out) | exact HB.out)⟩
     ·rw [if_neg c10] at H
      have c10b0 : (a0 == 15) = false := beq_eq_false_iff_ne.mpr c10
      have c10b1 : (a0 != 15) = true := bne_iff_ne.mpr c10
      by_cases c12 : a0 = 33
      ·rw [if_pos c12] at H
       have c12b0 : (a0 == 33) = true := beq_iff_eq.mpr c12
       have c12b1 : (a0 != 33) = false := bne_eq_false_iff_eq.mpr c12
       clear c12
       simp only [Option.some.injEq, Prod.mk.injEq] at H
       obtain ⟨rfl, rfl, rfl⟩ := H
       have hcz13_0 : wc.cell? ⟨gb179, 0, none⟩ = some (.int .i64 0) := (blk_cell BK179.out 0).trans rfl
       have hcz13_1 : wc.cell? ⟨gb179, 1, none⟩ = some (.int .i64 0) := (blk_cell BK179.out 1).trans rfl
       have hcz13_2 : wc.cell? ⟨gb179, 2, none⟩ = some (.int .i64 0) := (blk_cell BK179.out 2).trans rfl
       have hfz13_0 := blk_frozen BK179.out 0
       have hfz13_1 := blk_frozen BK179.out 1
       have hfz13_2 := blk_frozen BK179.out 2
       go_wp2
       refine bodyPost_ret (results_cell_row rfl _ _ gb179 96 #[.int .i64 6, .int .i64 1, .int .i64 0] (0, 0) _ rfl (by (with_reducible repeat (first | refine blk_drewN ?_ _ | refine blk_drew ?_ | refine blk_alloc ?_ _)); refine blk_put (cs := #[.int .i64 6, .int .i64 1, .int .i64 0]) ?_ 2 _ rfl; (with_reducible repeat (first | refine blk_drewN ?_ _ | refine blk_drew ?_ | refine blk_alloc ?_ _)); refine blk_put (cs := #[.int .i64 6, .int .i64 0, .int .i64 0]) ?_ 1 _ rfl; (with_reducible repeat (first | refine blk_drewN ?_ _ | refine blk_drew ?_ | refine blk_alloc ?_ _)); refine blk_put (cs := #[.int .i64 0, .int .i64 0, .int .i64 0]) ?_ 0 _ rfl; (with_reducible repeat (first | refine blk_drewN ?_ _ | refine blk_drew ?_ | refine blk_alloc ?_ _)); exact BK179.out) Try.underlying96 rfl (by kernel_rfl)) rfl ?_
       exact ⟨by first | rfl | (simp [errW_none, errW_some] <;> rfl) | (simp [*, errW_none, errW_some] <;> rfl), by repeat (first | (with_reducible first | exact HB.out | apply below_alloc | apply pw_below_drewN | apply below_drew1 | refine below_set ?_ GE179.out) | exact HB.out)⟩
      ·rw [if_neg c12] at H
       have c12b0 : (a0 == 33) = false := beq_eq_false_iff_ne.mpr c12
       have c12b1 : (a0 != 33) = true := bne_iff_ne.mpr c12
       by_cases c14 : a0 = 1
       ·rw [if_pos c14] at H
        have c14b0 : (a0 == 1) = true := beq_iff_eq.mpr c14
        have c14b1 : (a0 != 1) = false := bne_eq_false_iff_eq.mpr c14
        clear c14
        simp only [Option.some.injEq, Prod.mk.injEq] at H
        obtain ⟨rfl, rfl, rfl⟩ := H
        have hcz15_0 : wc.cell? ⟨gb179, 0, none⟩ = some (.int .i64 0) := (blk_cell BK179.out 0).trans rfl
        have hcz15_1 : wc.cell? ⟨gb179, 1, none⟩ = some (.int .i64 0) := (blk_cell BK179.out 1).trans rfl
        have hcz15_2 : wc.cell? ⟨gb179, 2, none⟩ = some (.int .i64 0) := (blk_cell BK179.out 2).trans rfl
        have hfz15_0 := blk_frozen BK179.out 0
        have hfz15_1 := blk_frozen BK179.out 1
        have hfz15_2 := blk_frozen BK179.out 2
        go_wp2
        refine bodyPost_ret (results_cell_row rfl _ _ gb179 96 #[.int .i64 4, .int .i64 0, .int .i64 0] (0, 0) _ rfl (by (with_reducible repeat (first | refine blk_drewN ?_ _ | refine blk_drew ?_ | refine blk_alloc ?_ _)); refine blk_put (cs := #[.int .i64 4, .int .i64 0, .int .i64 0]) ?_ 2 _ rfl; (with_reducible repeat (first | refine blk_drewN ?_ _ | refine blk_drew ?_ | refine blk_alloc ?_ _)); refine blk_put (cs := #[.int .i64 4, .int .i64 0, .int .i64 0]) ?_ 1 _ rfl; (with_reducible repeat (first | refine blk_drewN ?_ _ | refine blk_drew ?_ | refine blk_alloc ?_ _)); refine blk_put (cs := #[.int .i64 0, .int .i64 0, .int .i64 0]) ?_ 0 _ rfl; (with_reducible repeat (first | refine blk_drewN ?_ _ | refine blk_drew ?_ | refine blk_alloc ?_ _)); exact BK179.out) Try.underlying96 rfl (by kernel_rfl)) rfl ?_
        exact ⟨by first | rfl | (simp [errW_none, errW_some] <;> rfl) | (simp [*, errW_none, errW_some] <;> rfl), by repeat (first | (with_reducible first | exact HB.out | apply below_alloc | apply pw_below_drewN | apply below_drew1 | refine below_set ?_ GE179.out) | exact HB.out)⟩
       ·rw [if_neg c14] at H
        have c14b0 : (a0 == 1) = false := beq_eq_false_iff_ne.mpr c14
        have c14b1 : (a0 != 1) = true := bne_iff_ne.mpr c14
        by_cases c16 : a0 = 28
        ·rw [if_pos c16] at H
         have c16b0 : (a0 == 28) = true := beq_iff_eq.mpr c16
         have c16b1 : (a0 != 28) = false := bne_eq_false_iff_eq.mpr c16
         clear c16
         simp only [Option.some.injEq, Prod.mk.injEq] at H
         obtain ⟨rfl, rfl, rfl⟩ := H
         have hcz17_0 : wc.cell? ⟨gb179, 0, none⟩ = some (.int .i64 0) := (blk_cell BK179.out 0).trans rfl
         have hcz17_1 : wc.cell? ⟨gb179, 1, none⟩ = some (.int .i64 0) := (blk_cell BK179.out 1).trans rfl
         have hcz17_2 : wc.cell? ⟨gb179, 2, none⟩ = some (.int .i64 0) := (blk_cell BK179.out 2).trans rfl
         have hfz17_0 := blk_frozen BK179.out 0
         have hfz17_1 := blk_frozen BK179.out 1
         have hfz17_2 := blk_frozen BK179.out 2
         go_wp2
         refine bodyPost_ret (results_cell_row rfl _ _ gb179 96 #[.int .i64 16, .int .i64 0, .int .i64 0] (0, 0) _ rfl (by (with_reducible repeat (first | refine blk_drewN ?_ _ | refine blk_drew ?_ | refine blk_alloc ?_ _)); refine blk_put (cs := #[.int .i64 16, .int .i64 0, .int .i64 0]) ?_ 2 _ rfl; (with_reducible repeat (first | refine blk_drewN ?_ _ | refine blk_drew ?_ | refine blk_alloc ?_ _)); refine blk_put (cs := #[.int .i64 16, .int .i64 0, .int .i64 0]) ?_ 1 _ rfl; (with_reducible repeat (first | refine blk_drewN ?_ _ | refine blk_drew ?_ | refine blk_alloc ?_ _)); refine blk_put (cs := #[.int .i64 0, .int .i64 0, .int .i64 0]) ?_ 0 _ rfl; (with_reducible repeat (first | refine blk_drewN ?_ _ | refine blk_drew ?_ | refine blk_alloc ?_ _)); exact BK179.out) Try.underlying96 rfl (by kernel_rfl)) rfl ?_
         exact ⟨by first | rfl | (simp [errW_none, errW_some] <;> rfl) | (simp [*, errW_none, errW_some] <;> rfl), by repeat (first | (with_reducible first | exact HB.out | apply below_alloc | apply pw_below_drewN | apply below_drew1 | refine below_set ?_ GE179.out) | exact HB.out)⟩
        ·rw [if_neg c16] at H
         have c16b0 : (a0 == 28) = false := beq_eq_false_iff_ne.mpr c16
         have c16b1 : (a0 != 28) = true := bne_iff_ne.mpr c16
         simp only [Option.some.injEq, Prod.mk.injEq] at H
         obtain ⟨rfl, rfl, rfl⟩ := H
         have hcz18_0 : wc.cell? ⟨gb179, 0, none⟩ = some (.int .i64 0) := (blk_cell BK179.out 0).trans rfl
         have hcz18_1 : wc.cell? ⟨gb179, 1, none⟩ = some (.int .i64 0) := (blk_cell BK179.out 1).trans rfl
         have hcz18_2 : wc.cell? ⟨gb179, 2, none⟩ = some (.int .i64 0) := (blk_cell BK179.out 2).trans rfl
         have hfz18_0 := blk_frozen BK179.out 0
         have hfz18_1 := blk_frozen BK179.out 1
         have hfz18_2 := blk_frozen BK179.out 2
         go_wp2
         refine bodyPost_ret (results_cell_row rfl _ _ gb179 96 #[.int .i64 0, .int .i64 0, .int .i64 0] (0, 0) _ rfl (by (with_reducible repeat (first | refine blk_drewN ?_ _ | refine blk_drew ?_ | refine blk_alloc ?_ _)); refine blk_put (cs := #[.int .i64 0, .int .i64 0, .int .i64 0]) ?_ 2 _ rfl; (with_reducible repeat (first | refine blk_drewN ?_ _ | refine blk_drew ?_ | refine blk_alloc ?_ _)); refine blk_put (cs := #[.int .i64 0, .int .i64 0, .int .i64 0]) ?_ 1 _ rfl; (with_reducible repeat (first | refine blk_drewN ?_ _ | refine blk_drew ?_ | refine blk_alloc ?_ _)); refine blk_put (cs := #[.int .i64 0, .int .i64 0, .int .i64 0]) ?_ 0 _ rfl; (with_reducible repeat (first | refine blk_drewN ?_ _ | refine blk_drew ?_ | refine blk_alloc ?_ _)); exact BK179.out) Try.underlying96 rfl (by kernel_rfl)) rfl ?_
         exact ⟨by first | rfl | (simp [errW_none, errW_some] <;> rfl) | (simp [*, errW_none, errW_some] <;> rfl), by repeat (first | (with_reducible first | exact HB.out | apply below_alloc | apply pw_below_drewN | apply below_drew1 | refine below_set ?_ GE179.out) | exact HB.out)⟩

/-! ### wellspringref05_texts: function 77 -/
def wellspringref05_texts.l0 : Nat → ByteArray → Int → Option (Bool)
 | 0, _, _ => none
 | k + 1, x0, x3 => if x3 < (x0.size : Int) then (if 0 ≤ x3 then (wellspringref05_texts.l0 k x0 (wrap64 ((wrap64 (x3 + 1)) + (wrap64 (bt x0 x3))))) else (none)) else (if x3 = (x0.size : Int) then (some (decide (x3 > 0))) else (some false))
def wellspringref05_texts.f (k : Nat) (a0 : ByteArray) : Option (Bool) := wellspringref05_texts.l0 k a0 0
set_option maxHeartbeats 8000000 in
set_option maxRecDepth 100000 in
theorem wellspringref05_texts.calls (k : Nat) (a0 : ByteArray) (r : Bool) (w : World) (h : wellspringref05_texts.f k a0 = some r) :
  Calls Try.prog 77 #[.string a0] w fun e w' => e = .returned (.bool r) ∧ Drawn0 w w' := by
 have H : (wellspringref05_texts.l0 k a0 0) = some r := h
 clear h
 have H' := Aside0.mk H
 clear H
 go_enter Try.func77, Try.ntmps77
 go_wp2
 go_loopg [3] k (fun kq v3 w' => ∃ (x3_1 : Int), v3 = .int .i64 x3_1 ∧ Aside0 (wellspringref05_texts.l0 kq a0 x3_1 = some r) ∧ Aside0 (kq ≤ k) ∧ Drawn0 w w')
 case atStart => exact ⟨(0), (by first | rfl | (simp; done) | (simp [*]; done) | (simp [Go.Proofs.Ytdkkanpbcifkfaa.B.beq_not_bne]; done) | (simp [Go.Proofs.Ytdkkanpbcifkfaa.B.bne_not_beq]; done)), H', ⟨Nat.le_refl _⟩, by repeat (first | exact Drawn0.refl _ | apply Drawn0.step)⟩
 case round =>
  clear H'
  obtain ⟨x3_1, rfl, HA, HK1, ⟨m1, rfl⟩⟩ := hrel
  cases gk with
  | zero => exact absurd HA.out (by simp [wellspringref05_texts.l0])
  | succ k1 =>
   have H := HA.out
   clear HA
   simp only [wellspringref05_texts.l0] at H
   by_cases c2 : x3_1 < (a0.size : Int)
   ·rw [if_pos c2] at H
    have c2b0 : decide (x3_1 < (a0.size : Int)) = true := decide_eq_true c2
    clear c2
    by_cases c3 : 0 ≤ x3_1
    ·rw [if_pos c3] at H
     have c3b0 : decide (0 ≤ x3_1) = true := decide_eq_true c3
     clear c3
     have H' := Aside0.mk H
     clear H
     have p4 : 0 ≤ (x3_1 : Int) := of_decide_eq_true (by first | (with_reducible assumption) | assumption)
     have q4 : x3_1 < (a0.size : Int) := of_decide_eq_true (by first | (with_reducible assumption) | assumption)
     have hx4 := bt_at a0 x3_1
     replace p4 := eq_true p4
     replace q4 := eq_true q4
     go_wp2
     go_roundg k1
     case measure => have := HK1.out; omega
     case rel => exact ⟨(wrap64 ((wrap64 (x3_1 + 1)) + (wrap64 (bt a0 x3_1)))), (by first | rfl | (simp; done) | (simp [*]; done) | (simp [Go.Proofs.Ytdkkanpbcifkfaa.B.beq_not_bne]; done) | (simp [Go.Proofs.Ytdkkanpbcifkfaa.B.bne_not_beq]; done)), H', ⟨by have := HK1.out; omega⟩, by repeat (first | exact Drawn0.refl _ | apply Drawn0.step)⟩
    ·rw [if_neg c3] at H
     exact absurd H (by simp)
   ·rw [if_neg c2] at H
    have c2b0 : decide (x3_1 < (a0.size : Int)) = false := decide_eq_false c2
    clear c2
    by_cases c5 : x3_1 = (a0.size : Int)
    ·rw [if_pos c5] at H
     have c5b0 : (x3_1 == (a0.size : Int)) = true := beq_iff_eq.mpr c5
     have c5b1 : (x3_1 != (a0.size : Int)) = false := bne_eq_false_iff_eq.mpr c5
     clear c5
     obtain rfl := Option.some.inj H
     go_wp2
     go_ret
     exact ⟨by first | rfl | (simp; done) | (simp [*]; done), by repeat (first | exact Drawn0.refl _ | apply Drawn0.step)⟩
    ·rw [if_neg c5] at H
     have c5b0 : (x3_1 == (a0.size : Int)) = false := beq_eq_false_iff_ne.mpr c5
     have c5b1 : (x3_1 != (a0.size : Int)) = true := bne_iff_ne.mpr c5
     obtain rfl := Option.some.inj H
     go_wp2
     go_ret
     exact ⟨by first | rfl | (simp; done) | (simp [*]; done), by repeat (first | exact Drawn0.refl _ | apply Drawn0.step)⟩

/-! ### wellspringref05_Expand: function 29 -/
def wellspringref05_Expand.l0 : Nat → ByteArray → Int → Int → ByteArray → Int → Int → Int → Int → Int → Option (ByteArray × Int)
 | 0, _, _, _, _, _, _, _, _, _ => none
 | k + 1, x0, x1, x2, x13, x14, x15, x186000, x186001, x186002 => if x15 < x186001 then ((wellspringref04_Read.f k x0 x14).bind fun bt187 => (if bt187.2.2 = 0 then (if x13.size + bt187.1.size ≤ 9223372036854775807 then (wellspringref05_Expand.l0 k x0 x1 x2 (x13 ++ bt187.1) bt187.2.1 (wrap64 (x15 + 1)) x186000 x186001 x186002) else (none)) else (some ((⟨#[]⟩ : ByteArray), 4)))) else (if (wrap64 (x14 + x186002)) = (wrap64 (x1 + x2)) then (if 0 ≤ x14 then (if x14 ≤ (wrap64 (x1 + x2)) then (if (wrap64 (x1 + x2)) ≤ (x0.size : Int) then (if x13.size + (x0.extract (x14 : Int).toNat ((wrap64 (x1 + x2)) : Int).toNat).size ≤ 9223372036854775807 then (if ((x13 ++ (x0.extract (x14 : Int).toNat ((wrap64 (x1 + x2)) : Int).toNat)).size : Int) > 65535 then (some ((⟨#[]⟩ : ByteArray), 4)) else (some (x13 ++ (x0.extract (x14 : Int).toNat ((wrap64 (x1 + x2)) : Int).toNat), 0))) else (none)) else (none)) else (none)) else (none)) else (some ((⟨#[]⟩ : ByteArray), 4)))
def wellspringref05_Expand.f (k : Nat) (a0 : ByteArray) (a1 : Int) (a2 : Int) (a3 : Int) : Option (ByteArray × Int) := (wellspringref01_Take.f a0 a1 a2).bind fun bt180 => (if bt180.2 = true then ((wellspringref05_shape.f k a3).bind fun bt182 => (if (bt182.1 == 0 && (bt182.2.1 == 0 && (bt182.2.2 == 0))) = true then (if a3 = 16 then ((wellspringref05_texts.f k bt180.1).bind fun t186 => (if t186 = true then (if (bt180.1.size : Int) > 65535 then (some ((⟨#[]⟩ : ByteArray), 4)) else (some (bt180.1, 0))) else (some ((⟨#[]⟩ : ByteArray), 4)))) else (if (bt180.1.size : Int) > 65535 then (some ((⟨#[]⟩ : ByteArray), 4)) else (some (bt180.1, 0)))) else (if bt182.1 > a2 then (some ((⟨#[]⟩ : ByteArray), 4)) else (if 0 ≤ bt182.1 then (if bt182.1 ≤ (bt180.1.size : Int) then (wellspringref05_Expand.l0 k a0 a1 a2 (bt180.1.extract 0 (bt182.1 : Int).toNat) (wrap64 (a1 + bt182.1)) 0 bt182.1 bt182.2.1 bt182.2.2) else (none)) else (none))))) else (some ((⟨#[]⟩ : ByteArray), 2)))
set_option maxHeartbeats 8000000 in
set_option maxRecDepth 100000 in
theorem wellspringref05_Expand.calls (k : Nat) (a0 : ByteArray) (a1 : Int) (a2 : Int) (a3 : Int) (r1 : ByteArray) (r2 : Int) (w : World) (h : wellspringref05_Expand.f k a0 a1 a2 a3 = some (r1, r2)) :
  Calls Try.prog 29 #[.string a0, .int .i64 a1, .int .i64 a2, .int .i64 a3] w fun e w' => e = .returned (.tuple #[.string r1, .int .i64 r2]) ∧ Below w.heap.size w w' := by
 have hu96 := Try.underlying96
 have HB := Aside0.mk (Below.refl w.heap.size w)
 have H : ((wellspringref01_Take.f a0 a1 a2).bind fun bt180 => (if bt180.2 = true then ((wellspringref05_shape.f k a3).bind fun bt182 => (if (bt182.1 == 0 && (bt182.2.1 == 0 && (bt182.2.2 == 0))) = true then (if a3 = 16 then ((wellspringref05_texts.f k bt180.1).bind fun t186 => (if t186 = true then (if (bt180.1.size : Int) > 65535 then (some ((⟨#[]⟩ : ByteArray), 4)) else (some (bt180.1, 0))) else (some ((⟨#[]⟩ : ByteArray), 4)))) else (if (bt180.1.size : Int) > 65535 then (some ((⟨#[]⟩ : ByteArray), 4)) else (some (bt180.1, 0)))) else (if bt182.1 > a2 then (some ((⟨#[]⟩ : ByteArray), 4)) else (if 0 ≤ bt182.1 then (if bt182.1 ≤ (bt180.1.size : Int) then (wellspringref05_Expand.l0 k a0 a1 a2 (bt180.1.extract 0 (bt182.1 : Int).toNat) (wrap64 (a1 + bt182.1)) 0 bt182.1 bt182.2.1 bt182.2.2) else (none)) else (none))))) else (some ((⟨#[]⟩ : ByteArray), 2)))) = some (r1, r2) := h
 clear h
 replace H := Option.bind_eq_some_iff.mp H
 obtain ⟨⟨t180, t181⟩, A50, H⟩ := H
 replace H : (if t181 = true then ((wellspringref05_shape.f k a3).bind fun bt182 => (if (bt182.1 == 0 && (bt182.2.1 == 0 && (bt182.2.2 == 0))) = true then (if a3 = 16 then ((wellspringref05_texts.f k t180).bind fun t186 => (if t186 = true then (if (t180.size : Int) > 65535 then (some ((⟨#[]⟩ : ByteArray), 4)) else (some (t180, 0))) else (some ((⟨#[]⟩ : ByteArray), 4)))) else (if (t180.size : Int) > 65535 then (some ((⟨#[]⟩ : ByteArray), 4)) else (some (t180, 0)))) else (if bt182.1 > a2 then (some ((⟨#[]⟩ : ByteArray), 4)) else (if 0 ≤ bt182.1 then (if bt182.1 ≤ (t180.size : Int) then (wellspringref05_Expand.l0 k a0 a1 a2 (t180.extract 0 (bt182.1 : Int).toNat) (wrap64 (a1 + bt182.1)) 0 bt182.1 bt182.2.1 bt182.2.2) else (none)) else (none))))) else (some ((⟨#[]⟩ : ByteArray), 2))) = some (r1, r2) := H
 have A5 := Aside0.mk A50
 clear A50
 by_cases c6 : t181 = true
 ·subst c6
  have H1 : ((wellspringref05_shape.f k a3).bind fun bt182 => (if (bt182.1 == 0 && (bt182.2.1 == 0 && (bt182.2.2 == 0))) = true then (if a3 = 16 then ((wellspringref05_texts.f k t180).bind fun t186 => (if t186 = true then (if (t180.size : Int) > 65535 then (some ((⟨#[]⟩ : ByteArray), 4)) else (some (t180, 0))) else (some ((⟨#[]⟩ : ByteArray), 4)))) else (if (t180.size : Int) > 65535 then (some ((⟨#[]⟩ : ByteArray), 4)) else (some (t180, 0)))) else (if bt182.1 > a2 then (some ((⟨#[]⟩ : ByteArray), 4)) else (if 0 ≤ bt182.1 then (if bt182.1 ≤ (t180.size : Int) then (wellspringref05_Expand.l0 k a0 a1 a2 (t180.extract 0 (bt182.1 : Int).toNat) (wrap64 (a1 + bt182.1)) 0 bt182.1 bt182.2.1 bt182.2.2) else (none)) else (none))))) = some (r1, r2) := by rw [if_pos rfl] at H; exact H
  clear H
  have H := H1
  clear H1
  replace H := Option.bind_eq_some_iff.mp H
  obtain ⟨⟨t182, t183, t184⟩, A70, H⟩ := H
  replace H : (if (t182 == 0 && (t183 == 0 && (t184 == 0))) = true then (if a3 = 16 then ((wellspringref05_texts.f k t180).bind fun t186 => (if t186 = true then (if (t180.size : Int) > 65535 then (some ((⟨#[]⟩ : ByteArray), 4)) else (some (t180, 0))) else (some ((⟨#[]⟩ : ByteArray), 4)))) else (if (t180.size : Int) > 65535 then (some ((⟨#[]⟩ : ByteArray), 4)) else (some (t180, 0)))) else (if t182 > a2 then (some ((⟨#[]⟩ : ByteArray), 4)) else (if 0 ≤ t182 then (if t182 ≤ (t180.size : Int) then (wellspringref05_Expand.l0 k a0 a1 a2 (t180.extract 0 (t182 : Int).toNat) (wrap64 (a1 + t182)) 0 t182 t183 t184) else (none)) else (none)))) = some (r1, r2) := H
  have A7 := Aside0.mk A70
  clear A70
  by_cases c8 : (t182 == 0 && (t183 == 0 && (t184 == 0))) = true
  ·rw [if_pos c8] at H
   have c8b0 : (t182 == 0 && (t183 == 0 && (t184 == 0))) = true := c8
   (try (have c8b1 : decide (t182 = 0 && (t183 == 0 && (t184 == 0))) = true := by simpa using c8))
   (try (have c8b2 : (t182 == 0 && (t183 == 0 && (t184 == 0))) = true := by simpa using c8))
   clear c8
   by_cases c9 : a3 = 16
   ·rw [if_pos c9] at H
    have c9b0 : (a3 == 16) = true := beq_iff_eq.mpr c9
    have c9b1 : (a3 != 16) = false := bne_eq_false_iff_eq.mpr c9
    clear c9
    replace H := Option.bind_eq_some_iff.mp H
    obtain ⟨t186, A100, H⟩ := H
    replace H : (if t186 = true then (if (t180.size : Int) > 65535 then (some ((⟨#[]⟩ : ByteArray), 4)) else (some (t180, 0))) else (some ((⟨#[]⟩ : ByteArray), 4))) = some (r1, r2) := H
    have A10 := Aside0.mk A100
    clear A100
    by_cases c11 : t186 = true
    ·subst c11
     have H1 : (if (t180.size : Int) > 65535 then (some ((⟨#[]⟩ : ByteArray), 4)) else (some (t180, 0))) = some (r1, r2) := by rw [if_pos rfl] at H; exact H
     clear H
     have H := H1
     clear H1
     by_cases c12 : (t180.size : Int) > 65535
     ·rw [if_pos c12] at H
      have c12b0 : decide (65535 < (t180.size : Int)) = true := decide_eq_true c12
      have c12b1 : decide (65535 < t180.size) = true := decide_eq_true (by omega)
      clear c12
      simp only [Option.some.injEq, Prod.mk.injEq] at H
      obtain ⟨rfl, rfl⟩ := H
      go_enter Try.func29, Try.ntmps29
      go_wp2_with (first | ((with_reducible refine gate_callee (f := 37) rfl ?_); refine goesL_ (some 23) rfl rfl Try.func37 (by kernel_rfl) rfl #[.string a0, .int .i64 a1, .int .i64 a2] rfl (by (try simp only [List.map_toArray, List.map_cons, List.map_nil]); first | done | rfl | (simp only [List.length_drop, List.length_take]; rfl) | (simp only [ByteArray.size_append, Int.natCast_add]; rfl) | (rw [Go.Proofs.Ytdkkanpbcifkfaa.B.w64] <;> first | rfl | omega | (simp only [decide_eq_false_iff_not, decide_eq_true_eq, Int.not_lt, Nat.not_lt, gt_iff_lt] at * <;> omega))) ?_; (with_reducible refine (wellspringref01_Take.calls a0 a1 a2 t180 true _ A5.out).mono ?_); rintro e w' ⟨rfl, ⟨nd, rfl⟩⟩; refine ⟨_, rfl, ?_⟩) | ((with_reducible refine gate_callee (f := 76) rfl ?_); refine goesL_ (some 29) rfl rfl Try.func76 (by kernel_rfl) rfl #[.int .i64 a3] rfl (by (try simp only [List.map_toArray, List.map_cons, List.map_nil]); first | done | rfl | (simp only [List.length_drop, List.length_take]; rfl) | (simp only [ByteArray.size_append, Int.natCast_add]; rfl) | (rw [Go.Proofs.Ytdkkanpbcifkfaa.B.w64] <;> first | rfl | omega | (simp only [decide_eq_false_iff_not, decide_eq_true_eq, Int.not_lt, Nat.not_lt, gt_iff_lt] at * <;> omega))) ?_; (with_reducible refine (wellspringref05_shape.calls k a3 t182 t183 t184 _ A7.out).mono ?_); rintro e w13 ⟨rfl, hb⟩; refine ⟨_, rfl, ?_⟩; have n0_ := Aside0.mk (below_step (by repeat (first | (with_reducible first | exact HB.out | apply below_alloc | apply pw_below_drewN | apply below_drew1) | exact HB.out)) hb); clear HB; have HB := n0_; clear n0_; (try clear hb); (try clear hb2); (try clear hk); (try clear hi)) | ((with_reducible refine gate_dst (N := 12) rfl ?_); (try (refine gate_guard (by rfl) ?_; dsimp only)); refine box_event ?hg (N := 12) ?hd (cs := #[.int .i64 0, .int .i64 0, .int .i64 0]) (t := 96) ?hr ?_; (case hd => rfl); (case hg => rfl); (case hr => first | (go_simp; done) | (go_simp; rfl)); intro gb185 hg w14 hbox hb; have n0_ := Aside0.mk (below_step (by repeat (first | (with_reducible first | exact HB.out | apply below_alloc | apply pw_below_drewN | apply below_drew1) | exact HB.out)) hb); have n1_ := Aside0.mk (hbox); have n2_ := Aside0.mk ((by rw [hg]; exact (below_size (by repeat (first | (with_reducible first | exact HB.out | apply below_alloc | apply pw_below_drewN | apply below_drew1) | exact HB.out))) : w.heap.size ≤ gb185)); have n3_ := Aside0.mk ((by rw [hg]; exact (below_size (by repeat (first | (with_reducible first | exact HB.out | apply below_alloc | apply pw_below_drewN | apply below_drew1) | exact HB.out))) : w.heap.size ≤ gb185)); clear HB; have HB := n0_; have BK185 := n1_; have GW185 := n2_; have GE185 := n3_; clear n0_ n1_ n2_ n3_; clear hb hbox hg; have hcz15_0 : w14.cell? ⟨gb185, 0, none⟩ = some (.int .i64 0) := (blk_cell BK185.out 0).trans rfl; have hcz15_1 : w14.cell? ⟨gb185, 1, none⟩ = some (.int .i64 0) := (blk_cell BK185.out 1).trans rfl; have hcz15_2 : w14.cell? ⟨gb185, 2, none⟩ = some (.int .i64 0) := (blk_cell BK185.out 2).trans rfl; have hfz15_0 := blk_frozen BK185.out 0; have hfz15_1 := blk_frozen BK185.out 1; have hfz15_2 := blk_frozen BK185.out 2) | (go_at_call 77; (with_reducible refine (wellspringref05_texts.calls k t180 true _ A10.out).mono ?_); rintro e w' ⟨rfl, ⟨nd, rfl⟩⟩))
      go_ret2
      exact ⟨by first | rfl | (simp [errW_none, errW_some] <;> rfl) | (simp [*, errW_none, errW_some] <;> rfl), by repeat (first | (with_reducible first | exact HB.out | apply below_alloc | apply pw_below_drewN | apply below_drew1 | refine below_set ?_ GE185.out) | exact HB.out)⟩
     ·rw [if_neg c12] at H
      have c12b0 : decide (65535 < (t180.size : Int)) = false := decide_eq_false c12
      have c12b1 : decide (65535 < t180.size) = false := decide_eq_false (by omega)
      clear c12
      simp only [Option.some.injEq, Prod.mk.injEq] at H
      obtain ⟨rfl, rfl⟩ := H
      go_enter Try.func29, Try.ntmps29
      go_wp2_with (first | ((with_reducible refine gate_callee (f := 37) rfl ?_); refine goesL_ (some 23) rfl rfl Try.func37 (by kernel_rfl) rfl #[.string a0, .int .i64 a1, .int .i64 a2] rfl (by (try simp only [List.map_toArray, List.map_cons, List.map_nil]); first | done | rfl | (simp only [List.length_drop, List.length_take]; rfl) | (simp only [ByteArray.size_append, Int.natCast_add]; rfl) | (rw [Go.Proofs.Ytdkkanpbcifkfaa.B.w64] <;> first | rfl | omega | (simp only [decide_eq_false_iff_not, decide_eq_true_eq, Int.not_lt, Nat.not_lt, gt_iff_lt] at * <;> omega))) ?_; (with_reducible refine (wellspringref01_Take.calls a0 a1 a2 t180 true _ A5.out).mono ?_); rintro e w' ⟨rfl, ⟨nd, rfl⟩⟩; refine ⟨_, rfl, ?_⟩) | ((with_reducible refine gate_callee (f := 76) rfl ?_); refine goesL_ (some 29) rfl rfl Try.func76 (by kernel_rfl) rfl #[.int .i64 a3] rfl (by (try simp only [List.map_toArray, List.map_cons, List.map_nil]); first | done | rfl | (simp only [List.length_drop, List.length_take]; rfl) | (simp only [ByteArray.size_append, Int.natCast_add]; rfl) | (rw [Go.Proofs.Ytdkkanpbcifkfaa.B.w64] <;> first | rfl | omega | (simp only [decide_eq_false_iff_not, decide_eq_true_eq, Int.not_lt, Nat.not_lt, gt_iff_lt] at * <;> omega))) ?_; (with_reducible refine (wellspringref05_shape.calls k a3 t182 t183 t184 _ A7.out).mono ?_); rintro e w16 ⟨rfl, hb⟩; refine ⟨_, rfl, ?_⟩; have n0_ := Aside0.mk (below_step (by repeat (first | (with_reducible first | exact HB.out | apply below_alloc | apply pw_below_drewN | apply below_drew1) | exact HB.out)) hb); clear HB; have HB := n0_; clear n0_; (try clear hb); (try clear hb2); (try clear hk); (try clear hi)) | ((with_reducible refine gate_dst (N := 12) rfl ?_); (try (refine gate_guard (by rfl) ?_; dsimp only)); refine box_event ?hg (N := 12) ?hd (cs := #[.int .i64 0, .int .i64 0, .int .i64 0]) (t := 96) ?hr ?_; (case hd => rfl); (case hg => rfl); (case hr => first | (go_simp; done) | (go_simp; rfl)); intro gb185 hg w17 hbox hb; have n0_ := Aside0.mk (below_step (by repeat (first | (with_reducible first | exact HB.out | apply below_alloc | apply pw_below_drewN | apply below_drew1) | exact HB.out)) hb); have n1_ := Aside0.mk (hbox); have n2_ := Aside0.mk ((by rw [hg]; exact (below_size (by repeat (first | (with_reducible first | exact HB.out | apply below_alloc | apply pw_below_drewN | apply below_drew1) | exact HB.out))) : w.heap.size ≤ gb185)); have n3_ := Aside0.mk ((by rw [hg]; exact (below_size (by repeat (first | (with_reducible first | exact HB.out | apply below_alloc | apply pw_below_drewN | apply below_drew1) | exact HB.out))) : w.heap.size ≤ gb185)); clear HB; have HB := n0_; have BK185 := n1_; have GW185 := n2_; have GE185 := n3_; clear n0_ n1_ n2_ n3_; clear hb hbox hg; have hcz18_0 : w17.cell? ⟨gb185, 0, none⟩ = some (.int .i64 0) := (blk_cell BK185.out 0).trans rfl; have hcz18_1 : w17.cell? ⟨gb185, 1, none⟩ = some (.int .i64 0) := (blk_cell BK185.out 1).trans rfl; have hcz18_2 : w17.cell? ⟨gb185, 2, none⟩ = some (.int .i64 0) := (blk_cell BK185.out 2).trans rfl; have hfz18_0 := blk_frozen BK185.out 0; have hfz18_1 := blk_frozen BK185.out 1; have hfz18_2 := blk_frozen BK185.out 2) | (go_at_call 77; (with_reducible refine (wellspringref05_texts.calls k t180 true _ A10.out).mono ?_); rintro e w' ⟨rfl, ⟨nd, rfl⟩⟩))
      go_ret2
      exact ⟨by first | rfl | (simp [errW_none, errW_some] <;> rfl) | (simp [*, errW_none, errW_some] <;> rfl), by repeat (first | (with_reducible first | exact HB.out | apply below_alloc | apply pw_below_drewN | apply below_drew1 | refine below_set ?_ GE185.out) | exact HB.out)⟩
    ·replace c11 := Bool.eq_false_iff.mpr c11
     subst c11
     have H1 : (some ((⟨#[]⟩ : ByteArray), 4)) = some (r1, r2) := by rw [if_neg (show ¬ (false = true) by decide)] at H; exact H
     clear H
     have H := H1
     clear H1
     simp only [Option.some.injEq, Prod.mk.injEq] at H
     obtain ⟨rfl, rfl⟩ := H
     go_enter Try.func29, Try.ntmps29
     go_wp2_with (first | ((with_reducible refine gate_callee (f := 37) rfl ?_); refine goesL_ (some 23) rfl rfl Try.func37 (by kernel_rfl) rfl #[.string a0, .int .i64 a1, .int .i64 a2] rfl (by (try simp only [List.map_toArray, List.map_cons, List.map_nil]); first | done | rfl | (simp only [List.length_drop, List.length_take]; rfl) | (simp only [ByteArray.size_append, Int.natCast_add]; rfl) | (rw [Go.Proofs.Ytdkkanpbcifkfaa.B.w64] <;> first | rfl | omega | (simp only [decide_eq_false_iff_not, decide_eq_true_eq, Int.not_lt, Nat.not_lt, gt_iff_lt] at * <;> omega))) ?_; (with_reducible refine (wellspringref01_Take.calls a0 a1 a2 t180 true _ A5.out).mono ?_); rintro e w' ⟨rfl, ⟨nd, rfl⟩⟩; refine ⟨_, rfl, ?_⟩) | ((with_reducible refine gate_callee (f := 76) rfl ?_); refine goesL_ (some 29) rfl rfl Try.func76 (by kernel_rfl) rfl #[.int .i64 a3] rfl (by (try simp only [List.map_toArray, List.map_cons, List.map_nil]); first | done | rfl | (simp only [List.length_drop, List.length_take]; rfl) | (simp only [ByteArray.size_append, Int.natCast_add]; rfl) | (rw [Go.Proofs.Ytdkkanpbcifkfaa.B.w64] <;> first | rfl | omega | (simp only [decide_eq_false_iff_not, decide_eq_true_eq, Int.not_lt, Nat.not_lt, gt_iff_lt] at * <;> omega))) ?_; (with_reducible refine (wellspringref05_shape.calls k a3 t182 t183 t184 _ A7.out).mono ?_); rintro e w19 ⟨rfl, hb⟩; refine ⟨_, rfl, ?_⟩; have n0_ := Aside0.mk (below_step (by repeat (first | (with_reducible first | exact HB.out | apply below_alloc | apply pw_below_drewN | apply below_drew1) | exact HB.out)) hb); clear HB; have HB := n0_; clear n0_; (try clear hb); (try clear hb2); (try clear hk); (try clear hi)) | ((with_reducible refine gate_dst (N := 12) rfl ?_); (try (refine gate_guard (by rfl) ?_; dsimp only)); refine box_event ?hg (N := 12) ?hd (cs := #[.int .i64 0, .int .i64 0, .int .i64 0]) (t := 96) ?hr ?_; (case hd => rfl); (case hg => rfl); (case hr => first | (go_simp; done) | (go_simp; rfl)); intro gb185 hg w20 hbox hb; have n0_ := Aside0.mk (below_step (by repeat (first | (with_reducible first | exact HB.out | apply below_alloc | apply pw_below_drewN | apply below_drew1) | exact HB.out)) hb); have n1_ := Aside0.mk (hbox); have n2_ := Aside0.mk ((by rw [hg]; exact (below_size (by repeat (first | (with_reducible first | exact HB.out | apply below_alloc | apply pw_below_drewN | apply below_drew1) | exact HB.out))) : w.heap.size ≤ gb185)); have n3_ := Aside0.mk ((by rw [hg]; exact (below_size (by repeat (first | (with_reducible first | exact HB.out | apply below_alloc | apply pw_below_drewN | apply below_drew1) | exact HB.out))) : w.heap.size ≤ gb185)); clear HB; have HB := n0_; have BK185 := n1_; have GW185 := n2_; have GE185 := n3_; clear n0_ n1_ n2_ n3_; clear hb hbox hg; have hcz21_0 : w20.cell? ⟨gb185, 0, none⟩ = some (.int .i64 0) := (blk_cell BK185.out 0).trans rfl; have hcz21_1 : w20.cell? ⟨gb185, 1, none⟩ = some (.int .i64 0) := (blk_cell BK185.out 1).trans rfl; have hcz21_2 : w20.cell? ⟨gb185, 2, none⟩ = some (.int .i64 0) := (blk_cell BK185.out 2).trans rfl; have hfz21_0 := blk_frozen BK185.out 0; have hfz21_1 := blk_frozen BK185.out 1; have hfz21_2 := blk_frozen BK185.out 2) | (go_at_call 77; (with_reducible refine (wellspringref05_texts.calls k t180 false _ A10.out).mono ?_); rintro e w' ⟨rfl, ⟨nd, rfl⟩⟩))
     go_ret2
     exact ⟨by first | rfl | (simp [errW_none, errW_some] <;> rfl) | (simp [*, errW_none, errW_some] <;> rfl), by repeat (first | (with_reducible first | exact HB.out | apply below_alloc | apply pw_below_drewN | apply below_drew1 | refine below_set ?_ GE185.out) | exact HB.out)⟩
   ·rw [if_neg c9] at H
    have c9b0 : (a3 == 16) = false := beq_eq_false_iff_ne.mpr c9
    have c9b1 : (a3 != 16) = true := bne_iff_ne.mpr c9
    by_cases c22 : (t180.size : Int) > 65535
    ·rw [if_pos c22] at H
     have c22b0 : decide (65535 < (t180.size : Int)) = true := decide_eq_true c22
     have c22b1 : decide (65535 < t180.size) = true := decide_eq_true (by omega)
     clear c22
     simp only [Option.some.injEq, Prod.mk.injEq] at H
     obtain ⟨rfl, rfl⟩ := H
     go_enter Try.func29, Try.ntmps29
     go_wp2_with (first | ((with_reducible refine gate_callee (f := 37) rfl ?_); refine goesL_ (some 23) rfl rfl Try.func37 (by kernel_rfl) rfl #[.string a0, .int .i64 a1, .int .i64 a2] rfl (by (try simp only [List.map_toArray, List.map_cons, List.map_nil]); first | done | rfl | (simp only [List.length_drop, List.length_take]; rfl) | (simp only [ByteArray.size_append, Int.natCast_add]; rfl) | (rw [Go.Proofs.Ytdkkanpbcifkfaa.B.w64] <;> first | rfl | omega | (simp only [decide_eq_false_iff_not, decide_eq_true_eq, Int.not_lt, Nat.not_lt, gt_iff_lt] at * <;> omega))) ?_; (with_reducible refine (wellspringref01_Take.calls a0 a1 a2 t180 true _ A5.out).mono ?_); rintro e w' ⟨rfl, ⟨nd, rfl⟩⟩; refine ⟨_, rfl, ?_⟩) | ((with_reducible refine gate_callee (f := 76) rfl ?_); refine goesL_ (some 29) rfl rfl Try.func76 (by kernel_rfl) rfl #[.int .i64 a3] rfl (by (try simp only [List.map_toArray, List.map_cons, List.map_nil]); first | done | rfl | (simp only [List.length_drop, List.length_take]; rfl) | (simp only [ByteArray.size_append, Int.natCast_add]; rfl) | (rw [Go.Proofs.Ytdkkanpbcifkfaa.B.w64] <;> first | rfl | omega | (simp only [decide_eq_false_iff_not, decide_eq_true_eq, Int.not_lt, Nat.not_lt, gt_iff_lt] at * <;> omega))) ?_; (with_reducible refine (wellspringref05_shape.calls k a3 t182 t183 t184 _ A7.out).mono ?_); rintro e w23 ⟨rfl, hb⟩; refine ⟨_, rfl, ?_⟩; have n0_ := Aside0.mk (below_step (by repeat (first | (with_reducible first | exact HB.out | apply below_alloc | apply pw_below_drewN | apply below_drew1) | exact HB.out)) hb); clear HB; have HB := n0_; clear n0_; (try clear hb); (try clear hb2); (try clear hk); (try clear hi)) | ((with_reducible refine gate_dst (N := 12) rfl ?_); (try (refine gate_guard (by rfl) ?_; dsimp only)); refine box_event ?hg (N := 12) ?hd (cs := #[.int .i64 0, .int .i64 0, .int .i64 0]) (t := 96) ?hr ?_; (case hd => rfl); (case hg => rfl); (case hr => first | (go_simp; done) | (go_simp; rfl)); intro gb185 hg w24 hbox hb; have n0_ := Aside0.mk (below_step (by repeat (first | (with_reducible first | exact HB.out | apply below_alloc | apply pw_below_drewN | apply below_drew1) | exact HB.out)) hb); have n1_ := Aside0.mk (hbox); have n2_ := Aside0.mk ((by rw [hg]; exact (below_size (by repeat (first | (with_reducible first | exact HB.out | apply below_alloc | apply pw_below_drewN | apply below_drew1) | exact HB.out))) : w.heap.size ≤ gb185)); have n3_ := Aside0.mk ((by rw [hg]; exact (below_size (by repeat (first | (with_reducible first | exact HB.out | apply below_alloc | apply pw_below_drewN | apply below_drew1) | exact HB.out))) : w.heap.size ≤ gb185)); clear HB; have HB := n0_; have BK185 := n1_; have GW185 := n2_; have GE185 := n3_; clear n0_ n1_ n2_ n3_; clear hb hbox hg; have hcz25_0 : w24.cell? ⟨gb185, 0, none⟩ = some (.int .i64 0) := (blk_cell BK185.out 0).trans rfl; have hcz25_1 : w24.cell? ⟨gb185, 1, none⟩ = some (.int .i64 0) := (blk_cell BK185.out 1).trans rfl; have hcz25_2 : w24.cell? ⟨gb185, 2, none⟩ = some (.int .i64 0) := (blk_cell BK185.out 2).trans rfl; have hfz25_0 := blk_frozen BK185.out 0; have hfz25_1 := blk_frozen BK185.out 1; have hfz25_2 := blk_frozen BK185.out 2))
     go_ret2
     exact ⟨by first | rfl | (simp [errW_none, errW_some] <;> rfl) | (simp [*, errW_none, errW_some] <;> rfl), by repeat (first | (with_reducible first | exact HB.out | apply below_alloc | apply pw_below_drewN | apply below_drew1 | refine below_set ?_ GE185.out) | exact HB.out)⟩
    ·rw [if_neg c22] at H
     have c22b0 : decide (65535 < (t180.size : Int)) = false := decide_eq_false c22
     have c22b1 : decide (65535 < t180.size) = false := decide_eq_false (by omega)
     clear c22
     simp only [Option.some.injEq, Prod.mk.injEq] at H
     obtain ⟨rfl, rfl⟩ := H
     go_enter Try.func29, Try.ntmps29
     go_wp2_with (first | ((with_reducible refine gate_callee (f := 37) rfl ?_); refine goesL_ (some 23) rfl rfl Try.func37 (by kernel_rfl) rfl #[.string a0, .int .i64 a1, .int .i64 a2] rfl (by (try simp only [List.map_toArray, List.map_cons, List.map_nil]); first | done | rfl | (simp only [List.length_drop, List.length_take]; rfl) | (simp only [ByteArray.size_append, Int.natCast_add]; rfl) | (rw [Go.Proofs.Ytdkkanpbcifkfaa.B.w64] <;> first | rfl | omega | (simp only [decide_eq_false_iff_not, decide_eq_true_eq, Int.not_lt, Nat.not_lt, gt_iff_lt] at * <;> omega))) ?_; (with_reducible refine (wellspringref01_Take.calls a0 a1 a2 t180 true _ A5.out).mono ?_); rintro e w' ⟨rfl, ⟨nd, rfl⟩⟩; refine ⟨_, rfl, ?_⟩) | ((with_reducible refine gate_callee (f := 76) rfl ?_); refine goesL_ (some 29) rfl rfl Try.func76 (by kernel_rfl) rfl #[.int .i64 a3] rfl (by (try simp only [List.map_toArray, List.map_cons, List.map_nil]); first | done | rfl | (simp only [List.length_drop, List.length_take]; rfl) | (simp only [ByteArray.size_append, Int.natCast_add]; rfl) | (rw [Go.Proofs.Ytdkkanpbcifkfaa.B.w64] <;> first | rfl | omega | (simp only [decide_eq_false_iff_not, decide_eq_true_eq, Int.not_lt, Nat.not_lt, gt_iff_lt] at * <;> omega))) ?_; (with_reducible refine (wellspringref05_shape.calls k a3 t182 t183 t184 _ A7.out).mono ?_); rintro e w26 ⟨rfl, hb⟩; refine ⟨_, rfl, ?_⟩; have n0_ := Aside0.mk (below_step (by repeat (first | (with_reducible first | exact HB.out | apply below_alloc | apply pw_below_drewN | apply below_drew1) | exact HB.out)) hb); clear HB; have HB := n0_; clear n0_; (try clear hb); (try clear hb2); (try clear hk); (try clear hi)) | ((with_reducible refine gate_dst (N := 12) rfl ?_); (try (refine gate_guard (by rfl) ?_; dsimp only)); refine box_event ?hg (N := 12) ?hd (cs := #[.int .i64 0, .int .i64 0, .int .i64 0]) (t := 96) ?hr ?_; (case hd => rfl); (case hg => rfl); (case hr => first | (go_simp; done) | (go_simp; rfl)); intro gb185 hg w27 hbox hb; have n0_ := Aside0.mk (below_step (by repeat (first | (with_reducible first | exact HB.out | apply below_alloc | apply pw_below_drewN | apply below_drew1) | exact HB.out)) hb); have n1_ := Aside0.mk (hbox); have n2_ := Aside0.mk ((by rw [hg]; exact (below_size (by repeat (first | (with_reducible first | exact HB.out | apply below_alloc | apply pw_below_drewN | apply below_drew1) | exact HB.out))) : w.heap.size ≤ gb185)); have n3_ := Aside0.mk ((by rw [hg]; exact (below_size (by repeat (first | (with_reducible first | exact HB.out | apply below_alloc | apply pw_below_drewN | apply below_drew1) | exact HB.out))) : w.heap.size ≤ gb185)); clear HB; have HB := n0_; have BK185 := n1_; have GW185 := n2_; have GE185 := n3_; clear n0_ n1_ n2_ n3_; clear hb hbox hg; have hcz28_0 : w27.cell? ⟨gb185, 0, none⟩ = some (.int .i64 0) := (blk_cell BK185.out 0).trans rfl; have hcz28_1 : w27.cell? ⟨gb185, 1, none⟩ = some (.int .i64 0) := (blk_cell BK185.out 1).trans rfl; have hcz28_2 : w27.cell? ⟨gb185, 2, none⟩ = some (.int .i64 0) := (blk_cell BK185.out 2).trans rfl; have hfz28_0 := blk_frozen BK185.out 0; have hfz28_1 := blk_frozen BK185.out 1; have hfz28_2 := blk_frozen BK185.out 2))
     go_ret2
     exact ⟨by first | rfl | (simp [errW_none, errW_some] <;> rfl) | (simp [*, errW_none, errW_some] <;> rfl), by repeat (first | (with_reducible first | exact HB.out | apply below_alloc | apply pw_below_drewN | apply below_drew1 | refine below_set ?_ GE185.out) | exact HB.out)⟩
  ·rw [if_neg c8] at H
   have c8b0 : (t182 == 0 && (t183 == 0 && (t184 == 0))) = false := by simpa using c8
   (try (have c8b1 : decide (t182 = 0 && (t183 == 0 && (t184 == 0))) = false := by simpa using c8))
   (try (have c8b2 : (t182 == 0 && (t183 == 0 && (t184 == 0))) = false := by simpa using c8))
   (try (have c8b3 : ¬ (t182 = 0 && (t183 == 0 && (t184 == 0))) := by simpa using c8))
   clear c8
   by_cases c29 : t182 > a2
   ·rw [if_pos c29] at H
    have c29b0 : decide (a2 < t182) = true := decide_eq_true c29
    clear c29
    simp only [Option.some.injEq, Prod.mk.injEq] at H
    obtain ⟨rfl, rfl⟩ := H
    go_enter Try.func29, Try.ntmps29
    go_wp2_with (first | ((with_reducible refine gate_callee (f := 37) rfl ?_); refine goesL_ (some 23) rfl rfl Try.func37 (by kernel_rfl) rfl #[.string a0, .int .i64 a1, .int .i64 a2] rfl (by (try simp only [List.map_toArray, List.map_cons, List.map_nil]); first | done | rfl | (simp only [List.length_drop, List.length_take]; rfl) | (simp only [ByteArray.size_append, Int.natCast_add]; rfl) | (rw [Go.Proofs.Ytdkkanpbcifkfaa.B.w64] <;> first | rfl | omega | (simp only [decide_eq_false_iff_not, decide_eq_true_eq, Int.not_lt, Nat.not_lt, gt_iff_lt] at * <;> omega))) ?_; (with_reducible refine (wellspringref01_Take.calls a0 a1 a2 t180 true _ A5.out).mono ?_); rintro e w' ⟨rfl, ⟨nd, rfl⟩⟩; refine ⟨_, rfl, ?_⟩) | ((with_reducible refine gate_callee (f := 76) rfl ?_); refine goesL_ (some 29) rfl rfl Try.func76 (by kernel_rfl) rfl #[.int .i64 a3] rfl (by (try simp only [List.map_toArray, List.map_cons, List.map_nil]); first | done | rfl | (simp only [List.length_drop, List.length_take]; rfl) | (simp only [ByteArray.size_append, Int.natCast_add]; rfl) | (rw [Go.Proofs.Ytdkkanpbcifkfaa.B.w64] <;> first | rfl | omega | (simp only [decide_eq_false_iff_not, decide_eq_true_eq, Int.not_lt, Nat.not_lt, gt_iff_lt] at * <;> omega))) ?_; (with_reducible refine (wellspringref05_shape.calls k a3 t182 t183 t184 _ A7.out).mono ?_); rintro e w30 ⟨rfl, hb⟩; refine ⟨_, rfl, ?_⟩; have n0_ := Aside0.mk (below_step (by repeat (first | (with_reducible first | exact HB.out | apply below_alloc | apply pw_below_drewN | apply below_drew1) | exact HB.out)) hb); clear HB; have HB := n0_; clear n0_; (try clear hb); (try clear hb2); (try clear hk); (try clear hi)) | ((with_reducible refine gate_dst (N := 12) rfl ?_); (try (refine gate_guard (by rfl) ?_; dsimp only)); refine box_event ?hg (N := 12) ?hd (cs := #[.int .i64 0, .int .i64 0, .int .i64 0]) (t := 96) ?hr ?_; (case hd => rfl); (case hg => rfl); (case hr => first | (go_simp; done) | (go_simp; rfl)); intro gb185 hg w31 hbox hb; have n0_ := Aside0.mk (below_step (by repeat (first | (with_reducible first | exact HB.out | apply below_alloc | apply pw_below_drewN | apply below_drew1) | exact HB.out)) hb); have n1_ := Aside0.mk (hbox); have n2_ := Aside0.mk ((by rw [hg]; exact (below_size (by repeat (first | (with_reducible first | exact HB.out | apply below_alloc | apply pw_below_drewN | apply below_drew1) | exact HB.out))) : w.heap.size ≤ gb185)); have n3_ := Aside0.mk ((by rw [hg]; exact (below_size (by repeat (first | (with_reducible first | exact HB.out | apply below_alloc | apply pw_below_drewN | apply below_drew1) | exact HB.out))) : w.heap.size ≤ gb185)); clear HB; have HB := n0_; have BK185 := n1_; have GW185 := n2_; have GE185 := n3_; clear n0_ n1_ n2_ n3_; clear hb hbox hg; have hcz32_0 : w31.cell? ⟨gb185, 0, none⟩ = some (.int .i64 0) := (blk_cell BK185.out 0).trans rfl; have hcz32_1 : w31.cell? ⟨gb185, 1, none⟩ = some (.int .i64 0) := (blk_cell BK185.out 1).trans rfl; have hcz32_2 : w31.cell? ⟨gb185, 2, none⟩ = some (.int .i64 0) := (blk_cell BK185.out 2).trans rfl; have hfz32_0 := blk_frozen BK185.out 0; have hfz32_1 := blk_frozen BK185.out 1; have hfz32_2 := blk_frozen BK185.out 2))
    go_ret2
    exact ⟨by first | rfl | (simp [errW_none, errW_some] <;> rfl) | (simp [*, errW_none, errW_some] <;> rfl), by repeat (first | (with_reducible first | exact HB.out | apply below_alloc | apply pw_below_drewN | apply below_drew1 | refine below_set ?_ GE185.out) | exact HB.out)⟩
   ·rw [if_neg c29] at H
    have c29b0 : decide (a2 < t182) = false := decide_eq_false c29
    clear c29
    by_cases c33 : 0 ≤ t182
    ·rw [if_pos c33] at H
     have c33b0 := eq_true c33
     have c33b1 : decide (0 ≤ t182) = true := decide_eq_true c33
     clear c33
     by_cases c34 : t182 ≤ (t180.size : Int)
     ·rw [if_pos c34] at H
      have c34b0 := eq_true c34
      have c34b1 : decide (t182 ≤ (t180.size : Int)) = true := decide_eq_true c34
      clear c34
      have H' := Aside0.mk H
      clear H
      go_enter Try.func29, Try.ntmps29
      go_wp2_with (first | ((with_reducible refine gate_callee (f := 37) rfl ?_); refine goesL_ (some 23) rfl rfl Try.func37 (by kernel_rfl) rfl #[.string a0, .int .i64 a1, .int .i64 a2] rfl (by (try simp only [List.map_toArray, List.map_cons, List.map_nil]); first | done | rfl | (simp only [List.length_drop, List.length_take]; rfl) | (simp only [ByteArray.size_append, Int.natCast_add]; rfl) | (rw [Go.Proofs.Ytdkkanpbcifkfaa.B.w64] <;> first | rfl | omega | (simp only [decide_eq_false_iff_not, decide_eq_true_eq, Int.not_lt, Nat.not_lt, gt_iff_lt] at * <;> omega))) ?_; (with_reducible refine (wellspringref01_Take.calls a0 a1 a2 t180 true _ A5.out).mono ?_); rintro e w' ⟨rfl, ⟨nd, rfl⟩⟩; refine ⟨_, rfl, ?_⟩) | ((with_reducible refine gate_callee (f := 76) rfl ?_); refine goesL_ (some 29) rfl rfl Try.func76 (by kernel_rfl) rfl #[.int .i64 a3] rfl (by (try simp only [List.map_toArray, List.map_cons, List.map_nil]); first | done | rfl | (simp only [List.length_drop, List.length_take]; rfl) | (simp only [ByteArray.size_append, Int.natCast_add]; rfl) | (rw [Go.Proofs.Ytdkkanpbcifkfaa.B.w64] <;> first | rfl | omega | (simp only [decide_eq_false_iff_not, decide_eq_true_eq, Int.not_lt, Nat.not_lt, gt_iff_lt] at * <;> omega))) ?_; (with_reducible refine (wellspringref05_shape.calls k a3 t182 t183 t184 _ A7.out).mono ?_); rintro e w35 ⟨rfl, hb⟩; refine ⟨_, rfl, ?_⟩; have n0_ := Aside0.mk (below_step (by repeat (first | (with_reducible first | exact HB.out | apply below_alloc | apply pw_below_drewN | apply below_drew1) | exact HB.out)) hb); clear HB; have HB := n0_; clear n0_; (try clear hb); (try clear hb2); (try clear hk); (try clear hi)) | ((with_reducible refine gate_dst (N := 12) rfl ?_); (try (refine gate_guard (by rfl) ?_; dsimp only)); refine box_event ?hg (N := 12) ?hd (cs := #[.int .i64 0, .int .i64 0, .int .i64 0]) (t := 96) ?hr ?_; (case hd => rfl); (case hg => rfl); (case hr => first | (go_simp; done) | (go_simp; rfl)); intro gb185 hg w36 hbox hb; have n0_ := Aside0.mk (below_step (by repeat (first | (with_reducible first | exact HB.out | apply below_alloc | apply pw_below_drewN | apply below_drew1) | exact HB.out)) hb); have n1_ := Aside0.mk (hbox); have n2_ := Aside0.mk ((by rw [hg]; exact (below_size (by repeat (first | (with_reducible first | exact HB.out | apply below_alloc | apply pw_below_drewN | apply below_drew1) | exact HB.out))) : w.heap.size ≤ gb185)); have n3_ := Aside0.mk ((by rw [hg]; exact (below_size (by repeat (first | (with_reducible first | exact HB.out | apply below_alloc | apply pw_below_drewN | apply below_drew1) | exact HB.out))) : w.heap.size ≤ gb185)); clear HB; have HB := n0_; have BK185 := n1_; have GW185 := n2_; have GE185 := n3_; clear n0_ n1_ n2_ n3_; clear hb hbox hg; have hcz37_0 : w36.cell? ⟨gb185, 0, none⟩ = some (.int .i64 0) := (blk_cell BK185.out 0).trans rfl; have hcz37_1 : w36.cell? ⟨gb185, 1, none⟩ = some (.int .i64 0) := (blk_cell BK185.out 1).trans rfl; have hcz37_2 : w36.cell? ⟨gb185, 2, none⟩ = some (.int .i64 0) := (blk_cell BK185.out 2).trans rfl; have hfz37_0 := blk_frozen BK185.out 0; have hfz37_1 := blk_frozen BK185.out 1; have hfz37_2 := blk_frozen BK185.out 2))
      go_loopg [13, 14, 15] k (fun kq v13 v14 v15 w' => ∃ (x13_1 : ByteArray) (x14_1 : Int) (x15_1 : Int), v13 = .string x13_1 ∧ v14 = .int .i64 x14_1 ∧ v15 = .int .i64 x15_1 ∧ Aside0 (wellspringref05_Expand.l0 kq a0 a1 a2 x13_1 x14_1 x15_1 t182 t183 t184 = some (r1, r2)) ∧ Aside0 (kq ≤ k) ∧ Aside0 (w'.heap[gb185]? = some (.cells #[.int .i64 t182, .int .i64 t183, .int .i64 t184] 96 (0, 0))) ∧ Aside0 (Below w.heap.size w w'))
      case atStart => exact ⟨(t180.extract 0 (t182 : Int).toNat), (wrap64 (a1 + t182)), (0), (by first | rfl | (simp; done) | (simp [*]; done) | (simp [Go.Proofs.Ytdkkanpbcifkfaa.B.beq_not_bne]; done) | (simp [Go.Proofs.Ytdkkanpbcifkfaa.B.bne_not_beq]; done)), (by first | rfl | (simp; done) | (simp [*]; done) | (simp [Go.Proofs.Ytdkkanpbcifkfaa.B.beq_not_bne]; done) | (simp [Go.Proofs.Ytdkkanpbcifkfaa.B.bne_not_beq]; done)), (by first | rfl | (simp; done) | (simp [*]; done) | (simp [Go.Proofs.Ytdkkanpbcifkfaa.B.beq_not_bne]; done) | (simp [Go.Proofs.Ytdkkanpbcifkfaa.B.bne_not_beq]; done)), H', ⟨Nat.le_refl _⟩, ⟨by (with_reducible repeat (first | refine blk_drewN ?_ _ | refine blk_drew ?_ | refine blk_alloc ?_ _)); refine blk_put (cs := #[.int .i64 t182, .int .i64 t183, .int .i64 0]) ?_ 2 _ rfl; (with_reducible repeat (first | refine blk_drewN ?_ _ | refine blk_drew ?_ | refine blk_alloc ?_ _)); refine blk_put (cs := #[.int .i64 t182, .int .i64 0, .int .i64 0]) ?_ 1 _ rfl; (with_reducible repeat (first | refine blk_drewN ?_ _ | refine blk_drew ?_ | refine blk_alloc ?_ _)); refine blk_put (cs := #[.int .i64 0, .int .i64 0, .int .i64 0]) ?_ 0 _ rfl; (with_reducible repeat (first | refine blk_drewN ?_ _ | refine blk_drew ?_ | refine blk_alloc ?_ _)); exact BK185.out⟩, ⟨by repeat (first | (with_reducible first | exact HB.out | apply below_alloc | apply pw_below_drewN | apply below_drew1 | refine below_set ?_ GE185.out) | exact HB.out)⟩⟩
      case round =>
       clear H'
       try clear c1
       try clear c2
       try clear p2
       try clear c3
       try clear c6
       try clear p6
       try clear c7
       try clear c8
       try clear c8b0
       try clear c8b1
       try clear c8b2
       try clear c9
       try clear c9b0
       try clear c9b1
       try clear c11
       try clear c12
       try clear c12b0
       try clear c12b1
       try clear c22
       try clear c22b0
       try clear c22b1
       try clear c29
       try clear c29b0
       try clear c33
       try clear c33b0
       try clear c33b1
       try clear c34
       try clear c34b0
       try clear c34b1
       try clear c37
       try clear hcz15_0
       try clear hcz15_1
       try clear hcz15_2
       try clear hcz18_0
       try clear hcz18_1
       try clear hcz18_2
       try clear hcz21_0
       try clear hcz21_1
       try clear hcz21_2
       try clear hcz25_0
       try clear hcz25_1
       try clear hcz25_2
       try clear hcz28_0
       try clear hcz28_1
       try clear hcz28_2
       try clear hcz32_0
       try clear hcz32_1
       try clear hcz32_2
       try clear hcz37_0
       try clear hcz37_1
       try clear hcz37_2
       try clear hfz15_0
       try clear hfz15_1
       try clear hfz15_2
       try clear hfz18_0
       try clear hfz18_1
       try clear hfz18_2
       try clear hfz21_0
       try clear hfz21_1
       try clear hfz21_2
       try clear hfz25_0
       try clear hfz25_1
       try clear hfz25_2
       try clear hfz28_0
       try clear hfz28_1
       try clear hfz28_2
       try clear hfz32_0
       try clear hfz32_1
       try clear hfz32_2
       try clear hfz37_0
       try clear hfz37_1
       try clear hfz37_2
       obtain ⟨x13_1, x14_1, x15_1, rfl, rfl, rfl, HA, HK1, BK185, HB⟩ := hrel
       cases gk with
       | zero => exact absurd HA.out (by simp [wellspringref05_Expand.l0])
       | succ k1 =>
        have H := HA.out
        clear HA
        simp only [wellspringref05_Expand.l0] at H
        by_cases c38 : x15_1 < t183
        ·rw [if_pos c38] at H
         have c38b0 : decide (x15_1 < t183) = true := decide_eq_true c38
         clear c38
         replace H := Option.bind_eq_some_iff.mp H
         obtain ⟨⟨t187, t188, t189⟩, A390, H⟩ := H
         replace H : (if t189 = 0 then (if x13_1.size + t187.size ≤ 9223372036854775807 then (wellspringref05_Expand.l0 k1 a0 a1 a2 (x13_1 ++ t187) t188 (wrap64 (x15_1 + 1)) t182 t183 t184) else (none)) else (some ((⟨#[]⟩ : ByteArray), 4))) = some (r1, r2) := H
         have A39 := Aside0.mk A390
         clear A390
         by_cases c40 : t189 = 0
         ·rw [if_pos c40] at H
          have c40b0 : (t189 == 0) = true := beq_iff_eq.mpr c40
          have c40b1 : (t189 != 0) = false := bne_eq_false_iff_eq.mpr c40
          clear c40
          by_cases c41 : x13_1.size + t187.size ≤ 9223372036854775807
          ·rw [if_pos c41] at H
           have c41b0 := eq_true c41
           have c41b1 : decide (x13_1.size + t187.size ≤ 9223372036854775807) = true := decide_eq_true c41
           try have c41b2 : (9223372036854775807 < x13_1.size + t187.size) = False := eq_false (Nat.not_lt.2 c41)
           have H' := Aside0.mk H
           clear H
           have hcz42_0 : wr.cell? ⟨gb185, 0, none⟩ = some (.int .i64 t182) := (blk_cell BK185.out 0).trans rfl
           have hcz42_1 : wr.cell? ⟨gb185, 1, none⟩ = some (.int .i64 t183) := (blk_cell BK185.out 1).trans rfl
           have hcz42_2 : wr.cell? ⟨gb185, 2, none⟩ = some (.int .i64 t184) := (blk_cell BK185.out 2).trans rfl
           have hfz42_0 := blk_frozen BK185.out 0
           have hfz42_1 := blk_frozen BK185.out 1
           have hfz42_2 := blk_frozen BK185.out 2
           go_wp2_with (first | ((with_reducible refine gate_callee (f := 22) rfl ?_); refine goesL_ (some 67) rfl rfl Try.func22 (by kernel_rfl) rfl #[.string a0, .int .i64 x14_1] rfl (by (try simp only [List.map_toArray, List.map_cons, List.map_nil]); first | done | rfl | (simp only [List.length_drop, List.length_take]; rfl) | (simp only [ByteArray.size_append, Int.natCast_add]; rfl) | (rw [Go.Proofs.Ytdkkanpbcifkfaa.B.w64] <;> first | rfl | omega | (simp only [decide_eq_false_iff_not, decide_eq_true_eq, Int.not_lt, Nat.not_lt, gt_iff_lt] at * <;> omega))) ?_; (with_reducible refine (wellspringref04_Read.calls k1 a0 x14_1 t187 t188 t189 _ A39.out).mono ?_); rintro e w' ⟨rfl, ⟨nd, rfl⟩⟩; refine ⟨_, rfl, ?_⟩))
           go_roundg k1
           case measure => have := HK1.out; omega
           case rel => exact ⟨(x13_1 ++ t187), (t188), (wrap64 (x15_1 + 1)), (by first | rfl | (simp; done) | (simp [*]; done) | (simp [Go.Proofs.Ytdkkanpbcifkfaa.B.beq_not_bne]; done) | (simp [Go.Proofs.Ytdkkanpbcifkfaa.B.bne_not_beq]; done)), (by first | rfl | (simp; done) | (simp [*]; done) | (simp [Go.Proofs.Ytdkkanpbcifkfaa.B.beq_not_bne]; done) | (simp [Go.Proofs.Ytdkkanpbcifkfaa.B.bne_not_beq]; done)), (by first | rfl | (simp; done) | (simp [*]; done) | (simp [Go.Proofs.Ytdkkanpbcifkfaa.B.beq_not_bne]; done) | (simp [Go.Proofs.Ytdkkanpbcifkfaa.B.bne_not_beq]; done)), H', ⟨by have := HK1.out; omega⟩, ⟨by (with_reducible repeat (first | refine blk_drewN ?_ _ | refine blk_drew ?_ | refine blk_alloc ?_ _)); exact BK185.out⟩, ⟨by repeat (first | (with_reducible first | exact HB.out | apply below_alloc | apply pw_below_drewN | apply below_drew1 | refine below_set ?_ GE185.out) | exact HB.out)⟩⟩
          ·rw [if_neg c41] at H
           exact absurd H (by simp)
         ·rw [if_neg c40] at H
          have c40b0 : (t189 == 0) = false := beq_eq_false_iff_ne.mpr c40
          have c40b1 : (t189 != 0) = true := bne_iff_ne.mpr c40
          simp only [Option.some.injEq, Prod.mk.injEq] at H
          obtain ⟨rfl, rfl⟩ := H
          have hcz43_0 : wr.cell? ⟨gb185, 0, none⟩ = some (.int .i64 t182) := (blk_cell BK185.out 0).trans rfl
          have hcz43_1 : wr.cell? ⟨gb185, 1, none⟩ = some (.int .i64 t183) := (blk_cell BK185.out 1).trans rfl
          have hcz43_2 : wr.cell? ⟨gb185, 2, none⟩ = some (.int .i64 t184) := (blk_cell BK185.out 2).trans rfl
          have hfz43_0 := blk_frozen BK185.out 0
          have hfz43_1 := blk_frozen BK185.out 1
          have hfz43_2 := blk_frozen BK185.out 2
          go_wp2_with (first | ((with_reducible refine gate_callee (f := 22) rfl ?_); refine goesL_ (some 67) rfl rfl Try.func22 (by kernel_rfl) rfl #[.string a0, .int .i64 x14_1] rfl (by (try simp only [List.map_toArray, List.map_cons, List.map_nil]); first | done | rfl | (simp only [List.length_drop, List.length_take]; rfl) | (simp only [ByteArray.size_append, Int.natCast_add]; rfl) | (rw [Go.Proofs.Ytdkkanpbcifkfaa.B.w64] <;> first | rfl | omega | (simp only [decide_eq_false_iff_not, decide_eq_true_eq, Int.not_lt, Nat.not_lt, gt_iff_lt] at * <;> omega))) ?_; (with_reducible refine (wellspringref04_Read.calls k1 a0 x14_1 t187 t188 t189 _ A39.out).mono ?_); rintro e w' ⟨rfl, ⟨nd, rfl⟩⟩; refine ⟨_, rfl, ?_⟩))
          go_ret2
          exact ⟨by first | rfl | (simp [errW_none, errW_some] <;> rfl) | (simp [*, errW_none, errW_some] <;> rfl), by repeat (first | (with_reducible first | exact HB.out | apply below_alloc | apply pw_below_drewN | apply below_drew1 | refine below_set ?_ GE185.out) | exact HB.out)⟩
        ·rw [if_neg c38] at H
         have c38b0 : decide (x15_1 < t183) = false := decide_eq_false c38
         clear c38
         by_cases c44 : (wrap64 (x14_1 + t184)) = (wrap64 (a1 + a2))
         ·rw [if_pos c44] at H
          have c44b0 : ((wrap64 (x14_1 + t184)) == (wrap64 (a1 + a2))) = true := beq_iff_eq.mpr c44
          have c44b1 : ((wrap64 (x14_1 + t184)) != (wrap64 (a1 + a2))) = false := bne_eq_false_iff_eq.mpr c44
          (try (have c44b2 : (((x14_1 + t184)) == ((a1 + a2))) = true := by have h_ : ((wrap64 (x14_1 + t184)) == (wrap64 (a1 + a2))) = true := beq_iff_eq.mpr c44; rw [Go.Proofs.Ytdkkanpbcifkfaa.B.w64 (by omega) (by omega)] at h_; rw [Go.Proofs.Ytdkkanpbcifkfaa.B.w64 (by omega) (by omega)] at h_; exact h_))
          (try (have c44b3 : (((x14_1 + t184)) != ((a1 + a2))) = false := by have h_ : ((wrap64 (x14_1 + t184)) != (wrap64 (a1 + a2))) = false := bne_eq_false_iff_eq.mpr c44; rw [Go.Proofs.Ytdkkanpbcifkfaa.B.w64 (by omega) (by omega)] at h_; rw [Go.Proofs.Ytdkkanpbcifkfaa.B.w64 (by omega) (by omega)] at h_; exact h_))
          clear c44
          by_cases c45 : 0 ≤ x14_1
          ·rw [if_pos c45] at H
           have c45b0 := eq_true c45
           have c45b1 : decide (0 ≤ x14_1) = true := decide_eq_true c45
           clear c45
           by_cases c46 : x14_1 ≤ (wrap64 (a1 + a2))
           ·rw [if_pos c46] at H
            have c46b0 := eq_true c46
            have c46b1 : decide (x14_1 ≤ (wrap64 (a1 + a2))) = true := decide_eq_true c46
            by_cases c47 : (wrap64 (a1 + a2)) ≤ (a0.size : Int)
            ·rw [if_pos c47] at H
             have c47b0 := eq_true c47
             have c47b1 : decide ((wrap64 (a1 + a2)) ≤ (a0.size : Int)) = true := decide_eq_true c47
             by_cases c48 : x13_1.size + (a0.extract (x14_1 : Int).toNat ((wrap64 (a1 + a2)) : Int).toNat).size ≤ 9223372036854775807
             ·rw [if_pos c48] at H
              have c48b0 := eq_true c48
              have c48b1 : decide (x13_1.size + (a0.extract (x14_1 : Int).toNat ((wrap64 (a1 + a2)) : Int).toNat).size ≤ 9223372036854775807) = true := decide_eq_true c48
              try have c48b2 : (9223372036854775807 < x13_1.size + (a0.extract (x14_1 : Int).toNat ((wrap64 (a1 + a2)) : Int).toNat).size) = False := eq_false (Nat.not_lt.2 c48)
              by_cases c49 : ((x13_1 ++ (a0.extract (x14_1 : Int).toNat ((wrap64 (a1 + a2)) : Int).toNat)).size : Int) > 65535
              ·rw [if_pos c49] at H
               have c49b0 : decide (65535 < ((x13_1 ++ (a0.extract (x14_1 : Int).toNat ((wrap64 (a1 + a2)) : Int).toNat)).size : Int)) = true := decide_eq_true c49
               have c49b1 : decide (65535 < (x13_1 ++ (a0.extract (x14_1 : Int).toNat ((wrap64 (a1 + a2)) : Int).toNat)).size) = true := decide_eq_true (by omega)
               (try (have c49b2 : decide (65535 < ((x13_1.size : Int) + ((a0.extract (x14_1 : Int).toNat ((wrap64 (a1 + a2)) : Int).toNat).size : Int))) = true := by have h_ : decide (65535 < ((x13_1 ++ (a0.extract (x14_1 : Int).toNat ((wrap64 (a1 + a2)) : Int).toNat)).size : Int)) = true := decide_eq_true c49; rw [show ((x13_1 ++ (a0.extract (x14_1 : Int).toNat ((wrap64 (a1 + a2)) : Int).toNat)).size : Int) = ((x13_1.size : Int) + ((a0.extract (x14_1 : Int).toNat ((wrap64 (a1 + a2)) : Int).toNat).size : Int)) from by (simp only [ByteArray.size_append, Int.natCast_add]; first | done | rfl)] at h_; (first | exact h_ | (simp only [Int.add_sub_cancel] at h_; exact h_))))
               (try (have c49b3 : decide (65535 < ((x13_1.size : Int) + ((((wrap64 (a1 + a2)) : Int).toNat - (x14_1 : Int).toNat : Nat) : Int))) = true := by have h_ : decide (65535 < ((x13_1 ++ (a0.extract (x14_1 : Int).toNat ((wrap64 (a1 + a2)) : Int).toNat)).size : Int)) = true := decide_eq_true c49; rw [show ((x13_1 ++ (a0.extract (x14_1 : Int).toNat ((wrap64 (a1 + a2)) : Int).toNat)).size : Int) = ((x13_1.size : Int) + ((a0.extract (x14_1 : Int).toNat ((wrap64 (a1 + a2)) : Int).toNat).size : Int)) from by (simp only [ByteArray.size_append, Int.natCast_add]; first | done | rfl)] at h_; rw [show ((a0.extract (x14_1 : Int).toNat ((wrap64 (a1 + a2)) : Int).toNat).size : Int) = ((((wrap64 (a1 + a2)) : Int).toNat - (x14_1 : Int).toNat : Nat) : Int) from by (have h1_ : (wrap64 (a1 + a2)) ≤ (a0.size : Int) := of_decide_eq_true (by assumption); rw [ByteArray.size_extract]; omega)] at h_; exact h_))
               (try (have c49b4 : decide (65535 < ((x13_1 ++ (a0.extract (x14_1 : Int).toNat (((a1 + a2)) : Int).toNat)).size : Int)) = true := by have h_ : decide (65535 < ((x13_1 ++ (a0.extract (x14_1 : Int).toNat ((wrap64 (a1 + a2)) : Int).toNat)).size : Int)) = true := decide_eq_true c49; rw [Go.Proofs.Ytdkkanpbcifkfaa.B.w64 (by omega) (by omega)] at h_; exact h_))
               (try (have c49b5 : decide (65535 < (x13_1 ++ (a0.extract (x14_1 : Int).toNat (((a1 + a2)) : Int).toNat)).size) = true := by have h_ : decide (65535 < (x13_1 ++ (a0.extract (x14_1 : Int).toNat ((wrap64 (a1 + a2)) : Int).toNat)).size) = true := decide_eq_true (by omega); rw [Go.Proofs.Ytdkkanpbcifkfaa.B.w64 (by omega) (by omega)] at h_; exact h_))
               (try (have c49b6 : decide (65535 < ((x13_1.size : Int) + ((a0.extract (x14_1 : Int).toNat (((a1 + a2)) : Int).toNat).size : Int))) = true := by have h_ : decide (65535 < ((x13_1.size : Int) + ((a0.extract (x14_1 : Int).toNat ((wrap64 (a1 + a2)) : Int).toNat).size : Int))) = true := by have h_ : decide (65535 < ((x13_1 ++ (a0.extract (x14_1 : Int).toNat ((wrap64 (a1 + a2)) : Int).toNat)).size : Int)) = true := decide_eq_true c49; rw [show ((x13_1 ++ (a0.extract (x14_1 : Int).toNat ((wrap64 (a1 + a2)) : Int).toNat)).size : Int) = ((x13_1.size : Int) + ((a0.extract (x14_1 : Int).toNat ((wrap64 (a1 + a2)) : Int).toNat).size : Int)) from by (simp only [ByteArray.size_append, Int.natCast_add]; first | done | rfl)] at h_; (first | exact h_ | (simp only [Int.add_sub_cancel] at h_; exact h_)); rw [Go.Proofs.Ytdkkanpbcifkfaa.B.w64 (by omega) (by omega)] at h_; exact h_))
               (try (have c49b7 : decide (65535 < ((x13_1.size : Int) + (((((a1 + a2)) : Int).toNat - (x14_1 : Int).toNat : Nat) : Int))) = true := by have h_ : decide (65535 < ((x13_1.size : Int) + ((((wrap64 (a1 + a2)) : Int).toNat - (x14_1 : Int).toNat : Nat) : Int))) = true := by have h_ : decide (65535 < ((x13_1 ++ (a0.extract (x14_1 : Int).toNat ((wrap64 (a1 + a2)) : Int).toNat)).size : Int)) = true := decide_eq_true c49; rw [show ((x13_1 ++ (a0.extract (x14_1 : Int).toNat ((wrap64 (a1 + a2)) : Int).toNat)).size : Int) = ((x13_1.size : Int) + ((a0.extract (x14_1 : Int).toNat ((wrap64 (a1 + a2)) : Int).toNat).size : Int)) from by (simp only [ByteArray.size_append, Int.natCast_add]; first | done | rfl)] at h_; rw [show ((a0.extract (x14_1 : Int).toNat ((wrap64 (a1 + a2)) : Int).toNat).size : Int) = ((((wrap64 (a1 + a2)) : Int).toNat - (x14_1 : Int).toNat : Nat) : Int) from by (have h1_ : (wrap64 (a1 + a2)) ≤ (a0.size : Int) := of_decide_eq_true (by assumption); rw [ByteArray.size_extract]; omega)] at h_; exact h_; rw [Go.Proofs.Ytdkkanpbcifkfaa.B.w64 (by omega) (by omega)] at h_; exact h_))
               clear c49
               simp only [Option.some.injEq, Prod.mk.injEq] at H
               obtain ⟨rfl, rfl⟩ := H
               have hcz50_0 : wr.cell? ⟨gb185, 0, none⟩ = some (.int .i64 t182) := (blk_cell BK185.out 0).trans rfl
               have hcz50_1 : wr.cell? ⟨gb185, 1, none⟩ = some (.int .i64 t183) := (blk_cell BK185.out 1).trans rfl
               have hcz50_2 : wr.cell? ⟨gb185, 2, none⟩ = some (.int .i64 t184) := (blk_cell BK185.out 2).trans rfl
               have hfz50_0 := blk_frozen BK185.out 0
               have hfz50_1 := blk_frozen BK185.out 1
               have hfz50_2 := blk_frozen BK185.out 2
               go_wp2
               go_ret2
               exact ⟨by first | rfl | (simp [errW_none, errW_some] <;> rfl) | (simp [*, errW_none, errW_some] <;> rfl), by repeat (first | (with_reducible first | exact HB.out | apply below_alloc | apply pw_below_drewN | apply below_drew1 | refine below_set ?_ GE185.out) | exact HB.out)⟩
              ·rw [if_neg c49] at H
               have c49b0 : decide (65535 < ((x13_1 ++ (a0.extract (x14_1 : Int).toNat ((wrap64 (a1 + a2)) : Int).toNat)).size : Int)) = false := decide_eq_false c49
               have c49b1 : decide (65535 < (x13_1 ++ (a0.extract (x14_1 : Int).toNat ((wrap64 (a1 + a2)) : Int).toNat)).size) = false := decide_eq_false (by omega)
               (try (have c49b2 : decide (65535 < ((x13_1.size : Int) + ((a0.extract (x14_1 : Int).toNat ((wrap64 (a1 + a2)) : Int).toNat).size : Int))) = false := by have h_ : decide (65535 < ((x13_1 ++ (a0.extract (x14_1 : Int).toNat ((wrap64 (a1 + a2)) : Int).toNat)).size : Int)) = false := decide_eq_false c49; rw [show ((x13_1 ++ (a0.extract (x14_1 : Int).toNat ((wrap64 (a1 + a2)) : Int).toNat)).size : Int) = ((x13_1.size : Int) + ((a0.extract (x14_1 : Int).toNat ((wrap64 (a1 + a2)) : Int).toNat).size : Int)) from by (simp only [ByteArray.size_append, Int.natCast_add]; first | done | rfl)] at h_; (first | exact h_ | (simp only [Int.add_sub_cancel] at h_; exact h_))))
               (try (have c49b3 : decide (65535 < ((x13_1.size : Int) + ((((wrap64 (a1 + a2)) : Int).toNat - (x14_1 : Int).toNat : Nat) : Int))) = false := by have h_ : decide (65535 < ((x13_1 ++ (a0.extract (x14_1 : Int).toNat ((wrap64 (a1 + a2)) : Int).toNat)).size : Int)) = false := decide_eq_false c49; rw [show ((x13_1 ++ (a0.extract (x14_1 : Int).toNat ((wrap64 (a1 + a2)) : Int).toNat)).size : Int) = ((x13_1.size : Int) + ((a0.extract (x14_1 : Int).toNat ((wrap64 (a1 + a2)) : Int).toNat).size : Int)) from by (simp only [ByteArray.size_append, Int.natCast_add]; first | done | rfl)] at h_; rw [show ((a0.extract (x14_1 : Int).toNat ((wrap64 (a1 + a2)) : Int).toNat).size : Int) = ((((wrap64 (a1 + a2)) : Int).toNat - (x14_1 : Int).toNat : Nat) : Int) from by (have h1_ : (wrap64 (a1 + a2)) ≤ (a0.size : Int) := of_decide_eq_true (by assumption); rw [ByteArray.size_extract]; omega)] at h_; exact h_))
               (try (have c49b4 : decide (65535 < ((x13_1 ++ (a0.extract (x14_1 : Int).toNat (((a1 + a2)) : Int).toNat)).size : Int)) = false := by have h_ : decide (65535 < ((x13_1 ++ (a0.extract (x14_1 : Int).toNat ((wrap64 (a1 + a2)) : Int).toNat)).size : Int)) = false := decide_eq_false c49; rw [Go.Proofs.Ytdkkanpbcifkfaa.B.w64 (by omega) (by omega)] at h_; exact h_))
               (try (have c49b5 : decide (65535 < (x13_1 ++ (a0.extract (x14_1 : Int).toNat (((a1 + a2)) : Int).toNat)).size) = false := by have h_ : decide (65535 < (x13_1 ++ (a0.extract (x14_1 : Int).toNat ((wrap64 (a1 + a2)) : Int).toNat)).size) = false := decide_eq_false (by omega); rw [Go.Proofs.Ytdkkanpbcifkfaa.B.w64 (by omega) (by omega)] at h_; exact h_))
               (try (have c49b6 : decide (65535 < ((x13_1.size : Int) + ((a0.extract (x14_1 : Int).toNat (((a1 + a2)) : Int).toNat).size : Int))) = false := by have h_ : decide (65535 < ((x13_1.size : Int) + ((a0.extract (x14_1 : Int).toNat ((wrap64 (a1 + a2)) : Int).toNat).size : Int))) = false := by have h_ : decide (65535 < ((x13_1 ++ (a0.extract (x14_1 : Int).toNat ((wrap64 (a1 + a2)) : Int).toNat)).size : Int)) = false := decide_eq_false c49; rw [show ((x13_1 ++ (a0.extract (x14_1 : Int).toNat ((wrap64 (a1 + a2)) : Int).toNat)).size : Int) = ((x13_1.size : Int) + ((a0.extract (x14_1 : Int).toNat ((wrap64 (a1 + a2)) : Int).toNat).size : Int)) from by (simp only [ByteArray.size_append, Int.natCast_add]; first | done | rfl)] at h_; (first | exact h_ | (simp only [Int.add_sub_cancel] at h_; exact h_)); rw [Go.Proofs.Ytdkkanpbcifkfaa.B.w64 (by omega) (by omega)] at h_; exact h_))
               (try (have c49b7 : decide (65535 < ((x13_1.size : Int) + (((((a1 + a2)) : Int).toNat - (x14_1 : Int).toNat : Nat) : Int))) = false := by have h_ : decide (65535 < ((x13_1.size : Int) + ((((wrap64 (a1 + a2)) : Int).toNat - (x14_1 : Int).toNat : Nat) : Int))) = false := by have h_ : decide (65535 < ((x13_1 ++ (a0.extract (x14_1 : Int).toNat ((wrap64 (a1 + a2)) : Int).toNat)).size : Int)) = false := decide_eq_false c49; rw [show ((x13_1 ++ (a0.extract (x14_1 : Int).toNat ((wrap64 (a1 + a2)) : Int).toNat)).size : Int) = ((x13_1.size : Int) + ((a0.extract (x14_1 : Int).toNat ((wrap64 (a1 + a2)) : Int).toNat).size : Int)) from by (simp only [ByteArray.size_append, Int.natCast_add]; first | done | rfl)] at h_; rw [show ((a0.extract (x14_1 : Int).toNat ((wrap64 (a1 + a2)) : Int).toNat).size : Int) = ((((wrap64 (a1 + a2)) : Int).toNat - (x14_1 : Int).toNat : Nat) : Int) from by (have h1_ : (wrap64 (a1 + a2)) ≤ (a0.size : Int) := of_decide_eq_true (by assumption); rw [ByteArray.size_extract]; omega)] at h_; exact h_; rw [Go.Proofs.Ytdkkanpbcifkfaa.B.w64 (by omega) (by omega)] at h_; exact h_))
               clear c49
               simp only [Option.some.injEq, Prod.mk.injEq] at H
               obtain ⟨rfl, rfl⟩ := H
               have hcz51_0 : wr.cell? ⟨gb185, 0, none⟩ = some (.int .i64 t182) := (blk_cell BK185.out 0).trans rfl
               have hcz51_1 : wr.cell? ⟨gb185, 1, none⟩ = some (.int .i64 t183) := (blk_cell BK185.out 1).trans rfl
               have hcz51_2 : wr.cell? ⟨gb185, 2, none⟩ = some (.int .i64 t184) := (blk_cell BK185.out 2).trans rfl
               have hfz51_0 := blk_frozen BK185.out 0
               have hfz51_1 := blk_frozen BK185.out 1
               have hfz51_2 := blk_frozen BK185.out 2
               go_wp2
               go_ret2
               exact ⟨by first | rfl | (simp [errW_none, errW_some] <;> rfl) | (simp [*, errW_none, errW_some] <;> rfl), by repeat (first | (with_reducible first | exact HB.out | apply below_alloc | apply pw_below_drewN | apply below_drew1 | refine below_set ?_ GE185.out) | exact HB.out)⟩
             ·rw [if_neg c48] at H
              exact absurd H (by simp)
            ·rw [if_neg c47] at H
             exact absurd H (by simp)
           ·rw [if_neg c46] at H
            exact absurd H (by simp)
          ·rw [if_neg c45] at H
           exact absurd H (by simp)
         ·rw [if_neg c44] at H
          have c44b0 : ((wrap64 (x14_1 + t184)) == (wrap64 (a1 + a2))) = false := beq_eq_false_iff_ne.mpr c44
          have c44b1 : ((wrap64 (x14_1 + t184)) != (wrap64 (a1 + a2))) = true := bne_iff_ne.mpr c44
          (try (have c44b2 : (((x14_1 + t184)) == ((a1 + a2))) = false := by have h_ : ((wrap64 (x14_1 + t184)) == (wrap64 (a1 + a2))) = false := beq_eq_false_iff_ne.mpr c44; rw [Go.Proofs.Ytdkkanpbcifkfaa.B.w64 (by omega) (by omega)] at h_; rw [Go.Proofs.Ytdkkanpbcifkfaa.B.w64 (by omega) (by omega)] at h_; exact h_))
          (try (have c44b3 : (((x14_1 + t184)) != ((a1 + a2))) = true := by have h_ : ((wrap64 (x14_1 + t184)) != (wrap64 (a1 + a2))) = true := bne_iff_ne.mpr c44; rw [Go.Proofs.Ytdkkanpbcifkfaa.B.w64 (by omega) (by omega)] at h_; rw [Go.Proofs.Ytdkkanpbcifkfaa.B.w64 (by omega) (by omega)] at h_; exact h_))
          simp only [Option.some.injEq, Prod.mk.injEq] at H
          obtain ⟨rfl, rfl⟩ := H
          have hcz52_0 : wr.cell? ⟨gb185, 0, none⟩ = some (.int .i64 t182) := (blk_cell BK185.out 0).trans rfl
          have hcz52_1 : wr.cell? ⟨gb185, 1, none⟩ = some (.int .i64 t183) := (blk_cell BK185.out 1).trans rfl
          have hcz52_2 : wr.cell? ⟨gb185, 2, none⟩ = some (.int .i64 t184) := (blk_cell BK185.out 2).trans rfl
          have hfz52_0 := blk_frozen BK185.out 0
          have hfz52_1 := blk_frozen BK185.out 1
          have hfz52_2 := blk_frozen BK185.out 2
          go_wp2
          go_ret2
          exact ⟨by first | rfl | (simp [errW_none, errW_some] <;> rfl) | (simp [*, errW_none, errW_some] <;> rfl), by repeat (first | (with_reducible first | exact HB.out | apply below_alloc | apply pw_below_drewN | apply below_drew1 | refine below_set ?_ GE185.out) | exact HB.out)⟩
     ·rw [if_neg c34] at H
      exact absurd H (by simp)
    ·rw [if_neg c33] at H
     exact absurd H (by simp)
 ·replace c6 := Bool.eq_false_iff.mpr c6
  subst c6
  have H1 : (some ((⟨#[]⟩ : ByteArray), 2)) = some (r1, r2) := by rw [if_neg (show ¬ (false = true) by decide)] at H; exact H
  clear H
  have H := H1
  clear H1
  simp only [Option.some.injEq, Prod.mk.injEq] at H
  obtain ⟨rfl, rfl⟩ := H
  go_enter Try.func29, Try.ntmps29
  go_wp2_with (first | ((with_reducible refine gate_callee (f := 37) rfl ?_); refine goesL_ (some 23) rfl rfl Try.func37 (by kernel_rfl) rfl #[.string a0, .int .i64 a1, .int .i64 a2] rfl (by (try simp only [List.map_toArray, List.map_cons, List.map_nil]); first | done | rfl | (simp only [List.length_drop, List.length_take]; rfl) | (simp only [ByteArray.size_append, Int.natCast_add]; rfl) | (rw [Go.Proofs.Ytdkkanpbcifkfaa.B.w64] <;> first | rfl | omega | (simp only [decide_eq_false_iff_not, decide_eq_true_eq, Int.not_lt, Nat.not_lt, gt_iff_lt] at * <;> omega))) ?_; (with_reducible refine (wellspringref01_Take.calls a0 a1 a2 t180 false _ A5.out).mono ?_); rintro e w' ⟨rfl, ⟨nd, rfl⟩⟩; refine ⟨_, rfl, ?_⟩))
  go_ret2
  exact ⟨by first | rfl | (simp [errW_none, errW_some] <;> rfl) | (simp [*, errW_none, errW_some] <;> rfl), by repeat (first | (with_reducible first | exact HB.out | apply below_alloc | apply pw_below_drewN | apply below_drew1) | exact HB.out)⟩

/-! ### wellspringref05_Check: function 31 -/
def wellspringref05_Check.f (k : Nat) (a0 : Int) (a1 : ByteArray) : Option (Bool) := if (a1.size : Int) > 65535 then (some false) else ((wellspringref05_Expand.f k a1 0 (a1.size : Int) a0).bind fun bt197 => (if bt197.2 = 0 then (some (bt197.1.toList == a1.toList)) else (some false)))
set_option maxHeartbeats 8000000 in
set_option maxRecDepth 100000 in
theorem wellspringref05_Check.calls (k : Nat) (a0 : Int) (a1 : ByteArray) (r : Bool) (w : World) (h : wellspringref05_Check.f k a0 a1 = some r) :
  Calls Try.prog 31 #[.int .i64 a0, .string a1] w fun e w' => e = .returned (.bool r) ∧ Below w.heap.size w w' := by
 have HB := Aside0.mk (Below.refl w.heap.size w)
 have H : (if (a1.size : Int) > 65535 then (some false) else ((wellspringref05_Expand.f k a1 0 (a1.size : Int) a0).bind fun bt197 => (if bt197.2 = 0 then (some (bt197.1.toList == a1.toList)) else (some false)))) = some r := h
 clear h
 by_cases c3 : (a1.size : Int) > 65535
 ·rw [if_pos c3] at H
  have c3b0 : decide (65535 < (a1.size : Int)) = true := decide_eq_true c3
  have c3b1 : decide (65535 < a1.size) = true := decide_eq_true (by omega)
  clear c3
  obtain rfl := Option.some.inj H
  go_enter Try.func31, Try.ntmps31
  go_wp2
  go_ret
  exact ⟨by first | rfl | (simp [errW_none, errW_some] <;> rfl) | (simp [*, errW_none, errW_some] <;> rfl), by repeat (first | (with_reducible first | exact HB.out | apply below_alloc | apply pw_below_drewN | apply below_drew1) | exact HB.out)⟩
 ·rw [if_neg c3] at H
  have c3b0 : decide (65535 < (a1.size : Int)) = false := decide_eq_false c3
  have c3b1 : decide (65535 < a1.size) = false := decide_eq_false (by omega)
  clear c3
  replace H := Option.bind_eq_some_iff.mp H
  obtain ⟨⟨t197, t198⟩, A40, H⟩ := H
  replace H : (if t198 = 0 then (some (t197.toList == a1.toList)) else (some false)) = some r := H
  have A4 := Aside0.mk A40
  clear A40
  by_cases c5 : t198 = 0
  ·rw [if_pos c5] at H
   have c5b0 : (t198 == 0) = true := beq_iff_eq.mpr c5
   have c5b1 : (t198 != 0) = false := bne_eq_false_iff_eq.mpr c5
   clear c5
   obtain rfl := Option.some.inj H
   go_enter Try.func31, Try.ntmps31
   go_wp2_with (first | ((with_reducible refine gate_callee (f := 29) rfl ?_); refine goesL_ (some 15) rfl rfl Try.func29 (by kernel_rfl) rfl #[.string a1, .int .i64 0, .int .i64 (a1.size : Int), .int .i64 a0] rfl (by (try simp only [List.map_toArray, List.map_cons, List.map_nil]); first | done | rfl | (simp only [List.length_drop, List.length_take]; rfl) | (simp only [ByteArray.size_append, Int.natCast_add]; rfl) | (rw [Go.Proofs.Ytdkkanpbcifkfaa.B.w64] <;> first | rfl | omega | (simp only [decide_eq_false_iff_not, decide_eq_true_eq, Int.not_lt, Nat.not_lt, gt_iff_lt] at * <;> omega))) ?_; (with_reducible refine (wellspringref05_Expand.calls k a1 0 (a1.size : Int) a0 t197 t198 _ A4.out).mono ?_); rintro e w6 ⟨rfl, hb⟩; refine ⟨_, rfl, ?_⟩; have n0_ := Aside0.mk (below_step (by repeat (first | (with_reducible first | exact HB.out | apply below_alloc | apply pw_below_drewN | apply below_drew1) | exact HB.out)) hb); clear HB; have HB := n0_; clear n0_; (try clear hb); (try clear hb2); (try clear hk); (try clear hi)))
   go_ret
   exact ⟨by first | rfl | (simp [errW_none, errW_some] <;> rfl) | (simp [*, errW_none, errW_some] <;> rfl), by repeat (first | (with_reducible first | exact HB.out | apply below_alloc | apply pw_below_drewN | apply below_drew1) | exact HB.out)⟩
  ·rw [if_neg c5] at H
   have c5b0 : (t198 == 0) = false := beq_eq_false_iff_ne.mpr c5
   have c5b1 : (t198 != 0) = true := bne_iff_ne.mpr c5
   obtain rfl := Option.some.inj H
   go_enter Try.func31, Try.ntmps31
   go_wp2_with (first | ((with_reducible refine gate_callee (f := 29) rfl ?_); refine goesL_ (some 15) rfl rfl Try.func29 (by kernel_rfl) rfl #[.string a1, .int .i64 0, .int .i64 (a1.size : Int), .int .i64 a0] rfl (by (try simp only [List.map_toArray, List.map_cons, List.map_nil]); first | done | rfl | (simp only [List.length_drop, List.length_take]; rfl) | (simp only [ByteArray.size_append, Int.natCast_add]; rfl) | (rw [Go.Proofs.Ytdkkanpbcifkfaa.B.w64] <;> first | rfl | omega | (simp only [decide_eq_false_iff_not, decide_eq_true_eq, Int.not_lt, Nat.not_lt, gt_iff_lt] at * <;> omega))) ?_; (with_reducible refine (wellspringref05_Expand.calls k a1 0 (a1.size : Int) a0 t197 t198 _ A4.out).mono ?_); rintro e w7 ⟨rfl, hb⟩; refine ⟨_, rfl, ?_⟩; have n0_ := Aside0.mk (below_step (by repeat (first | (with_reducible first | exact HB.out | apply below_alloc | apply pw_below_drewN | apply below_drew1) | exact HB.out)) hb); clear HB; have HB := n0_; clear n0_; (try clear hb); (try clear hb2); (try clear hk); (try clear hi)))
   go_ret
   exact ⟨by first | rfl | (simp [errW_none, errW_some] <;> rfl) | (simp [*, errW_none, errW_some] <;> rfl), by repeat (first | (with_reducible first | exact HB.out | apply below_alloc | apply pw_below_drewN | apply below_drew1) | exact HB.out)⟩

/-! ### wellspringref05_Names: function 34 -/
def wellspringref05_Names.l0 : Nat → ByteArray → List ByteArray → Int → Int → Int → Int → Int → Option (List ByteArray)
 | 0, _, _, _, _, _, _, _ => none
 | k + 1, x1, x5, x7, x8, x204000, x204001, x204002 => if x8 < x204001 then ((wellspringref04_Read.f k x1 x7).bind fun bt204 => (if x5.length < 8796093022208 then (wellspringref05_Names.l0 k x1 (x5 ++ [bt204.1]) bt204.2.1 (wrap64 (x8 + 1)) x204000 x204001 x204002) else (none))) else (some x5)
def wellspringref05_Names.f (k : Nat) (a0 : Int) (a1 : ByteArray) : Option (List ByteArray) := (wellspringref05_Check.f k a0 a1).bind fun t199 => (if t199 = true then ((wellspringref05_shape.f k a0).bind fun bt200 => (wellspringref05_Names.l0 k a1 ([] : List ByteArray) bt200.1 0 bt200.1 bt200.2.1 bt200.2.2)) else (some ([] : List ByteArray)))
set_option maxHeartbeats 8000000 in
set_option maxRecDepth 100000 in
theorem wellspringref05_Names.calls (k : Nat) (a0 : Int) (a1 : ByteArray) (r : List ByteArray) (w : World) (h : wellspringref05_Names.f k a0 a1 = some r) :
  Calls Try.prog 34 #[.int .i64 a0, .string a1] w fun e w' => ∃ v0_ : Value, e = .returned (v0_) ∧ Kd.R Kd.string 9 w' w.heap.size (fun _ => True) v0_ r ∧ Below w.heap.size w w' := by
 have hu96 := Try.underlying96
 have HB := Aside0.mk (Below.refl w.heap.size w)
 have H : ((wellspringref05_Check.f k a0 a1).bind fun t199 => (if t199 = true then ((wellspringref05_shape.f k a0).bind fun bt200 => (wellspringref05_Names.l0 k a1 ([] : List ByteArray) bt200.1 0 bt200.1 bt200.2.1 bt200.2.2)) else (some ([] : List ByteArray)))) = some r := h
 clear h
 replace H := Option.bind_eq_some_iff.mp H
 obtain ⟨t199, A30, H⟩ := H
 replace H : (if t199 = true then ((wellspringref05_shape.f k a0).bind fun bt200 => (wellspringref05_Names.l0 k a1 ([] : List ByteArray) bt200.1 0 bt200.1 bt200.2.1 bt200.2.2)) else (some ([] : List ByteArray))) = some r := H
 have A3 := Aside0.mk A30
 clear A30
 by_cases c4 : t199 = true
 ·subst c4
  have H1 : ((wellspringref05_shape.f k a0).bind fun bt200 => (wellspringref05_Names.l0 k a1 ([] : List ByteArray) bt200.1 0 bt200.1 bt200.2.1 bt200.2.2)) = some r := by rw [if_pos rfl] at H; exact H
  clear H
  have H := H1
  clear H1
  replace H := Option.bind_eq_some_iff.mp H
  obtain ⟨⟨t200, t201, t202⟩, A50, H⟩ := H
  replace H : (wellspringref05_Names.l0 k a1 ([] : List ByteArray) t200 0 t200 t201 t202) = some r := H
  have A5 := Aside0.mk A50
  clear A50
  have H' := Aside0.mk H
  clear H
  go_enter Try.func34, Try.ntmps34
  go_wp2_with (first | ((with_reducible refine gate_callee (f := 31) rfl ?_); refine goesL_ (some 14) rfl rfl Try.func31 (by kernel_rfl) rfl #[.int .i64 a0, .string a1] rfl (by (try simp only [List.map_toArray, List.map_cons, List.map_nil]); first | done | rfl | (simp only [List.length_drop, List.length_take]; rfl) | (simp only [ByteArray.size_append, Int.natCast_add]; rfl) | (rw [Go.Proofs.Ytdkkanpbcifkfaa.B.w64] <;> first | rfl | omega | (simp only [decide_eq_false_iff_not, decide_eq_true_eq, Int.not_lt, Nat.not_lt, gt_iff_lt] at * <;> omega))) ?_; (with_reducible refine (wellspringref05_Check.calls k a0 a1 true _ A3.out).mono ?_); rintro e w6 ⟨rfl, hb⟩; refine ⟨_, rfl, ?_⟩; have n0_ := Aside0.mk (below_step (by repeat (first | (with_reducible first | exact HB.out | apply below_alloc | apply pw_below_drewN | apply below_drew1) | exact HB.out)) hb); clear HB; have HB := n0_; clear n0_; (try clear hb); (try clear hb2); (try clear hk); (try clear hi)) | ((with_reducible refine gate_callee (f := 76) rfl ?_); refine goesL_ (some 17) rfl rfl Try.func76 (by kernel_rfl) rfl #[.int .i64 a0] rfl (by (try simp only [List.map_toArray, List.map_cons, List.map_nil]); first | done | rfl | (simp only [List.length_drop, List.length_take]; rfl) | (simp only [ByteArray.size_append, Int.natCast_add]; rfl) | (rw [Go.Proofs.Ytdkkanpbcifkfaa.B.w64] <;> first | rfl | omega | (simp only [decide_eq_false_iff_not, decide_eq_true_eq, Int.not_lt, Nat.not_lt, gt_iff_lt] at * <;> omega))) ?_; (with_reducible refine (wellspringref05_shape.calls k a0 t200 t201 t202 _ A5.out).mono ?_); rintro e w7 ⟨rfl, hb⟩; refine ⟨_, rfl, ?_⟩; have n0_ := Aside0.mk (below_step (by repeat (first | (with_reducible first | exact HB.out | apply below_alloc | apply pw_below_drewN | apply below_drew1) | exact HB.out)) hb); clear HB; have HB := n0_; clear n0_; (try clear hb); (try clear hb2); (try clear hk); (try clear hi)) | ((with_reducible refine gate_dst (N := 6) rfl ?_); refine box_event ?hg (N := 6) ?hd (cs := #[.int .i64 0, .int .i64 0, .int .i64 0]) (t := 96) ?hr ?_; (case hd => rfl); (case hg => rfl); (case hr => first | (go_simp; done) | (go_simp; rfl)); intro gb203 hg w8 hbox hb; have n0_ := Aside0.mk (below_step (by repeat (first | (with_reducible first | exact HB.out | apply below_alloc | apply pw_below_drewN | apply below_drew1) | exact HB.out)) hb); have n1_ := Aside0.mk (hbox); have n2_ := Aside0.mk ((by rw [hg]; exact (below_size (by repeat (first | (with_reducible first | exact HB.out | apply below_alloc | apply pw_below_drewN | apply below_drew1) | exact HB.out))) : w.heap.size ≤ gb203)); have n3_ := Aside0.mk ((by rw [hg]; exact (below_size (by repeat (first | (with_reducible first | exact HB.out | apply below_alloc | apply pw_below_drewN | apply below_drew1) | exact HB.out))) : w.heap.size ≤ gb203)); clear HB; have HB := n0_; have BK203 := n1_; have GW203 := n2_; have GE203 := n3_; clear n0_ n1_ n2_ n3_; clear hb hbox hg; have hcz9_0 : w8.cell? ⟨gb203, 0, none⟩ = some (.int .i64 0) := (blk_cell BK203.out 0).trans rfl; have hcz9_1 : w8.cell? ⟨gb203, 1, none⟩ = some (.int .i64 0) := (blk_cell BK203.out 1).trans rfl; have hcz9_2 : w8.cell? ⟨gb203, 2, none⟩ = some (.int .i64 0) := (blk_cell BK203.out 2).trans rfl; have hfz9_0 := blk_frozen BK203.out 0; have hfz9_1 := blk_frozen BK203.out 1; have hfz9_2 := blk_frozen BK203.out 2))
  go_loopg [5, 7, 8] k (fun kq v5 v7 v8 w' => ∃ (x5_1 : List ByteArray) (x7_1 : Int) (x8_1 : Int), v7 = .int .i64 x7_1 ∧ v8 = .int .i64 x8_1 ∧ Aside0 (wellspringref05_Names.l0 kq a1 x5_1 x7_1 x8_1 t200 t201 t202 = some r) ∧ Aside0 (kq ≤ k) ∧ Aside0 (Kd.R Kd.string 9 w' w.heap.size (fun _ => True) v5 x5_1) ∧ Aside0 (w'.heap[gb203]? = some (.cells #[.int .i64 t200, .int .i64 t201, .int .i64 t202] 96 (0, 0))) ∧ Aside0 (Below w.heap.size w w'))
  case atStart => exact ⟨(([] : List ByteArray)), (t200), (0), (by first | rfl | (simp; done) | (simp [*]; done) | (simp [Go.Proofs.Ytdkkanpbcifkfaa.B.beq_not_bne]; done) | (simp [Go.Proofs.Ytdkkanpbcifkfaa.B.bne_not_beq]; done)), (by first | rfl | (simp; done) | (simp [*]; done) | (simp [Go.Proofs.Ytdkkanpbcifkfaa.B.beq_not_bne]; done) | (simp [Go.Proofs.Ytdkkanpbcifkfaa.B.bne_not_beq]; done)), H', ⟨Nat.le_refl _⟩, ⟨by first | exact Kd.R_nil _ _ _ _ _ | exact Kd.N_nil _ _ _ _ _ | exact Kd.V_nil _ _ _ _ _ | exact Kd.Q_nil _ _ _ _ _ | exact Kd.S_nil _ _ _ _ _⟩, ⟨by (with_reducible repeat (first | refine blk_drewN ?_ _ | refine blk_drew ?_ | refine blk_alloc ?_ _)); refine blk_put (cs := #[.int .i64 t200, .int .i64 t201, .int .i64 0]) ?_ 2 _ rfl; (with_reducible repeat (first | refine blk_drewN ?_ _ | refine blk_drew ?_ | refine blk_alloc ?_ _)); refine blk_put (cs := #[.int .i64 t200, .int .i64 0, .int .i64 0]) ?_ 1 _ rfl; (with_reducible repeat (first | refine blk_drewN ?_ _ | refine blk_drew ?_ | refine blk_alloc ?_ _)); refine blk_put (cs := #[.int .i64 0, .int .i64 0, .int .i64 0]) ?_ 0 _ rfl; (with_reducible repeat (first | refine blk_drewN ?_ _ | refine blk_drew ?_ | refine blk_alloc ?_ _)); exact BK203.out⟩, ⟨by repeat (first | (with_reducible first | exact HB.out | apply below_alloc | apply pw_below_drewN | apply below_drew1 | refine below_set ?_ GE203.out) | exact HB.out)⟩⟩
  case round =>
   clear H'
   try clear p2
   try clear c3
   try clear c4
   try clear c7
   try clear hcz9_0
   try clear hcz9_1
   try clear hcz9_2
   try clear hfz9_0
   try clear hfz9_1
   try clear hfz9_2
   obtain ⟨x5_1, x7_1, x8_1, rfl, rfl, HA, HK1, HO_5, BK203, HB⟩ := hrel
   cases gk with
   | zero => exact absurd HA.out (by simp [wellspringref05_Names.l0])
   | succ k1 =>
    have H := HA.out
    clear HA
    simp only [wellspringref05_Names.l0] at H
    by_cases c10 : x8_1 < t201
    ·rw [if_pos c10] at H
     have c10b0 : decide (x8_1 < t201) = true := decide_eq_true c10
     clear c10
     replace H := Option.bind_eq_some_iff.mp H
     obtain ⟨⟨t204, t205, t206⟩, A110, H⟩ := H
     replace H : (if x5_1.length < 8796093022208 then (wellspringref05_Names.l0 k1 a1 (x5_1 ++ [t204]) t205 (wrap64 (x8_1 + 1)) t200 t201 t202) else (none)) = some r := H
     have A11 := Aside0.mk A110
     clear A110
     by_cases c12 : x5_1.length < 8796093022208
     ·rw [if_pos c12] at H
      have LMc12 := Aside0.mk c12
      clear c12
      obtain ⟨y207, hy207⟩ : ∃ y_ : List ByteArray, y_ = (x5_1 ++ [t204]) := ⟨_, rfl⟩
      replace H : (wellspringref05_Names.l0 k1 a1 y207 t205 (wrap64 (x8_1 + 1)) t200 t201 t202) = some r := by first | (rw [hy207]; with_reducible exact H) | (have H2_ := (Option.bind_some _ _).symm.trans H; rw [hy207]; with_reducible exact H2_) | (have H2_ := (Option.bind_some _ _).symm.trans H; with_reducible exact H2_) | with_reducible exact H | (rw [hy207]; exact H) | exact H
      have Ny207 := Aside0.mk hy207
      clear hy207
      have H' := Aside0.mk H
      clear H
      have hcz13_0 : wr.cell? ⟨gb203, 0, none⟩ = some (.int .i64 t200) := (blk_cell BK203.out 0).trans rfl
      have hcz13_1 : wr.cell? ⟨gb203, 1, none⟩ = some (.int .i64 t201) := (blk_cell BK203.out 1).trans rfl
      have hcz13_2 : wr.cell? ⟨gb203, 2, none⟩ = some (.int .i64 t202) := (blk_cell BK203.out 2).trans rfl
      have hfz13_0 := blk_frozen BK203.out 0
      have hfz13_1 := blk_frozen BK203.out 1
      have hfz13_2 := blk_frozen BK203.out 2
      go_wp2_with (first | ((with_reducible refine gate_callee (f := 22) rfl ?_); refine goesL_ (some 29) rfl rfl Try.func22 (by kernel_rfl) rfl #[.string a1, .int .i64 x7_1] rfl (by (try simp only [List.map_toArray, List.map_cons, List.map_nil]); first | done | rfl | (simp only [List.length_drop, List.length_take]; rfl) | (simp only [ByteArray.size_append, Int.natCast_add]; rfl) | (rw [Go.Proofs.Ytdkkanpbcifkfaa.B.w64] <;> first | rfl | omega | (simp only [decide_eq_false_iff_not, decide_eq_true_eq, Int.not_lt, Nat.not_lt, gt_iff_lt] at * <;> omega))) ?_; (with_reducible refine (wellspringref04_Read.calls k1 a1 x7_1 t204 t205 t206 _ A11.out).mono ?_); rintro e w' ⟨rfl, ⟨nd, rfl⟩⟩; refine ⟨_, rfl, ?_⟩) | ((with_reducible refine gate_builtin (b := .append) (xs := #[.tmp 33, .tmp 35]) rfl ?_); at_builtin; refine Kd.R_append Kd.string (w0 := w) w.heap.size rfl (.tmp 33) (.tmp 35) 32 9 (.string ⟨#[]⟩) 16 rfl Try.underlying32 info9 rfl (by decide) (by omega) u5 x5_1 t204 [.string t204] (fun _ => True) (fun _ => False) rfl rfl ?aP (fun _ hk => hk.elim) ?aF ?aO ?aB ?aS ?aL ?_; (case aP => exact rfl); (case aB => exact (by repeat (first | (with_reducible first | exact HB.out | apply below_alloc | apply pw_below_drewN | apply below_drew1 | refine below_set ?_ GE203.out) | exact HB.out))); (case aF => exact (fun _ _ => trivial)); (case aO => exact (by (with_reducible repeat (first | apply Kd.R_alloc | apply Kd.R_drewN | apply Kd.R_drew)); exact HO_5.out)); (case aS => exact (below_size (by repeat (first | (with_reducible first | exact HB.out | apply below_alloc | apply pw_below_drewN | apply below_drew1 | refine below_set ?_ GE203.out) | exact HB.out)))); (case aL => have := LMc12.out; omega); intro v208 w14 ho hb hg hat; rw [← Ny207.out] at ho; have n0_ := Aside0.mk (blk_grown (g := gb203) (o := .cells #[.int .i64 t200, .int .i64 t201, .int .i64 t202] 96 (0, 0)) (by (with_reducible repeat (first | refine blk_drewN ?_ _ | refine blk_drew ?_ | refine blk_alloc ?_ _)); exact BK203.out) hg (Kd.R_ne HO_5.out BK203.out (by decide))); have n1_ := Aside0.mk (hb); have n2_ := Aside0.mk (ho); clear BK203; clear HB; clear HO_5; have BK203 := n0_; have HB := n1_; have HO209 := n2_; clear n0_ n1_ n2_; clear ho hb hg hat))
      go_roundg k1
      case measure => have := HK1.out; omega
      case rel => exact ⟨(y207), (t205), (wrap64 (x8_1 + 1)), (by first | rfl | (simp; done) | (simp [*]; done) | (simp [Go.Proofs.Ytdkkanpbcifkfaa.B.beq_not_bne]; done) | (simp [Go.Proofs.Ytdkkanpbcifkfaa.B.bne_not_beq]; done)), (by first | rfl | (simp; done) | (simp [*]; done) | (simp [Go.Proofs.Ytdkkanpbcifkfaa.B.beq_not_bne]; done) | (simp [Go.Proofs.Ytdkkanpbcifkfaa.B.bne_not_beq]; done)), H', ⟨by have := HK1.out; omega⟩, ⟨by (with_reducible repeat (first | apply Kd.R_alloc | apply Kd.R_drewN | apply Kd.R_drew)); exact HO209.out⟩, ⟨by (with_reducible repeat (first | refine blk_drewN ?_ _ | refine blk_drew ?_ | refine blk_alloc ?_ _)); exact BK203.out⟩, ⟨by repeat (first | (with_reducible first | exact HB.out | apply below_alloc | apply pw_below_drewN | apply below_drew1 | refine below_set ?_ GE203.out) | exact HB.out)⟩⟩
     ·rw [if_neg c12] at H
      exact absurd H (by simp)
    ·rw [if_neg c10] at H
     have c10b0 : decide (x8_1 < t201) = false := decide_eq_false c10
     clear c10
     obtain rfl := Option.some.inj H
     have hcz15_0 : wr.cell? ⟨gb203, 0, none⟩ = some (.int .i64 t200) := (blk_cell BK203.out 0).trans rfl
     have hcz15_1 : wr.cell? ⟨gb203, 1, none⟩ = some (.int .i64 t201) := (blk_cell BK203.out 1).trans rfl
     have hcz15_2 : wr.cell? ⟨gb203, 2, none⟩ = some (.int .i64 t202) := (blk_cell BK203.out 2).trans rfl
     have hfz15_0 := blk_frozen BK203.out 0
     have hfz15_1 := blk_frozen BK203.out 1
     have hfz15_2 := blk_frozen BK203.out 2
     go_wp2
     go_ret
     exact ⟨_, by first | rfl | (simp [errW_none, errW_some] <;> rfl) | (simp [*, errW_none, errW_some] <;> rfl), by (with_reducible repeat (first | apply Kd.R_alloc | apply Kd.R_drewN | apply Kd.R_drew)); exact HO_5.out, by repeat (first | (with_reducible first | exact HB.out | apply below_alloc | apply pw_below_drewN | apply below_drew1 | refine below_set ?_ GE203.out) | exact HB.out)⟩
 ·replace c4 := Bool.eq_false_iff.mpr c4
  subst c4
  have H1 : (some ([] : List ByteArray)) = some r := by rw [if_neg (show ¬ (false = true) by decide)] at H; exact H
  clear H
  have H := H1
  clear H1
  obtain rfl := Option.some.inj H
  go_enter Try.func34, Try.ntmps34
  go_wp2_with (first | ((with_reducible refine gate_callee (f := 31) rfl ?_); refine goesL_ (some 14) rfl rfl Try.func31 (by kernel_rfl) rfl #[.int .i64 a0, .string a1] rfl (by (try simp only [List.map_toArray, List.map_cons, List.map_nil]); first | done | rfl | (simp only [List.length_drop, List.length_take]; rfl) | (simp only [ByteArray.size_append, Int.natCast_add]; rfl) | (rw [Go.Proofs.Ytdkkanpbcifkfaa.B.w64] <;> first | rfl | omega | (simp only [decide_eq_false_iff_not, decide_eq_true_eq, Int.not_lt, Nat.not_lt, gt_iff_lt] at * <;> omega))) ?_; (with_reducible refine (wellspringref05_Check.calls k a0 a1 false _ A3.out).mono ?_); rintro e w16 ⟨rfl, hb⟩; refine ⟨_, rfl, ?_⟩; have n0_ := Aside0.mk (below_step (by repeat (first | (with_reducible first | exact HB.out | apply below_alloc | apply pw_below_drewN | apply below_drew1) | exact HB.out)) hb); clear HB; have HB := n0_; clear n0_; (try clear hb); (try clear hb2); (try clear hk); (try clear hi)))
  go_ret
  exact ⟨_, by first | rfl | (simp [errW_none, errW_some] <;> rfl) | (simp [*, errW_none, errW_some] <;> rfl), by first | exact Kd.R_nil _ _ _ _ _ | exact Kd.N_nil _ _ _ _ _ | exact Kd.V_nil _ _ _ _ _ | exact Kd.Q_nil _ _ _ _ _ | exact Kd.S_nil _ _ _ _ _, by repeat (first | (with_reducible first | exact HB.out | apply below_alloc | apply pw_below_drewN | apply below_drew1) | exact HB.out)⟩

/-! ### wellspringref05_Low: function 36 -/
def wellspringref05_Low.l0 : Nat → ByteArray → List ByteArray → ByteArray → Int → Int → Option (ByteArray)
 | 0, _, _, _, _, _ => none
 | k + 1, x1, x5, x7, x8, x9 => if x9 < (x5.length : Int) then (if 0 ≤ x9 then ((wellspringref02_Low.f k (rdOf ByteArray.empty x5 x9)).bind fun t228 => (if x7.size + t228.size ≤ 9223372036854775807 then (wellspringref05_Low.l0 k x1 x5 (x7 ++ t228) (wrap64 (x8 + ((rdOf ByteArray.empty x5 x9).size : Int))) (wrap64 (x9 + 1))) else (none))) else (none)) else (if 0 ≤ x8 then (if x8 ≤ (x1.size : Int) then (if x7.size + (x1.extract (x8 : Int).toNat x1.size).size ≤ 9223372036854775807 then (some (x7 ++ (x1.extract (x8 : Int).toNat x1.size))) else (none)) else (none)) else (none))
def wellspringref05_Low.f (k : Nat) (a0 : Int) (a1 : ByteArray) : Option (ByteArray) := (wellspringref05_Check.f k a0 a1).bind fun t219 => (if t219 = true then ((wellspringref05_Names.f k a0 a1).bind fun t220 => ((wellspringref05_shape.f k a0).bind fun bt223 => (if 0 ≤ bt223.1 then (if bt223.1 ≤ (a1.size : Int) then (wellspringref05_Low.l0 k a1 t220 (a1.extract 0 (bt223.1 : Int).toNat) bt223.1 0) else (none)) else (none)))) else (some (⟨#[]⟩ : ByteArray)))
set_option maxHeartbeats 8000000 in
set_option maxRecDepth 100000 in
theorem wellspringref05_Low.calls (k : Nat) (a0 : Int) (a1 : ByteArray) (r : ByteArray) (w : World) (h : wellspringref05_Low.f k a0 a1 = some r) :
  Calls Try.prog 36 #[.int .i64 a0, .string a1] w fun e w' => e = .returned (.string r) ∧ Below w.heap.size w w' := by
 have hu96 := Try.underlying96
 have HB := Aside0.mk (Below.refl w.heap.size w)
 have H : ((wellspringref05_Check.f k a0 a1).bind fun t219 => (if t219 = true then ((wellspringref05_Names.f k a0 a1).bind fun t220 => ((wellspringref05_shape.f k a0).bind fun bt223 => (if 0 ≤ bt223.1 then (if bt223.1 ≤ (a1.size : Int) then (wellspringref05_Low.l0 k a1 t220 (a1.extract 0 (bt223.1 : Int).toNat) bt223.1 0) else (none)) else (none)))) else (some (⟨#[]⟩ : ByteArray)))) = some r := h
 clear h
 replace H := Option.bind_eq_some_iff.mp H
 obtain ⟨t219, A30, H⟩ := H
 replace H : (if t219 = true then ((wellspringref05_Names.f k a0 a1).bind fun t220 => ((wellspringref05_shape.f k a0).bind fun bt223 => (if 0 ≤ bt223.1 then (if bt223.1 ≤ (a1.size : Int) then (wellspringref05_Low.l0 k a1 t220 (a1.extract 0 (bt223.1 : Int).toNat) bt223.1 0) else (none)) else (none)))) else (some (⟨#[]⟩ : ByteArray))) = some r := H
 have A3 := Aside0.mk A30
 clear A30
 by_cases c4 : t219 = true
 ·subst c4
  have H1 : ((wellspringref05_Names.f k a0 a1).bind fun t220 => ((wellspringref05_shape.f k a0).bind fun bt223 => (if 0 ≤ bt223.1 then (if bt223.1 ≤ (a1.size : Int) then (wellspringref05_Low.l0 k a1 t220 (a1.extract 0 (bt223.1 : Int).toNat) bt223.1 0) else (none)) else (none)))) = some r := by rw [if_pos rfl] at H; exact H
  clear H
  have H := H1
  clear H1
  replace H := Option.bind_eq_some_iff.mp H
  obtain ⟨t220, A50, H⟩ := H
  replace H : ((wellspringref05_shape.f k a0).bind fun bt223 => (if 0 ≤ bt223.1 then (if bt223.1 ≤ (a1.size : Int) then (wellspringref05_Low.l0 k a1 t220 (a1.extract 0 (bt223.1 : Int).toNat) bt223.1 0) else (none)) else (none))) = some r := H
  have A5 := Aside0.mk A50
  clear A50
  replace H := Option.bind_eq_some_iff.mp H
  obtain ⟨⟨t223, t224, t225⟩, A60, H⟩ := H
  replace H : (if 0 ≤ t223 then (if t223 ≤ (a1.size : Int) then (wellspringref05_Low.l0 k a1 t220 (a1.extract 0 (t223 : Int).toNat) t223 0) else (none)) else (none)) = some r := H
  have A6 := Aside0.mk A60
  clear A60
  by_cases c7 : 0 ≤ t223
  ·rw [if_pos c7] at H
   have c7b0 := eq_true c7
   have c7b1 : decide (0 ≤ t223) = true := decide_eq_true c7
   clear c7
   by_cases c8 : t223 ≤ (a1.size : Int)
   ·rw [if_pos c8] at H
    have c8b0 := eq_true c8
    have c8b1 : decide (t223 ≤ (a1.size : Int)) = true := decide_eq_true c8
    clear c8
    have H' := Aside0.mk H
    clear H
    go_enter Try.func36, Try.ntmps36
    go_wp2_with (first | ((with_reducible refine gate_callee (f := 31) rfl ?_); refine goesL_ (some 12) rfl rfl Try.func31 (by kernel_rfl) rfl #[.int .i64 a0, .string a1] rfl (by (try simp only [List.map_toArray, List.map_cons, List.map_nil]); first | done | rfl | (simp only [List.length_drop, List.length_take]; rfl) | (simp only [ByteArray.size_append, Int.natCast_add]; rfl) | (rw [Go.Proofs.Ytdkkanpbcifkfaa.B.w64] <;> first | rfl | omega | (simp only [decide_eq_false_iff_not, decide_eq_true_eq, Int.not_lt, Nat.not_lt, gt_iff_lt] at * <;> omega))) ?_; (with_reducible refine (wellspringref05_Check.calls k a0 a1 true _ A3.out).mono ?_); rintro e w9 ⟨rfl, hb⟩; refine ⟨_, rfl, ?_⟩; have n0_ := Aside0.mk (below_step (by repeat (first | (with_reducible first | exact HB.out | apply below_alloc | apply pw_below_drewN | apply below_drew1) | exact HB.out)) hb); clear HB; have HB := n0_; clear n0_; (try clear hb); (try clear hb2); (try clear hk); (try clear hi)) | ((with_reducible refine gate_callee (f := 34) rfl ?_); refine goesL_ (some 16) rfl rfl Try.func34 (by kernel_rfl) rfl #[.int .i64 a0, .string a1] rfl (by (try simp only [List.map_toArray, List.map_cons, List.map_nil]); first | done | rfl | (simp only [List.length_drop, List.length_take]; rfl) | (simp only [ByteArray.size_append, Int.natCast_add]; rfl) | (rw [Go.Proofs.Ytdkkanpbcifkfaa.B.w64] <;> first | rfl | omega | (simp only [decide_eq_false_iff_not, decide_eq_true_eq, Int.not_lt, Nat.not_lt, gt_iff_lt] at * <;> omega))) ?_; (with_reducible refine (wellspringref05_Names.calls k a0 a1 t220 _ A5.out).mono ?_); rintro e w10 ⟨v221, rfl, ho0, hb⟩; refine ⟨_, rfl, ?_⟩; have n0_ := Aside0.mk (Kd.R_lower ho0 (below_size (by repeat (first | (with_reducible first | exact HB.out | apply below_alloc | apply pw_below_drewN | apply below_drew1) | exact HB.out)))); have n1_ := Aside0.mk (below_step (by repeat (first | (with_reducible first | exact HB.out | apply below_alloc | apply pw_below_drewN | apply below_drew1) | exact HB.out)) hb); clear HB; have HO222 := n0_; have HB := n1_; clear n0_ n1_; (try clear hb); (try clear hb2); (try clear hk); (try clear hi); (try clear ho0)) | ((with_reducible refine gate_callee (f := 76) rfl ?_); refine goesL_ (some 18) rfl rfl Try.func76 (by kernel_rfl) rfl #[.int .i64 a0] rfl (by (try simp only [List.map_toArray, List.map_cons, List.map_nil]); first | done | rfl | (simp only [List.length_drop, List.length_take]; rfl) | (simp only [ByteArray.size_append, Int.natCast_add]; rfl) | (rw [Go.Proofs.Ytdkkanpbcifkfaa.B.w64] <;> first | rfl | omega | (simp only [decide_eq_false_iff_not, decide_eq_true_eq, Int.not_lt, Nat.not_lt, gt_iff_lt] at * <;> omega))) ?_; (with_reducible refine (wellspringref05_shape.calls k a0 t223 t224 t225 _ A6.out).mono ?_); rintro e w11 ⟨rfl, hb⟩; refine ⟨_, rfl, ?_⟩; have n0_ := Aside0.mk (Kd.R_below (by (with_reducible repeat (first | apply Kd.R_alloc | apply Kd.R_drewN | apply Kd.R_drew)); exact HO222.out) hb); have n1_ := Aside0.mk (below_step (by repeat (first | (with_reducible first | exact HB.out | apply below_alloc | apply pw_below_drewN | apply below_drew1) | exact HB.out)) hb); clear HO222; clear HB; have HO222 := n0_; have HB := n1_; clear n0_ n1_; (try clear hb); (try clear hb2); (try clear hk); (try clear hi)) | ((with_reducible refine gate_dst (N := 6) rfl ?_); refine box_event ?hg (N := 6) ?hd (cs := #[.int .i64 0, .int .i64 0, .int .i64 0]) (t := 96) ?hr ?_; (case hd => rfl); (case hg => rfl); (case hr => first | (go_simp; done) | (go_simp; rfl)); intro gb226 hg w12 hbox hb; have n0_ := Aside0.mk (Kd.R_below (by (with_reducible repeat (first | apply Kd.R_alloc | apply Kd.R_drewN | apply Kd.R_drew)); exact HO222.out) hb); have n1_ := Aside0.mk (below_step (by repeat (first | (with_reducible first | exact HB.out | apply below_alloc | apply pw_below_drewN | apply below_drew1) | exact HB.out)) hb); have n2_ := Aside0.mk (hbox); have n3_ := Aside0.mk ((by rw [hg]; exact (below_size (by repeat (first | (with_reducible first | exact HB.out | apply below_alloc | apply pw_below_drewN | apply below_drew1) | exact HB.out))) : w.heap.size ≤ gb226)); have n4_ := Aside0.mk ((by rw [hg]; exact (below_size (by repeat (first | (with_reducible first | exact HB.out | apply below_alloc | apply pw_below_drewN | apply below_drew1) | exact HB.out))) : w.heap.size ≤ gb226)); clear HO222; clear HB; have HO222 := n0_; have HB := n1_; have BK226 := n2_; have GW226 := n3_; have GE226 := n4_; clear n0_ n1_ n2_ n3_ n4_; clear hb hbox hg; have hcz13_0 : w12.cell? ⟨gb226, 0, none⟩ = some (.int .i64 0) := (blk_cell BK226.out 0).trans rfl; have hcz13_1 : w12.cell? ⟨gb226, 1, none⟩ = some (.int .i64 0) := (blk_cell BK226.out 1).trans rfl; have hcz13_2 : w12.cell? ⟨gb226, 2, none⟩ = some (.int .i64 0) := (blk_cell BK226.out 2).trans rfl; have hfz13_0 := blk_frozen BK226.out 0; have hfz13_1 := blk_frozen BK226.out 1; have hfz13_2 := blk_frozen BK226.out 2))
    go_loopg [7, 8, 9] k (fun kq v7 v8 v9 w' => ∃ (x7_1 : ByteArray) (x8_1 : Int) (x9_1 : Int), v7 = .string x7_1 ∧ v8 = .int .i64 x8_1 ∧ v9 = .int .i64 x9_1 ∧ Aside0 (wellspringref05_Low.l0 kq a1 t220 x7_1 x8_1 x9_1 = some r) ∧ Aside0 (kq ≤ k) ∧ Aside0 (Kd.R Kd.string 9 w' w.heap.size (fun _ => True) v221 t220) ∧ Aside0 (w'.heap[gb226]? = some (.cells #[.int .i64 t223, .int .i64 t224, .int .i64 t225] 96 (0, 0))) ∧ Aside0 (Below w.heap.size w w'))
    case atStart => exact ⟨(a1.extract 0 (t223 : Int).toNat), (t223), (0), (by first | rfl | (simp; done) | (simp [*]; done) | (simp [Go.Proofs.Ytdkkanpbcifkfaa.B.beq_not_bne]; done) | (simp [Go.Proofs.Ytdkkanpbcifkfaa.B.bne_not_beq]; done)), (by first | rfl | (simp; done) | (simp [*]; done) | (simp [Go.Proofs.Ytdkkanpbcifkfaa.B.beq_not_bne]; done) | (simp [Go.Proofs.Ytdkkanpbcifkfaa.B.bne_not_beq]; done)), (by first | rfl | (simp; done) | (simp [*]; done) | (simp [Go.Proofs.Ytdkkanpbcifkfaa.B.beq_not_bne]; done) | (simp [Go.Proofs.Ytdkkanpbcifkfaa.B.bne_not_beq]; done)), H', ⟨Nat.le_refl _⟩, ⟨by (with_reducible repeat (first | apply Kd.R_alloc | apply Kd.R_drewN | apply Kd.R_drew)); exact Kd.R_mono (Kd.R_far (p := ⟨gb226, 2, none⟩) (Kd.R_far (p := ⟨gb226, 1, none⟩) (Kd.R_far (p := ⟨gb226, 0, none⟩) (Kd.R_types HO222.out BK226.out (by decide)) (fun _ hk => hk.2) (.int .i64 t223)) (fun _ hk => hk.2) (.int .i64 t224)) (fun _ hk => hk.2) (.int .i64 t225)) (fun _ hk => trivial)⟩, ⟨by (with_reducible repeat (first | refine blk_drewN ?_ _ | refine blk_drew ?_ | refine blk_alloc ?_ _)); refine blk_put (cs := #[.int .i64 t223, .int .i64 t224, .int .i64 0]) ?_ 2 _ rfl; (with_reducible repeat (first | refine blk_drewN ?_ _ | refine blk_drew ?_ | refine blk_alloc ?_ _)); refine blk_put (cs := #[.int .i64 t223, .int .i64 0, .int .i64 0]) ?_ 1 _ rfl; (with_reducible repeat (first | refine blk_drewN ?_ _ | refine blk_drew ?_ | refine blk_alloc ?_ _)); refine blk_put (cs := #[.int .i64 0, .int .i64 0, .int .i64 0]) ?_ 0 _ rfl; (with_reducible repeat (first | refine blk_drewN ?_ _ | refine blk_drew ?_ | refine blk_alloc ?_ _)); exact BK226.out⟩, ⟨by repeat (first | (with_reducible first | exact HB.out | apply below_alloc | apply pw_below_drewN | apply below_drew1 | refine below_set ?_ GE226.out) | exact HB.out)⟩⟩
    case round =>
     clear H'
     try clear p2
     try clear c3
     try clear c4
     try clear c7
     try clear c7b0
     try clear c7b1
     try clear c8
     try clear c8b0
     try clear c8b1
     try clear hcz13_0
     try clear hcz13_1
     try clear hcz13_2
     try clear hfz13_0
     try clear hfz13_1
     try clear hfz13_2
     obtain ⟨x7_1, x8_1, x9_1, rfl, rfl, rfl, HA, HK1, HO_5, BK226, HB⟩ := hrel
     cases gk with
     | zero => exact absurd HA.out (by simp [wellspringref05_Low.l0])
     | succ k1 =>
      have H := HA.out
      clear HA
      simp only [wellspringref05_Low.l0] at H
      by_cases c14 : x9_1 < (t220.length : Int)
      ·rw [if_pos c14] at H
       have c14b0 : decide (x9_1 < (t220.length : Int)) = true := decide_eq_true c14
       clear c14
       by_cases c15 : 0 ≤ x9_1
       ·rw [if_pos c15] at H
        have c15b0 : decide (0 ≤ x9_1) = true := decide_eq_true c15
        clear c15
        replace H := Option.bind_eq_some_iff.mp H
        obtain ⟨t228, A160, H⟩ := H
        replace H : (if x7_1.size + t228.size ≤ 9223372036854775807 then (wellspringref05_Low.l0 k1 a1 t220 (x7_1 ++ t228) (wrap64 (x8_1 + ((rdOf ByteArray.empty t220 x9_1).size : Int))) (wrap64 (x9_1 + 1))) else (none)) = some r := H
        have A16 := Aside0.mk A160
        clear A160
        by_cases c17 : x7_1.size + t228.size ≤ 9223372036854775807
        ·rw [if_pos c17] at H
         have c17b0 := eq_true c17
         have c17b1 : decide (x7_1.size + t228.size ≤ 9223372036854775807) = true := decide_eq_true c17
         try have c17b2 : (9223372036854775807 < x7_1.size + t228.size) = False := eq_false (Nat.not_lt.2 c17)
         have H' := Aside0.mk H
         clear H
         obtain ⟨Ao18, co18, eo18⟩ := Kd.R_slice HO_5.out
         subst eo18
         have p227 : 0 ≤ (x9_1 : Int) := of_decide_eq_true (by first | (with_reducible assumption) | assumption)
         have q227 : x9_1 < (t220.length : Int) := of_decide_eq_true (by first | (with_reducible assumption) | assumption)
         obtain ⟨ad227, e227, hx227_0⟩ := Kd.at_string (Kd.R_reads' HO_5.out).2.2 x9_1 p227 q227
         cases e227
         replace p227 := eq_true p227
         replace q227 := eq_true q227
         go_wp2_with (first | ((with_reducible refine gate_callee (f := 38) rfl ?_); refine goesL_ (some 36) rfl rfl Try.func38 (by kernel_rfl) rfl #[.string (rdOf ByteArray.empty t220 x9_1)] rfl (by (try simp only [List.map_toArray, List.map_cons, List.map_nil]); first | done | rfl | (simp only [List.length_drop, List.length_take]; rfl) | (simp only [ByteArray.size_append, Int.natCast_add]; rfl) | (rw [Go.Proofs.Ytdkkanpbcifkfaa.B.w64] <;> first | rfl | omega | (simp only [decide_eq_false_iff_not, decide_eq_true_eq, Int.not_lt, Nat.not_lt, gt_iff_lt] at * <;> omega))) ?_; (with_reducible refine (wellspringref02_Low.calls k1 (rdOf ByteArray.empty t220 x9_1) t228 _ A16.out).mono ?_); rintro e w19 ⟨rfl, hb⟩; refine ⟨_, rfl, ?_⟩; have n0_ := Aside0.mk (Kd.R_below (by (with_reducible repeat (first | apply Kd.R_alloc | apply Kd.R_drewN | apply Kd.R_drew)); exact HO_5.out) hb); have n1_ := Aside0.mk (blk_below (g := gb226) (o := .cells #[.int .i64 t223, .int .i64 t224, .int .i64 t225] 96 (0, 0)) (by (with_reducible repeat (first | refine blk_drewN ?_ _ | refine blk_drew ?_ | refine blk_alloc ?_ _)); exact BK226.out) hb); have n2_ := Aside0.mk (below_step (by repeat (first | (with_reducible first | exact HB.out | apply below_alloc | apply pw_below_drewN | apply below_drew1 | refine below_set ?_ GE226.out) | exact HB.out)) hb); clear HO_5; clear BK226; clear HB; have HO_5 := n0_; have BK226 := n1_; have HB := n2_; clear n0_ n1_ n2_; (try clear hb); (try clear hb2); (try clear hk); (try clear hi); have p229 : 0 ≤ (x9_1 : Int) := of_decide_eq_true (by first | (with_reducible assumption) | assumption); have q229 : x9_1 < (t220.length : Int) := of_decide_eq_true (by first | (with_reducible assumption) | assumption); obtain ⟨ad229, e229, hx229_0⟩ := Kd.at_string (Kd.R_reads' HO_5.out).2.2 x9_1 p229 q229; obtain rfl : ad227 = ad229 := (by injection e229); replace p229 := eq_true p229; replace q229 := eq_true q229))
         go_roundg k1
         case measure => have := HK1.out; omega
         case rel => exact ⟨(x7_1 ++ t228), (wrap64 (x8_1 + ((rdOf ByteArray.empty t220 x9_1).size : Int))), (wrap64 (x9_1 + 1)), (by first | rfl | (simp; done) | (simp [*]; done) | (simp [Go.Proofs.Ytdkkanpbcifkfaa.B.beq_not_bne]; done) | (simp [Go.Proofs.Ytdkkanpbcifkfaa.B.bne_not_beq]; done)), (by first | rfl | (simp; done) | (simp [*]; done) | (simp [Go.Proofs.Ytdkkanpbcifkfaa.B.beq_not_bne]; done) | (simp [Go.Proofs.Ytdkkanpbcifkfaa.B.bne_not_beq]; done)), (by first | rfl | (simp; done) | (simp [*]; done) | (simp [Go.Proofs.Ytdkkanpbcifkfaa.B.beq_not_bne]; done) | (simp [Go.Proofs.Ytdkkanpbcifkfaa.B.bne_not_beq]; done)), H', ⟨by have := HK1.out; omega⟩, ⟨by (with_reducible repeat (first | apply Kd.R_alloc | apply Kd.R_drewN | apply Kd.R_drew)); exact HO_5.out⟩, ⟨by (with_reducible repeat (first | refine blk_drewN ?_ _ | refine blk_drew ?_ | refine blk_alloc ?_ _)); exact BK226.out⟩, ⟨by repeat (first | (with_reducible first | exact HB.out | apply below_alloc | apply pw_below_drewN | apply below_drew1 | refine below_set ?_ GE226.out) | exact HB.out)⟩⟩
        ·rw [if_neg c17] at H
         exact absurd H (by simp)
       ·rw [if_neg c15] at H
        exact absurd H (by simp)
      ·rw [if_neg c14] at H
       have c14b0 : decide (x9_1 < (t220.length : Int)) = false := decide_eq_false c14
       clear c14
       by_cases c20 : 0 ≤ x8_1
       ·rw [if_pos c20] at H
        have c20b0 := eq_true c20
        have c20b1 : decide (0 ≤ x8_1) = true := decide_eq_true c20
        clear c20
        by_cases c21 : x8_1 ≤ (a1.size : Int)
        ·rw [if_pos c21] at H
         have c21b0 := eq_true c21
         have c21b1 : decide (x8_1 ≤ (a1.size : Int)) = true := decide_eq_true c21
         clear c21
         by_cases c22 : x7_1.size + (a1.extract (x8_1 : Int).toNat a1.size).size ≤ 9223372036854775807
         ·rw [if_pos c22] at H
          have c22b0 := eq_true c22
          have c22b1 : decide (x7_1.size + (a1.extract (x8_1 : Int).toNat a1.size).size ≤ 9223372036854775807) = true := decide_eq_true c22
          try have c22b2 : (9223372036854775807 < x7_1.size + (a1.extract (x8_1 : Int).toNat a1.size).size) = False := eq_false (Nat.not_lt.2 c22)
          obtain rfl := Option.some.inj H
          obtain ⟨Ao23, co23, eo23⟩ := Kd.R_slice HO_5.out
          subst eo23
          go_wp2
          go_ret
          exact ⟨by first | rfl | (simp [errW_none, errW_some] <;> rfl) | (simp [*, errW_none, errW_some] <;> rfl), by repeat (first | (with_reducible first | exact HB.out | apply below_alloc | apply pw_below_drewN | apply below_drew1 | refine below_set ?_ GE226.out) | exact HB.out)⟩
         ·rw [if_neg c22] at H
          exact absurd H (by simp)
        ·rw [if_neg c21] at H
         exact absurd H (by simp)
       ·rw [if_neg c20] at H
        exact absurd H (by simp)
   ·rw [if_neg c8] at H
    exact absurd H (by simp)
  ·rw [if_neg c7] at H
   exact absurd H (by simp)
 ·replace c4 := Bool.eq_false_iff.mpr c4
  subst c4
  have H1 : (some (⟨#[]⟩ : ByteArray)) = some r := by rw [if_neg (show ¬ (false = true) by decide)] at H; exact H
  clear H
  have H := H1
  clear H1
  obtain rfl := Option.some.inj H
  go_enter Try.func36, Try.ntmps36
  go_wp2_with (first | ((with_reducible refine gate_callee (f := 31) rfl ?_); refine goesL_ (some 12) rfl rfl Try.func31 (by kernel_rfl) rfl #[.int .i64 a0, .string a1] rfl (by (try simp only [List.map_toArray, List.map_cons, List.map_nil]); first | done | rfl | (simp only [List.length_drop, List.length_take]; rfl) | (simp only [ByteArray.size_append, Int.natCast_add]; rfl) | (rw [Go.Proofs.Ytdkkanpbcifkfaa.B.w64] <;> first | rfl | omega | (simp only [decide_eq_false_iff_not, decide_eq_true_eq, Int.not_lt, Nat.not_lt, gt_iff_lt] at * <;> omega))) ?_; (with_reducible refine (wellspringref05_Check.calls k a0 a1 false _ A3.out).mono ?_); rintro e w24 ⟨rfl, hb⟩; refine ⟨_, rfl, ?_⟩; have n0_ := Aside0.mk (below_step (by repeat (first | (with_reducible first | exact HB.out | apply below_alloc | apply pw_below_drewN | apply below_drew1) | exact HB.out)) hb); clear HB; have HB := n0_; clear n0_; (try clear hb); (try clear hb2); (try clear hk); (try clear hi)))
  go_ret
  exact ⟨by first | rfl | (simp [errW_none, errW_some] <;> rfl) | (simp [*, errW_none, errW_some] <;> rfl), by repeat (first | (with_reducible first | exact HB.out | apply below_alloc | apply pw_below_drewN | apply below_drew1) | exact HB.out)⟩

end Go.Proofs.Ytdkkanpbcifkfaa.ZQ

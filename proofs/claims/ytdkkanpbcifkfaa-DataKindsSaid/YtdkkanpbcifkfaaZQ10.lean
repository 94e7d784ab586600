-- Written by a program of this session (wip/tools/myprint.py), over the kit's printer; Lean checks it.
import Derived.Test.YtdkkanpbcifkfaaZQ0
import Derived.Test.YtdkkanpbcifkfaaZQ3
import Derived.Test.YtdkkanpbcifkfaaZQ4
import Derived.Test.YtdkkanpbcifkfaaZQ6
import Derived.Test.YtdkkanpbcifkfaaZQ8
import Derived.Test.YtdkkanpbcifkfaaZMi
import Derived.Deep.RegionHeld3
namespace Go.Proofs.Ytdkkanpbcifkfaa.ZQ
open Go.RowKit Go.Proofs.YtdkkanpbcifkfaaW.PrintWords Go.Proofs.YtdkkanpbcifkfaaW.PrintLast Go.Proofs.YtdkkanpbcifkfaaW.PrintMore
attribute [local go_sem] max2_int min2_int max_two min_two max_three min_three max_four min_four   -- for this text's walks alone
set_option linter.unusedVariables false
set_option linter.unusedSimpArgs false

-- GIVENPART Derived.Test.YtdkkanpbcifkfaaZMi
/-! ### data_shapes: function 72 -/
/-- The shapes, as they are laid into the map. -/
def data_shapes.agg (a b c : Int) : Value := .agg #[.int .i64 a, .int .i64 b, .int .i64 c]
def data_shapes.tab : List (Int × Value) := [(1, data_shapes.agg 4 0 0), (28, data_shapes.agg 16 0 0), (2, data_shapes.agg 0 1 0), (5, data_shapes.agg 0 1 0), (12, data_shapes.agg 0 1 0), (6, data_shapes.agg 0 2 20), (15, data_shapes.agg 2 1 0), (33, data_shapes.agg 6 1 0)]
set_option maxHeartbeats 8000000 in
set_option maxRecDepth 100000 in
theorem data_shapes.calls (w : World) : Calls Try.prog 72 #[] w fun e w' => ∃ g, e = .returned (.map (some g)) ∧ Mi.In w.heap.size w w' g data_shapes.tab := by
  have hmm := @run_makeMap Try.prog
  have hi := Aside0.mk (Mi.In.made (w := w))
  generalize hg : w.heap.size = g at hi
  have hg' := Aside0.mk hg
  go_enter Try.func72, Try.ntmps72
  go_wp2_with (first | (refine Mi.gate_insert 89 _ _ _ rfl ?_; refine Mi.wp_in _ rfl _ _ _ 89 rfl 3 87 Try.underlying89 Try.underlying3 _ _ rfl (Aside0.out (by assumption)) _ _ rfl rfl rfl ?_; clear hi; intro w1 hi))
  go_ret
  exact ⟨g, rfl, hi.out⟩

/-! ### data_read: function 73 -/
def data_read.l0 : Nat → ByteArray → Int → Int → Int → Int → Int → Int → Int → ByteArray → ByteArray → List ByteArray → Option (ByteArray × ByteArray × List ByteArray × Bool)
 | 0, _, _, _, _, _, _, _, _, _, _, _ => none
 | k + 1, x0, x1, x2, x37, x38, x105000, x105001, x105002, x107000, x107001, x107002 => if x38 < x37 then ((comp_Read.f k x0 x1).bind fun bt107 => (if bt107.2.2 = 0 then (if bt107.2.1 > x2 then (some ((⟨#[]⟩ : ByteArray), (⟨#[]⟩ : ByteArray), ([] : List ByteArray), false)) else (if x107002.length < 8796093022208 then (data_read.l0 k x0 bt107.2.1 x2 x37 (wrap64 (x38 + 1)) x105000 x105001 x105002 x107000 x107001 (x107002 ++ [bt107.1])) else (none))) else (some ((⟨#[]⟩ : ByteArray), (⟨#[]⟩ : ByteArray), ([] : List ByteArray), false)))) else (if 0 ≤ x1 then (if x1 ≤ x2 then (if x2 ≤ (x0.size : Int) then (some (x107000, x0.extract (x1 : Int).toNat (x2 : Int).toNat, x107002, (((x0.extract (x1 : Int).toNat (x2 : Int).toNat).size : Int) == x105002))) else (none)) else (none)) else (none))
def data_read.f (k : Nat) (a0 : ByteArray) (a1 : Int) (a2 : Int) (a3_0 : Int) (a3_1 : Int) (a3_2 : Int) : Option (ByteArray × ByteArray × List ByteArray × Bool) := if (a3_0 ≤ (wrap64 (a2 - a1))) then (if 0 ≤ a1 then (if a1 ≤ (wrap64 (a1 + a3_0)) then (if (wrap64 (a1 + a3_0)) ≤ (a0.size : Int) then (data_read.l0 k a0 (wrap64 (a1 + a3_0)) a2 a3_1 0 a3_0 a3_1 a3_2 (a0.extract (a1 : Int).toNat ((wrap64 (a1 + a3_0)) : Int).toNat) (⟨#[]⟩ : ByteArray) ([] : List ByteArray)) else (none)) else (none)) else (none)) else (some ((⟨#[]⟩ : ByteArray), (⟨#[]⟩ : ByteArray), ([] : List ByteArray), false))
theorem data_read.mono_l : ∀ k, (∀ y0 y1 y2 y3 y4 y5 y6 y7 y8 y9 y10, LeO (data_read.l0 k y0 y1 y2 y3 y4 y5 y6 y7 y8 y9 y10) (data_read.l0 (k + 1) y0 y1 y2 y3 y4 y5 y6 y7 y8 y9 y10))
 | 0 => fun _ _ _ _ _ _ _ _ _ _ _ r h => by simp [data_read.l0] at h
 | k + 1 => by
  have ih0 := data_read.mono_l k
  ·intro y0 y1 y2 y3 y4 y5 y6 y7 y8 y9 y10
   unfold data_read.l0
   repeat' first
   | (with_reducible exact ih0 _ _ _ _ _ _ _ _ _ _ _)
   | (with_reducible exact comp_Read.mono _ _ _)
   | (with_reducible exact LeO.refl _)
   | (with_reducible exact LeO.none _)
   | (with_reducible refine LeO.ite ?_ ?_)
   | (with_reducible refine LeO.bind ?_ (fun _ => ?_))
   | exact ih0 _ _ _ _ _ _ _ _ _ _ _
   | exact comp_Read.mono _ _ _
   | exact LeO.none _
   | refine LeO.ite ?_ ?_
   | refine LeO.bind ?_ (fun _ => ?_)
theorem data_read.mono : ∀ a0 a1 a2 a3 a4 a5 k, LeO (data_read.f k a0 a1 a2 a3 a4 a5) (data_read.f (k + 1) a0 a1 a2 a3 a4 a5) := by
 intro a0 a1 a2 a3 a4 a5 k
 have ih0 := data_read.mono_l k
 unfold data_read.f
 repeat' first
   | (with_reducible exact ih0 _ _ _ _ _ _ _ _ _ _ _)
   | (with_reducible exact comp_Read.mono _ _ _)
   | (with_reducible exact LeO.refl _)
   | (with_reducible exact LeO.none _)
   | (with_reducible refine LeO.ite ?_ ?_)
   | (with_reducible refine LeO.bind ?_ (fun _ => ?_))
   | exact ih0 _ _ _ _ _ _ _ _ _ _ _
   | exact comp_Read.mono _ _ _
   | exact LeO.none _
   | refine LeO.ite ?_ ?_
   | refine LeO.bind ?_ (fun _ => ?_)
def data_read.T15 : Bool × List (List Nat × List Nat) := (true, [([], []), ([], []), ([1], [1]), ([2], [2]), ([], []), ([4], [4]), ([3, 5], [3, 5]), ([0, 0], [0]), ([6, 7, 0, 1, 2, 3, 4, 5, 6, 7], [6])])
def data_read.B15 : List Nat := [0, 0, 2, 6, 0, 16, 62, 1, 255]
theorem data_read.tab15 : rtab .any (opsOf Try.f73 15) = data_read.T15 := by kernel_rfl
theorem data_read.bits15 : waitsOk data_read.T15.2 data_read.B15 = true := by kernel_rfl
set_option maxHeartbeats 8000000 in
set_option maxRecDepth 100000 in
theorem data_read.calls (k : Nat) (a0 : ByteArray) (a1 : Int) (a2 : Int) (a3_0 : Int) (a3_1 : Int) (a3_2 : Int) (r1 : ByteArray) (r2 : ByteArray) (r3 : List ByteArray) (r4 : Bool) (w : World) (h : data_read.f k a0 a1 a2 a3_0 a3_1 a3_2 = some (r1, r2, r3, r4)) :
  Calls Try.prog 73 #[.string a0, .int .i64 a1, .int .i64 a2, .agg #[.int .i64 a3_0, .int .i64 a3_1, .int .i64 a3_2]] w fun e w' => ∃ v2_ : Value, e = .returned (.tuple #[.agg #[.string r1, .string r2, v2_], .bool r4]) ∧ Kd.R Kd.string 9 w' w.heap.size (fun _ => True) v2_ r3 ∧ Below w.heap.size w w' := by
 have hu87 := Try.underlying87
 have hu92 := Try.underlying92
 have HB := Aside0.mk (Below.refl w.heap.size w)
 have H : (if (a3_0 ≤ (wrap64 (a2 - a1))) then (if 0 ≤ a1 then (if a1 ≤ (wrap64 (a1 + a3_0)) then (if (wrap64 (a1 + a3_0)) ≤ (a0.size : Int) then (data_read.l0 k a0 (wrap64 (a1 + a3_0)) a2 a3_1 0 a3_0 a3_1 a3_2 (a0.extract (a1 : Int).toNat ((wrap64 (a1 + a3_0)) : Int).toNat) (⟨#[]⟩ : ByteArray) ([] : List ByteArray)) else (none)) else (none)) else (none)) else (some ((⟨#[]⟩ : ByteArray), (⟨#[]⟩ : ByteArray), ([] : List ByteArray), false))) = some (r1, r2, r3, r4) := h
 clear h
 by_cases c5 : (a3_0 ≤ (wrap64 (a2 - a1)))
 ·rw [if_pos c5] at H
  have c5b0 : decide (a3_0 ≤ (wrap64 (a2 - a1))) = true := decide_eq_true c5
  (try (have c5b1 : decide (a3_0 ≤ ((a2 - a1))) = true := by have h_ : decide (a3_0 ≤ (wrap64 (a2 - a1))) = true := decide_eq_true c5; rw [Go.Proofs.Ytdkkanpbcifkfaa.B.w64 (by omega) (by omega)] at h_; exact h_))
  clear c5
  by_cases c6 : 0 ≤ a1
  ·rw [if_pos c6] at H
   have c6b0 := eq_true c6
   have c6b1 : decide (0 ≤ a1) = true := decide_eq_true c6
   clear c6
   by_cases c7 : a1 ≤ (wrap64 (a1 + a3_0))
   ·rw [if_pos c7] at H
    have c7b0 := eq_true c7
    have c7b1 : decide (a1 ≤ (wrap64 (a1 + a3_0))) = true := decide_eq_true c7
    by_cases c8 : (wrap64 (a1 + a3_0)) ≤ (a0.size : Int)
    ·rw [if_pos c8] at H
     have c8b0 := eq_true c8
     have c8b1 : decide ((wrap64 (a1 + a3_0)) ≤ (a0.size : Int)) = true := decide_eq_true c8
     have H' := Aside0.mk H
     clear H
     go_enter Try.func73, Try.ntmps73
     go_wp2_with (first | ((with_reducible refine gate_dst (N := 7) rfl ?_); refine box_event ?hg (N := 7) ?hd (cs := #[.int .i64 a3_0, .int .i64 a3_1, .int .i64 a3_2]) (t := 87) ?hr ?_; (case hd => rfl); (case hg => rfl); (case hr => first | (go_simp; done) | (go_simp; rfl)); intro gb104 hg w9 hbox hb; have n0_ := Aside0.mk (below_step (by repeat (first | (with_reducible first | exact HB.out | apply below_alloc | apply pw_below_drewN | apply below_drew1) | exact HB.out)) hb); have n1_ := Aside0.mk (hbox); have n2_ := Aside0.mk ((by rw [hg]; exact (below_size (by repeat (first | (with_reducible first | exact HB.out | apply below_alloc | apply pw_below_drewN | apply below_drew1) | exact HB.out))) : w.heap.size ≤ gb104)); have n3_ := Aside0.mk ((by rw [hg]; exact (below_size (by repeat (first | (with_reducible first | exact HB.out | apply below_alloc | apply pw_below_drewN | apply below_drew1) | exact HB.out))) : w.heap.size ≤ gb104)); clear HB; have HB := n0_; have BK104 := n1_; have GW104 := n2_; have GE104 := n3_; clear n0_ n1_ n2_ n3_; clear hb hbox hg) | ((with_reducible refine gate_dst (N := 8) rfl ?_); refine box_event ?hg (N := 8) ?hd (cs := #[.string (⟨#[]⟩ : ByteArray), .string (⟨#[]⟩ : ByteArray), .slice none 0 0]) (t := 92) ?hr ?_; (case hd => rfl); (case hg => rfl); (case hr => first | (go_simp; done) | (go_simp; rfl)); intro gb105 hg w10 hbox hb; have n0_ := Aside0.mk (blk_below (g := gb104) (o := .cells #[.int .i64 a3_0, .int .i64 a3_1, .int .i64 a3_2] 87 (0, 0)) (by (with_reducible repeat (first | refine blk_drewN ?_ _ | refine blk_drew ?_ | refine blk_alloc ?_ _)); exact BK104.out) hb); have n1_ := Aside0.mk (below_step (by repeat (first | (with_reducible first | exact HB.out | apply below_alloc | apply pw_below_drewN | apply below_drew1 | refine below_set ?_ GE104.out) | exact HB.out)) hb); have n2_ := Aside0.mk (hbox); have n3_ := Aside0.mk ((by rw [hg]; exact (below_size (by repeat (first | (with_reducible first | exact HB.out | apply below_alloc | apply pw_below_drewN | apply below_drew1 | refine below_set ?_ GE104.out) | exact HB.out))) : w.heap.size ≤ gb105)); have n4_ := Aside0.mk ((by rw [hg]; exact (below_size (by repeat (first | (with_reducible first | exact HB.out | apply below_alloc | apply pw_below_drewN | apply below_drew1 | refine below_set ?_ GE104.out) | exact HB.out))) : w.heap.size ≤ gb105)); have n5_ := Aside0.mk ((by rw [hg]; exact Nat.ne_of_lt (blk_lt (g := gb104) (o := .cells #[.int .i64 a3_0, .int .i64 a3_1, .int .i64 a3_2] 87 (0, 0)) (by (with_reducible repeat (first | refine blk_drewN ?_ _ | refine blk_drew ?_ | refine blk_alloc ?_ _)); exact BK104.out)) : gb104 ≠ gb105)); have n6_ := Aside0.mk ((by rw [hg]; exact Nat.ne_of_gt (blk_lt (g := gb104) (o := .cells #[.int .i64 a3_0, .int .i64 a3_1, .int .i64 a3_2] 87 (0, 0)) (by (with_reducible repeat (first | refine blk_drewN ?_ _ | refine blk_drew ?_ | refine blk_alloc ?_ _)); exact BK104.out)) : gb105 ≠ gb104)); clear BK104; clear HB; have BK104 := n0_; have HB := n1_; have BK105 := n2_; have GW105 := n3_; have GE105 := n4_; have NB104_105 := n5_; have NB105_104 := n6_; clear n0_ n1_ n2_ n3_ n4_ n5_ n6_; clear hb hbox hg) | ((with_reducible refine gate_dst (N := 10) rfl ?_); refine box_event ?hg (N := 10) ?hd (cs := #[.string (⟨#[]⟩ : ByteArray), .string (⟨#[]⟩ : ByteArray), .slice none 0 0]) (t := 92) ?hr ?_; (case hd => rfl); (case hg => rfl); (case hr => first | (go_simp; done) | (go_simp; rfl)); intro gb106 hg w11 hbox hb; have n0_ := Aside0.mk (blk_below (g := gb104) (o := .cells #[.int .i64 a3_0, .int .i64 a3_1, .int .i64 a3_2] 87 (0, 0)) (by (with_reducible repeat (first | refine blk_drewN ?_ _ | refine blk_drew ?_ | refine blk_alloc ?_ _)); exact BK104.out) hb); have n1_ := Aside0.mk (blk_below (g := gb105) (o := .cells #[.string (⟨#[]⟩ : ByteArray), .string (⟨#[]⟩ : ByteArray), .slice none 0 0] 92 (0, 0)) (by (with_reducible repeat (first | refine blk_drewN ?_ _ | refine blk_drew ?_ | refine blk_alloc ?_ _)); exact BK105.out) hb); have n2_ := Aside0.mk (below_step (by repeat (first | (with_reducible first | exact HB.out | apply below_alloc | apply pw_below_drewN | apply below_drew1 | refine below_set ?_ GE104.out | refine below_set ?_ GE105.out) | exact HB.out)) hb); have n3_ := Aside0.mk (hbox); have n4_ := Aside0.mk ((by rw [hg]; exact (below_size (by repeat (first | (with_reducible first | exact HB.out | apply below_alloc | apply pw_below_drewN | apply below_drew1 | refine below_set ?_ GE104.out | refine below_set ?_ GE105.out) | exact HB.out))) : w.heap.size ≤ gb106)); have n5_ := Aside0.mk ((by rw [hg]; exact (below_size (by repeat (first | (with_reducible first | exact HB.out | apply below_alloc | apply pw_below_drewN | apply below_drew1 | refine below_set ?_ GE104.out | refine below_set ?_ GE105.out) | exact HB.out))) : w.heap.size ≤ gb106)); have n6_ := Aside0.mk ((by rw [hg]; exact Nat.ne_of_lt (blk_lt (g := gb104) (o := .cells #[.int .i64 a3_0, .int .i64 a3_1, .int .i64 a3_2] 87 (0, 0)) (by (with_reducible repeat (first | refine blk_drewN ?_ _ | refine blk_drew ?_ | refine blk_alloc ?_ _)); exact BK104.out)) : gb104 ≠ gb106)); have n7_ := Aside0.mk ((by rw [hg]; exact Nat.ne_of_gt (blk_lt (g := gb104) (o := .cells #[.int .i64 a3_0, .int .i64 a3_1, .int .i64 a3_2] 87 (0, 0)) (by (with_reducible repeat (first | refine blk_drewN ?_ _ | refine blk_drew ?_ | refine blk_alloc ?_ _)); exact BK104.out)) : gb106 ≠ gb104)); have n8_ := Aside0.mk ((by rw [hg]; exact Nat.ne_of_lt (blk_lt (g := gb105) (o := .cells #[.string (⟨#[]⟩ : ByteArray), .string (⟨#[]⟩ : ByteArray), .slice none 0 0] 92 (0, 0)) (by (with_reducible repeat (first | refine blk_drewN ?_ _ | refine blk_drew ?_ | refine blk_alloc ?_ _)); exact BK105.out)) : gb105 ≠ gb106)); have n9_ := Aside0.mk ((by rw [hg]; exact Nat.ne_of_gt (blk_lt (g := gb105) (o := .cells #[.string (⟨#[]⟩ : ByteArray), .string (⟨#[]⟩ : ByteArray), .slice none 0 0] 92 (0, 0)) (by (with_reducible repeat (first | refine blk_drewN ?_ _ | refine blk_drew ?_ | refine blk_alloc ?_ _)); exact BK105.out)) : gb106 ≠ gb105)); clear BK104; clear BK105; clear HB; have BK104 := n0_; have BK105 := n1_; have HB := n2_; have BK106 := n3_; have GW106 := n4_; have GE106 := n5_; have NB104_106 := n6_; have NB106_104 := n7_; have NB105_106 := n8_; have NB106_105 := n9_; clear n0_ n1_ n2_ n3_ n4_ n5_ n6_ n7_ n8_ n9_; clear hb hbox hg; have hnb12 := NB104_105.out; have hnc12 := NB105_104.out; have hnb13 := NB104_106.out; have hnc13 := NB106_104.out; have hcz14_0 : w11.cell? ⟨gb104, 0, none⟩ = some (.int .i64 a3_0) := (blk_cell BK104.out 0).trans rfl; have hcz14_1 : w11.cell? ⟨gb104, 1, none⟩ = some (.int .i64 a3_1) := (blk_cell BK104.out 1).trans rfl; have hcz14_2 : w11.cell? ⟨gb104, 2, none⟩ = some (.int .i64 a3_2) := (blk_cell BK104.out 2).trans rfl; have hfz14_0 := blk_frozen BK104.out 0; have hfz14_1 := blk_frozen BK104.out 1; have hfz14_2 := blk_frozen BK104.out 2; have hnb15 := NB106_105.out; have hnc15 := NB105_106.out; have hcz16_0 : w11.cell? ⟨gb106, 0, none⟩ = some (.string (⟨#[]⟩ : ByteArray)) := (blk_cell BK106.out 0).trans rfl; have hcz16_1 : w11.cell? ⟨gb106, 1, none⟩ = some (.string (⟨#[]⟩ : ByteArray)) := (blk_cell BK106.out 1).trans rfl; have hcz16_2 : w11.cell? ⟨gb106, 2, none⟩ = some (.slice none 0 0) := (blk_cell BK106.out 2).trans rfl; have hfz16_0 := blk_frozen BK106.out 0; have hfz16_1 := blk_frozen BK106.out 1; have hfz16_2 := blk_frozen BK106.out 2))
     go_loopg [1, 38] k (fun kq v1 v38 w' => ∃ (x1_1 : Int) (x38_1 : Int) (x106000_1 : ByteArray) (x106001_1 : ByteArray) (x107002_1 : List ByteArray) (u107002 : Value), v1 = .int .i64 x1_1 ∧ v38 = .int .i64 x38_1 ∧ Aside0 (data_read.l0 kq a0 x1_1 a2 a3_1 x38_1 a3_0 a3_1 a3_2 (a0.extract (a1 : Int).toNat ((wrap64 (a1 + a3_0)) : Int).toNat) (⟨#[]⟩ : ByteArray) x107002_1 = some (r1, r2, r3, r4)) ∧ Aside0 (kq ≤ k) ∧ Aside0 (Kd.R Kd.string 9 w' w.heap.size (fun _ => True) u107002 x107002_1) ∧ Aside0 (w'.heap[gb104]? = some (.cells #[.int .i64 a3_0, .int .i64 a3_1, .int .i64 a3_2] 87 (0, 0))) ∧ Aside0 (w'.heap[gb105]? = some (.cells #[.string x106000_1, .string x106001_1, (.slice none 0 0)] 92 (0, 0))) ∧ Aside0 (w'.heap[gb106]? = some (.cells #[.string (a0.extract (a1 : Int).toNat ((wrap64 (a1 + a3_0)) : Int).toNat), .string (⟨#[]⟩ : ByteArray), u107002] 92 (0, 0))) ∧ Aside0 (Below w.heap.size w w'))
     case atStart => exact ⟨(wrap64 (a1 + a3_0)), (0), ((⟨#[]⟩ : ByteArray)), ((⟨#[]⟩ : ByteArray)), (([] : List ByteArray)), (.slice none 0 0), (by first | rfl | (simp; done) | (simp [*]; done) | (simp [Go.Proofs.Ytdkkanpbcifkfaa.B.beq_not_bne]; done) | (simp [Go.Proofs.Ytdkkanpbcifkfaa.B.bne_not_beq]; done)), (by first | rfl | (simp; done) | (simp [*]; done) | (simp [Go.Proofs.Ytdkkanpbcifkfaa.B.beq_not_bne]; done) | (simp [Go.Proofs.Ytdkkanpbcifkfaa.B.bne_not_beq]; done)), H', ⟨Nat.le_refl _⟩, ⟨by first | exact Kd.R_nil _ _ _ _ _ | exact Kd.N_nil _ _ _ _ _ | exact Kd.V_nil _ _ _ _ _ | exact Kd.Q_nil _ _ _ _ _ | exact Kd.S_nil _ _ _ _ _⟩, ⟨by (with_reducible repeat (first | refine blk_drewN ?_ _ | refine blk_drew ?_ | refine blk_alloc ?_ _)); refine blk_far ?_ NB104_106.out _; (with_reducible repeat (first | refine blk_drewN ?_ _ | refine blk_drew ?_ | refine blk_alloc ?_ _)); exact BK104.out⟩, ⟨by (with_reducible repeat (first | refine blk_drewN ?_ _ | refine blk_drew ?_ | refine blk_alloc ?_ _)); refine blk_far ?_ NB105_106.out _; (with_reducible repeat (first | refine blk_drewN ?_ _ | refine blk_drew ?_ | refine blk_alloc ?_ _)); exact BK105.out⟩, ⟨by (with_reducible repeat (first | refine blk_drewN ?_ _ | refine blk_drew ?_ | refine blk_alloc ?_ _)); refine blk_put (cs := #[.string (⟨#[]⟩ : ByteArray), .string (⟨#[]⟩ : ByteArray), .slice none 0 0]) ?_ 0 _ rfl; (with_reducible repeat (first | refine blk_drewN ?_ _ | refine blk_drew ?_ | refine blk_alloc ?_ _)); exact BK106.out⟩, ⟨by repeat (first | (with_reducible first | exact HB.out | apply below_alloc | apply pw_below_drewN | apply below_drew1 | refine below_set ?_ GE104.out | refine below_set ?_ GE105.out | refine below_set ?_ GE106.out) | exact HB.out)⟩⟩
     case round =>
      clear H'
      try clear c1
      try clear p2
      try clear c5
      try clear c5b0
      try clear c5b1
      try clear c6
      try clear c6b0
      try clear c6b1
      try clear p6
      try clear c7
      try clear c7b0
      try clear c7b1
      try clear c8
      try clear c8b0
      try clear c8b1
      try clear c12
      try clear c13
      try clear c15
      try clear hcz14_0
      try clear hcz14_1
      try clear hcz14_2
      try clear hcz16_0
      try clear hcz16_1
      try clear hcz16_2
      try clear hfz14_0
      try clear hfz14_1
      try clear hfz14_2
      try clear hfz16_0
      try clear hfz16_1
      try clear hfz16_2
      obtain ⟨x1_1, x38_1, x106000_1, x106001_1, x107002_1, u107002, rfl, rfl, HA, HK1, HO_107002, BK104, BK105, BK106, HB⟩ := hrel
      cases gk with
      | zero => exact absurd HA.out (by simp [data_read.l0])
      | succ k1 =>
       have H := HA.out
       clear HA
       simp only [data_read.l0] at H
       by_cases c17 : x38_1 < a3_1
       ·rw [if_pos c17] at H
        have c17b0 : decide (x38_1 < a3_1) = true := decide_eq_true c17
        clear c17
        replace H := Option.bind_eq_some_iff.mp H
        obtain ⟨⟨t107, t108, t109⟩, A180, H⟩ := H
        replace H : (if t109 = 0 then (if t108 > a2 then (some ((⟨#[]⟩ : ByteArray), (⟨#[]⟩ : ByteArray), ([] : List ByteArray), false)) else (if x107002_1.length < 8796093022208 then (data_read.l0 k1 a0 t108 a2 a3_1 (wrap64 (x38_1 + 1)) a3_0 a3_1 a3_2 (a0.extract (a1 : Int).toNat ((wrap64 (a1 + a3_0)) : Int).toNat) (⟨#[]⟩ : ByteArray) (x107002_1 ++ [t107])) else (none))) else (some ((⟨#[]⟩ : ByteArray), (⟨#[]⟩ : ByteArray), ([] : List ByteArray), false))) = some (r1, r2, r3, r4) := H
        have A18 := Aside0.mk A180
        clear A180
        by_cases c19 : t109 = 0
        ·rw [if_pos c19] at H
         have c19b0 : (t109 == 0) = true := beq_iff_eq.mpr c19
         have c19b1 : (t109 != 0) = false := bne_eq_false_iff_eq.mpr c19
         clear c19
         by_cases c20 : t108 > a2
         ·rw [if_pos c20] at H
          have c20b0 : decide (a2 < t108) = true := decide_eq_true c20
          clear c20
          simp only [Option.some.injEq, Prod.mk.injEq] at H
          obtain ⟨rfl, rfl, rfl, rfl⟩ := H
          go_wp2_with (first | ((with_reducible refine gate_callee (f := 21) rfl ?_); refine goesL_ (some 43) rfl rfl Try.func21 (by kernel_rfl) rfl #[.string a0, .int .i64 x1_1] rfl (by (try simp only [List.map_toArray, List.map_cons, List.map_nil]); first | done | rfl | (simp only [List.length_drop, List.length_take]; rfl) | (simp only [ByteArray.size_append, Int.natCast_add]; rfl) | (rw [Go.Proofs.Ytdkkanpbcifkfaa.B.w64] <;> first | rfl | omega | (simp only [decide_eq_false_iff_not, decide_eq_true_eq, Int.not_lt, Nat.not_lt, gt_iff_lt] at * <;> omega))) ?_; (with_reducible refine (comp_Read.calls k1 a0 x1_1 t107 t108 t109 _ A18.out).mono ?_); rintro e w21 ⟨rfl, hb⟩; refine ⟨_, rfl, ?_⟩; have n0_ := Aside0.mk (Kd.R_below (by (with_reducible repeat (first | apply Kd.R_alloc | apply Kd.R_drewN | apply Kd.R_drew)); exact HO_107002.out) hb); have n1_ := Aside0.mk (blk_below (g := gb104) (o := .cells #[.int .i64 a3_0, .int .i64 a3_1, .int .i64 a3_2] 87 (0, 0)) (by (with_reducible repeat (first | refine blk_drewN ?_ _ | refine blk_drew ?_ | refine blk_alloc ?_ _)); exact BK104.out) hb); have n2_ := Aside0.mk (blk_below (g := gb105) (o := .cells #[.string x106000_1, .string x106001_1, .slice none 0 0] 92 (0, 0)) (by (with_reducible repeat (first | refine blk_drewN ?_ _ | refine blk_drew ?_ | refine blk_alloc ?_ _)); exact BK105.out) hb); have n3_ := Aside0.mk (blk_below (g := gb106) (o := .cells #[.string (a0.extract (a1 : Int).toNat ((wrap64 (a1 + a3_0)) : Int).toNat), .string (⟨#[]⟩ : ByteArray), u107002] 92 (0, 0)) (by (with_reducible repeat (first | refine blk_drewN ?_ _ | refine blk_drew ?_ | refine blk_alloc ?_ _)); exact BK106.out) hb); have n4_ := Aside0.mk (below_step (by repeat (first | (with_reducible first | exact HB.out | apply below_alloc | apply pw_below_drewN | apply below_drew1 | refine below_set ?_ GE104.out | refine below_set ?_ GE105.out | refine below_set ?_ GE106.out) | exact HB.out)) hb); clear HO_107002; clear BK104; clear BK105; clear BK106; clear HB; have HO_107002 := n0_; have BK104 := n1_; have BK105 := n2_; have BK106 := n3_; have HB := n4_; clear n0_ n1_ n2_ n3_ n4_; (try clear hb); (try clear hb2); (try clear hk); (try clear hi); have hnb22 := NB105_104.out; have hnc22 := NB104_105.out; have hnb23 := NB105_106.out; have hnc23 := NB106_105.out; have hcz24_0 : w21.cell? ⟨gb105, 0, none⟩ = some (.string x106000_1) := (blk_cell BK105.out 0).trans rfl; have hcz24_1 : w21.cell? ⟨gb105, 1, none⟩ = some (.string x106001_1) := (blk_cell BK105.out 1).trans rfl; have hcz24_2 : w21.cell? ⟨gb105, 2, none⟩ = some (.slice none 0 0) := (blk_cell BK105.out 2).trans rfl; have hfz24_0 := blk_frozen BK105.out 0; have hfz24_1 := blk_frozen BK105.out 1; have hfz24_2 := blk_frozen BK105.out 2))
          refine bodyPost_ret (results_ct rfl _ _ gb105 92 #[.string (⟨#[]⟩ : ByteArray), .string (⟨#[]⟩ : ByteArray), .slice none 0 0] (0, 0) _ rfl (by (with_reducible repeat (first | refine blk_drewN ?_ _ | refine blk_drew ?_ | refine blk_alloc ?_ _)); refine blk_put (cs := #[.string (⟨#[]⟩ : ByteArray), .string (⟨#[]⟩ : ByteArray), .slice none 0 0]) ?_ 2 _ rfl; (with_reducible repeat (first | refine blk_drewN ?_ _ | refine blk_drew ?_ | refine blk_alloc ?_ _)); refine blk_put (cs := #[.string (⟨#[]⟩ : ByteArray), .string x106001_1, .slice none 0 0]) ?_ 1 _ rfl; (with_reducible repeat (first | refine blk_drewN ?_ _ | refine blk_drew ?_ | refine blk_alloc ?_ _)); refine blk_put (cs := #[.string x106000_1, .string x106001_1, .slice none 0 0]) ?_ 0 _ rfl; (with_reducible repeat (first | refine blk_drewN ?_ _ | refine blk_drew ?_ | refine blk_alloc ?_ _)); exact BK105.out) Try.underlying92 rfl (by kernel_rfl)) rfl ?_
          exact ⟨_, by first | rfl | (simp [errW_none, errW_some] <;> rfl) | (simp [*, errW_none, errW_some] <;> rfl), by first | exact Kd.R_nil _ _ _ _ _ | exact Kd.N_nil _ _ _ _ _ | exact Kd.V_nil _ _ _ _ _ | exact Kd.Q_nil _ _ _ _ _ | exact Kd.S_nil _ _ _ _ _, by repeat (first | (with_reducible first | exact HB.out | apply below_alloc | apply pw_below_drewN | apply below_drew1 | refine below_set ?_ GE104.out | refine below_set ?_ GE105.out | refine below_set ?_ GE106.out) | exact HB.out)⟩
         ·rw [if_neg c20] at H
          have c20b0 : decide (a2 < t108) = false := decide_eq_false c20
          clear c20
          by_cases c25 : x107002_1.length < 8796093022208
          ·rw [if_pos c25] at H
           have LMc25 := Aside0.mk c25
           clear c25
           obtain ⟨y110, hy110⟩ : ∃ y_ : List ByteArray, y_ = (x107002_1 ++ [t107]) := ⟨_, rfl⟩
           replace H : (data_read.l0 k1 a0 t108 a2 a3_1 (wrap64 (x38_1 + 1)) a3_0 a3_1 a3_2 (a0.extract (a1 : Int).toNat ((wrap64 (a1 + a3_0)) : Int).toNat) (⟨#[]⟩ : ByteArray) y110) = some (r1, r2, r3, r4) := by first | (rw [hy110]; with_reducible exact H) | (have H2_ := (Option.bind_some _ _).symm.trans H; rw [hy110]; with_reducible exact H2_) | (have H2_ := (Option.bind_some _ _).symm.trans H; with_reducible exact H2_) | with_reducible exact H | (rw [hy110]; exact H) | exact H
           have Ny110 := Aside0.mk hy110
           clear hy110
           have H' := Aside0.mk H
           clear H
           go_wp2_with (first | ((with_reducible refine gate_callee (f := 21) rfl ?_); refine goesL_ (some 43) rfl rfl Try.func21 (by kernel_rfl) rfl #[.string a0, .int .i64 x1_1] rfl (by (try simp only [List.map_toArray, List.map_cons, List.map_nil]); first | done | rfl | (simp only [List.length_drop, List.length_take]; rfl) | (simp only [ByteArray.size_append, Int.natCast_add]; rfl) | (rw [Go.Proofs.Ytdkkanpbcifkfaa.B.w64] <;> first | rfl | omega | (simp only [decide_eq_false_iff_not, decide_eq_true_eq, Int.not_lt, Nat.not_lt, gt_iff_lt] at * <;> omega))) ?_; (with_reducible refine (comp_Read.calls k1 a0 x1_1 t107 t108 t109 _ A18.out).mono ?_); rintro e w26 ⟨rfl, hb⟩; refine ⟨_, rfl, ?_⟩; have n0_ := Aside0.mk (Kd.R_below (by (with_reducible repeat (first | apply Kd.R_alloc | apply Kd.R_drewN | apply Kd.R_drew)); exact HO_107002.out) hb); have n1_ := Aside0.mk (blk_below (g := gb104) (o := .cells #[.int .i64 a3_0, .int .i64 a3_1, .int .i64 a3_2] 87 (0, 0)) (by (with_reducible repeat (first | refine blk_drewN ?_ _ | refine blk_drew ?_ | refine blk_alloc ?_ _)); exact BK104.out) hb); have n2_ := Aside0.mk (blk_below (g := gb105) (o := .cells #[.string x106000_1, .string x106001_1, .slice none 0 0] 92 (0, 0)) (by (with_reducible repeat (first | refine blk_drewN ?_ _ | refine blk_drew ?_ | refine blk_alloc ?_ _)); exact BK105.out) hb); have n3_ := Aside0.mk (blk_below (g := gb106) (o := .cells #[.string (a0.extract (a1 : Int).toNat ((wrap64 (a1 + a3_0)) : Int).toNat), .string (⟨#[]⟩ : ByteArray), u107002] 92 (0, 0)) (by (with_reducible repeat (first | refine blk_drewN ?_ _ | refine blk_drew ?_ | refine blk_alloc ?_ _)); exact BK106.out) hb); have n4_ := Aside0.mk (below_step (by repeat (first | (with_reducible first | exact HB.out | apply below_alloc | apply pw_below_drewN | apply below_drew1 | refine below_set ?_ GE104.out | refine below_set ?_ GE105.out | refine below_set ?_ GE106.out) | exact HB.out)) hb); clear HO_107002; clear BK104; clear BK105; clear BK106; clear HB; have HO_107002 := n0_; have BK104 := n1_; have BK105 := n2_; have BK106 := n3_; have HB := n4_; clear n0_ n1_ n2_ n3_ n4_; (try clear hb); (try clear hb2); (try clear hk); (try clear hi); have hnb27 := NB106_104.out; have hnc27 := NB104_106.out; have hnb28 := NB106_105.out; have hnc28 := NB105_106.out; have hcz29_0 : w26.cell? ⟨gb106, 0, none⟩ = some (.string (a0.extract (a1 : Int).toNat ((wrap64 (a1 + a3_0)) : Int).toNat)) := (blk_cell BK106.out 0).trans rfl; have hcz29_1 : w26.cell? ⟨gb106, 1, none⟩ = some (.string (⟨#[]⟩ : ByteArray)) := (blk_cell BK106.out 1).trans rfl; have hcz29_2 : w26.cell? ⟨gb106, 2, none⟩ = some (u107002) := (blk_cell BK106.out 2).trans rfl; have hfz29_0 := blk_frozen BK106.out 0; have hfz29_1 := blk_frozen BK106.out 1; have hfz29_2 := blk_frozen BK106.out 2) | ((with_reducible refine gate_builtin (b := .append) (xs := #[.tmp 56, .tmp 58]) rfl ?_); at_builtin; refine Kd.R_append Kd.string (w0 := w) w.heap.size rfl (.tmp 56) (.tmp 58) 32 9 (.string ⟨#[]⟩) 16 rfl Try.underlying32 info9 rfl (by decide) (by omega) u107002 x107002_1 t107 [.string t107] (fun _ => True) (fun _ => False) rfl rfl ?aP (fun _ hk => hk.elim) ?aF ?aO ?aB ?aS ?aL ?_; (case aP => exact rfl); (case aB => exact (by repeat (first | (with_reducible first | exact HB.out | apply below_alloc | apply pw_below_drewN | apply below_drew1 | refine below_set ?_ GE104.out | refine below_set ?_ GE105.out | refine below_set ?_ GE106.out) | exact HB.out))); (case aF => exact (fun _ _ => trivial)); (case aO => exact (by (with_reducible repeat (first | apply Kd.R_alloc | apply Kd.R_drewN | apply Kd.R_drew)); exact HO_107002.out)); (case aS => exact (below_size (by repeat (first | (with_reducible first | exact HB.out | apply below_alloc | apply pw_below_drewN | apply below_drew1 | refine below_set ?_ GE104.out | refine below_set ?_ GE105.out | refine below_set ?_ GE106.out) | exact HB.out)))); (case aL => have := LMc25.out; omega); intro v111 w30 ho hb hg hat; rw [← Ny110.out] at ho; have n0_ := Aside0.mk (blk_grown (g := gb104) (o := .cells #[.int .i64 a3_0, .int .i64 a3_1, .int .i64 a3_2] 87 (0, 0)) (by (with_reducible repeat (first | refine blk_drewN ?_ _ | refine blk_drew ?_ | refine blk_alloc ?_ _)); exact BK104.out) hg (Kd.R_ne HO_107002.out BK104.out (by decide))); have n1_ := Aside0.mk (blk_grown (g := gb105) (o := .cells #[.string x106000_1, .string x106001_1, .slice none 0 0] 92 (0, 0)) (by (with_reducible repeat (first | refine blk_drewN ?_ _ | refine blk_drew ?_ | refine blk_alloc ?_ _)); exact BK105.out) hg (Kd.R_ne HO_107002.out BK105.out (by decide))); have n2_ := Aside0.mk (blk_grown (g := gb106) (o := .cells #[.string (a0.extract (a1 : Int).toNat ((wrap64 (a1 + a3_0)) : Int).toNat), .string (⟨#[]⟩ : ByteArray), u107002] 92 (0, 0)) (by (with_reducible repeat (first | refine blk_drewN ?_ _ | refine blk_drew ?_ | refine blk_alloc ?_ _)); exact BK106.out) hg (Kd.R_ne HO_107002.out BK106.out (by decide))); have n3_ := Aside0.mk (hb); have n4_ := Aside0.mk (ho); clear BK104; clear BK105; clear BK106; clear HB; clear HO_107002; have BK104 := n0_; have BK105 := n1_; have BK106 := n2_; have HB := n3_; have HO112 := n4_; clear n0_ n1_ n2_ n3_ n4_; clear ho hb hg hat; obtain ⟨Ao31, co31, eo31⟩ := Kd.R_slice HO112.out; subst eo31; have hcz32_0 : w30.cell? ⟨gb106, 0, none⟩ = some (.string (a0.extract (a1 : Int).toNat ((wrap64 (a1 + a3_0)) : Int).toNat)) := (blk_cell BK106.out 0).trans rfl; have hcz32_1 : w30.cell? ⟨gb106, 1, none⟩ = some (.string (⟨#[]⟩ : ByteArray)) := (blk_cell BK106.out 1).trans rfl; have hcz32_2 : w30.cell? ⟨gb106, 2, none⟩ = some (u107002) := (blk_cell BK106.out 2).trans rfl; have hfz32_0 := blk_frozen BK106.out 0; have hfz32_1 := blk_frozen BK106.out 1; have hfz32_2 := blk_frozen BK106.out 2))
           go_roundg k1
           case measure => have := HK1.out; omega
           case rel => exact ⟨(t108), (wrap64 (x38_1 + 1)), (x106000_1), (x106001_1), (y110), (.slice Ao31 y110.length co31), (by first | rfl | (simp; done) | (simp [*]; done) | (simp [Go.Proofs.Ytdkkanpbcifkfaa.B.beq_not_bne]; done) | (simp [Go.Proofs.Ytdkkanpbcifkfaa.B.bne_not_beq]; done)), (by first | rfl | (simp; done) | (simp [*]; done) | (simp [Go.Proofs.Ytdkkanpbcifkfaa.B.beq_not_bne]; done) | (simp [Go.Proofs.Ytdkkanpbcifkfaa.B.bne_not_beq]; done)), H', ⟨by have := HK1.out; omega⟩, ⟨by (with_reducible repeat (first | apply Kd.R_alloc | apply Kd.R_drewN | apply Kd.R_drew)); exact Kd.R_mono (Kd.R_far (p := ⟨gb106, 2, none⟩) (Kd.R_types HO112.out BK106.out (by decide)) (fun _ hk => hk.2) (.slice Ao31 y110.length co31)) (fun _ hk => trivial)⟩, ⟨by (with_reducible repeat (first | refine blk_drewN ?_ _ | refine blk_drew ?_ | refine blk_alloc ?_ _)); refine blk_far ?_ NB104_106.out _; (with_reducible repeat (first | refine blk_drewN ?_ _ | refine blk_drew ?_ | refine blk_alloc ?_ _)); exact BK104.out⟩, ⟨by (with_reducible repeat (first | refine blk_drewN ?_ _ | refine blk_drew ?_ | refine blk_alloc ?_ _)); refine blk_far ?_ NB105_106.out _; (with_reducible repeat (first | refine blk_drewN ?_ _ | refine blk_drew ?_ | refine blk_alloc ?_ _)); exact BK105.out⟩, ⟨by (with_reducible repeat (first | refine blk_drewN ?_ _ | refine blk_drew ?_ | refine blk_alloc ?_ _)); refine blk_put (cs := #[.string (a0.extract (a1 : Int).toNat ((wrap64 (a1 + a3_0)) : Int).toNat), .string (⟨#[]⟩ : ByteArray), u107002]) ?_ 2 _ rfl; (with_reducible repeat (first | refine blk_drewN ?_ _ | refine blk_drew ?_ | refine blk_alloc ?_ _)); exact BK106.out⟩, ⟨by repeat (first | (with_reducible first | exact HB.out | apply below_alloc | apply pw_below_drewN | apply below_drew1 | refine below_set ?_ GE104.out | refine below_set ?_ GE105.out | refine below_set ?_ GE106.out) | exact HB.out)⟩⟩
          ·rw [if_neg c25] at H
           exact absurd H (by simp)
        ·rw [if_neg c19] at H
         have c19b0 : (t109 == 0) = false := beq_eq_false_iff_ne.mpr c19
         have c19b1 : (t109 != 0) = true := bne_iff_ne.mpr c19
         simp only [Option.some.injEq, Prod.mk.injEq] at H
         obtain ⟨rfl, rfl, rfl, rfl⟩ := H
         go_wp2_with (first | ((with_reducible refine gate_callee (f := 21) rfl ?_); refine goesL_ (some 43) rfl rfl Try.func21 (by kernel_rfl) rfl #[.string a0, .int .i64 x1_1] rfl (by (try simp only [List.map_toArray, List.map_cons, List.map_nil]); first | done | rfl | (simp only [List.length_drop, List.length_take]; rfl) | (simp only [ByteArray.size_append, Int.natCast_add]; rfl) | (rw [Go.Proofs.Ytdkkanpbcifkfaa.B.w64] <;> first | rfl | omega | (simp only [decide_eq_false_iff_not, decide_eq_true_eq, Int.not_lt, Nat.not_lt, gt_iff_lt] at * <;> omega))) ?_; (with_reducible refine (comp_Read.calls k1 a0 x1_1 t107 t108 t109 _ A18.out).mono ?_); rintro e w33 ⟨rfl, hb⟩; refine ⟨_, rfl, ?_⟩; have n0_ := Aside0.mk (Kd.R_below (by (with_reducible repeat (first | apply Kd.R_alloc | apply Kd.R_drewN | apply Kd.R_drew)); exact HO_107002.out) hb); have n1_ := Aside0.mk (blk_below (g := gb104) (o := .cells #[.int .i64 a3_0, .int .i64 a3_1, .int .i64 a3_2] 87 (0, 0)) (by (with_reducible repeat (first | refine blk_drewN ?_ _ | refine blk_drew ?_ | refine blk_alloc ?_ _)); exact BK104.out) hb); have n2_ := Aside0.mk (blk_below (g := gb105) (o := .cells #[.string x106000_1, .string x106001_1, .slice none 0 0] 92 (0, 0)) (by (with_reducible repeat (first | refine blk_drewN ?_ _ | refine blk_drew ?_ | refine blk_alloc ?_ _)); exact BK105.out) hb); have n3_ := Aside0.mk (blk_below (g := gb106) (o := .cells #[.string (a0.extract (a1 : Int).toNat ((wrap64 (a1 + a3_0)) : Int).toNat), .string (⟨#[]⟩ : ByteArray), u107002] 92 (0, 0)) (by (with_reducible repeat (first | refine blk_drewN ?_ _ | refine blk_drew ?_ | refine blk_alloc ?_ _)); exact BK106.out) hb); have n4_ := Aside0.mk (below_step (by repeat (first | (with_reducible first | exact HB.out | apply below_alloc | apply pw_below_drewN | apply below_drew1 | refine below_set ?_ GE104.out | refine below_set ?_ GE105.out | refine below_set ?_ GE106.out) | exact HB.out)) hb); clear HO_107002; clear BK104; clear BK105; clear BK106; clear HB; have HO_107002 := n0_; have BK104 := n1_; have BK105 := n2_; have BK106 := n3_; have HB := n4_; clear n0_ n1_ n2_ n3_ n4_; (try clear hb); (try clear hb2); (try clear hk); (try clear hi); have hnb34 := NB105_104.out; have hnc34 := NB104_105.out; have hnb35 := NB105_106.out; have hnc35 := NB106_105.out; have hcz36_0 : w33.cell? ⟨gb105, 0, none⟩ = some (.string x106000_1) := (blk_cell BK105.out 0).trans rfl; have hcz36_1 : w33.cell? ⟨gb105, 1, none⟩ = some (.string x106001_1) := (blk_cell BK105.out 1).trans rfl; have hcz36_2 : w33.cell? ⟨gb105, 2, none⟩ = some (.slice none 0 0) := (blk_cell BK105.out 2).trans rfl; have hfz36_0 := blk_frozen BK105.out 0; have hfz36_1 := blk_frozen BK105.out 1; have hfz36_2 := blk_frozen BK105.out 2))
         refine bodyPost_ret (results_ct rfl _ _ gb105 92 #[.string (⟨#[]⟩ : ByteArray), .string (⟨#[]⟩ : ByteArray), .slice none 0 0] (0, 0) _ rfl (by (with_reducible repeat (first | refine blk_drewN ?_ _ | refine blk_drew ?_ | refine blk_alloc ?_ _)); refine blk_put (cs := #[.string (⟨#[]⟩ : ByteArray), .string (⟨#[]⟩ : ByteArray), .slice none 0 0]) ?_ 2 _ rfl; (with_reducible repeat (first | refine blk_drewN ?_ _ | refine blk_drew ?_ | refine blk_alloc ?_ _)); refine blk_put (cs := #[.string (⟨#[]⟩ : ByteArray), .string x106001_1, .slice none 0 0]) ?_ 1 _ rfl; (with_reducible repeat (first | refine blk_drewN ?_ _ | refine blk_drew ?_ | refine blk_alloc ?_ _)); refine blk_put (cs := #[.string x106000_1, .string x106001_1, .slice none 0 0]) ?_ 0 _ rfl; (with_reducible repeat (first | refine blk_drewN ?_ _ | refine blk_drew ?_ | refine blk_alloc ?_ _)); exact BK105.out) Try.underlying92 rfl (by kernel_rfl)) rfl ?_
         exact ⟨_, by first | rfl | (simp [errW_none, errW_some] <;> rfl) | (simp [*, errW_none, errW_some] <;> rfl), by first | exact Kd.R_nil _ _ _ _ _ | exact Kd.N_nil _ _ _ _ _ | exact Kd.V_nil _ _ _ _ _ | exact Kd.Q_nil _ _ _ _ _ | exact Kd.S_nil _ _ _ _ _, by repeat (first | (with_reducible first | exact HB.out | apply below_alloc | apply pw_below_drewN | apply below_drew1 | refine below_set ?_ GE104.out | refine below_set ?_ GE105.out | refine below_set ?_ GE106.out) | exact HB.out)⟩
       ·rw [if_neg c17] at H
        have c17b0 : decide (x38_1 < a3_1) = false := decide_eq_false c17
        clear c17
        by_cases c37 : 0 ≤ x1_1
        ·rw [if_pos c37] at H
         have c37b0 := eq_true c37
         have c37b1 : decide (0 ≤ x1_1) = true := decide_eq_true c37
         clear c37
         by_cases c38 : x1_1 ≤ a2
         ·rw [if_pos c38] at H
          have c38b0 := eq_true c38
          have c38b1 : decide (x1_1 ≤ a2) = true := decide_eq_true c38
          clear c38
          by_cases c39 : a2 ≤ (a0.size : Int)
          ·rw [if_pos c39] at H
           have c39b0 := eq_true c39
           have c39b1 : decide (a2 ≤ (a0.size : Int)) = true := decide_eq_true c39
           clear c39
           simp only [Option.some.injEq, Prod.mk.injEq] at H
           obtain ⟨rfl, rfl, rfl, rfl⟩ := H
           have hnb40 := NB106_104.out
           have hnc40 := NB104_106.out
           have hnb41 := NB106_105.out
           have hnc41 := NB105_106.out
           have hcz42_0 : wr.cell? ⟨gb106, 0, none⟩ = some (.string (a0.extract (a1 : Int).toNat ((wrap64 (a1 + a3_0)) : Int).toNat)) := (blk_cell BK106.out 0).trans rfl
           have hcz42_1 : wr.cell? ⟨gb106, 1, none⟩ = some (.string (⟨#[]⟩ : ByteArray)) := (blk_cell BK106.out 1).trans rfl
           have hcz42_2 : wr.cell? ⟨gb106, 2, none⟩ = some (u107002) := (blk_cell BK106.out 2).trans rfl
           have hfz42_0 := blk_frozen BK106.out 0
           have hfz42_1 := blk_frozen BK106.out 1
           have hfz42_2 := blk_frozen BK106.out 2
           try go_wp2
           have n0_ : Aside0 (Kd.R Kd.string 9 (wr.setCell ⟨gb106, 1, none⟩ (.string (a0.extract (x1_1 : Int).toNat (a2 : Int).toNat))) w.heap.size (fun _ => True) u107002 x107002_1) := ⟨by (with_reducible repeat (first | apply Kd.R_alloc | apply Kd.R_drewN | apply Kd.R_drew)); exact Kd.R_mono (Kd.R_far (p := ⟨gb106, 1, none⟩) (Kd.R_types HO_107002.out BK106.out (by decide)) (fun _ hk => hk.2) (.string (a0.extract (x1_1 : Int).toNat (a2 : Int).toNat))) (fun _ hk => trivial)⟩
           have n1_ : Aside0 ((wr.setCell ⟨gb106, 1, none⟩ (.string (a0.extract (x1_1 : Int).toNat (a2 : Int).toNat))).heap[gb104]? = some (.cells #[.int .i64 a3_0, .int .i64 a3_1, .int .i64 a3_2] 87 (0, 0))) := ⟨by (with_reducible repeat (first | refine blk_drewN ?_ _ | refine blk_drew ?_ | refine blk_alloc ?_ _)); refine blk_far ?_ NB104_106.out _; (with_reducible repeat (first | refine blk_drewN ?_ _ | refine blk_drew ?_ | refine blk_alloc ?_ _)); exact BK104.out⟩
           have n2_ : Aside0 ((wr.setCell ⟨gb106, 1, none⟩ (.string (a0.extract (x1_1 : Int).toNat (a2 : Int).toNat))).heap[gb105]? = some (.cells #[.string x106000_1, .string x106001_1, .slice none 0 0] 92 (0, 0))) := ⟨by (with_reducible repeat (first | refine blk_drewN ?_ _ | refine blk_drew ?_ | refine blk_alloc ?_ _)); refine blk_far ?_ NB105_106.out _; (with_reducible repeat (first | refine blk_drewN ?_ _ | refine blk_drew ?_ | refine blk_alloc ?_ _)); exact BK105.out⟩
           have n3_ : Aside0 ((wr.setCell ⟨gb106, 1, none⟩ (.string (a0.extract (x1_1 : Int).toNat (a2 : Int).toNat))).heap[gb106]? = some (.cells #[.string (a0.extract (a1 : Int).toNat ((wrap64 (a1 + a3_0)) : Int).toNat), .string (a0.extract (x1_1 : Int).toNat (a2 : Int).toNat), u107002] 92 (0, 0))) := ⟨by (with_reducible repeat (first | refine blk_drewN ?_ _ | refine blk_drew ?_ | refine blk_alloc ?_ _)); refine blk_put (cs := #[.string (a0.extract (a1 : Int).toNat ((wrap64 (a1 + a3_0)) : Int).toNat), .string (⟨#[]⟩ : ByteArray), u107002]) ?_ 1 _ rfl; (with_reducible repeat (first | refine blk_drewN ?_ _ | refine blk_drew ?_ | refine blk_alloc ?_ _)); exact BK106.out⟩
           have n4_ : Aside0 (Below w.heap.size w (wr.setCell ⟨gb106, 1, none⟩ (.string (a0.extract (x1_1 : Int).toNat (a2 : Int).toNat)))) := ⟨by repeat (first | (with_reducible first | exact HB.out | apply below_alloc | apply pw_below_drewN | apply below_drew1 | refine below_set ?_ GE104.out | refine below_set ?_ GE105.out | refine below_set ?_ GE106.out) | exact HB.out)⟩
           (try clear HO_107002)
           (try clear BK104)
           (try clear BK105)
           (try clear BK106)
           (try clear HB)
           generalize (wr.setCell ⟨gb106, 1, none⟩ (.string (a0.extract (x1_1 : Int).toNat (a2 : Int).toNat))) = w43 at n0_ n1_ n2_ n3_ n4_ ⊢
           have HO_107002 := n0_
           have BK104 := n1_
           have BK105 := n2_
           have BK106 := n3_
           have HB := n4_
           clear n0_ n1_ n2_ n3_ n4_
           have n0_ := Aside0.mk (Kd.R_drew HO_107002.out)
           have n1_ := Aside0.mk (blk_drew BK104.out)
           have n2_ := Aside0.mk (blk_drew BK105.out)
           have n3_ := Aside0.mk (blk_drew BK106.out)
           have n4_ := Aside0.mk (below_drew1 HB.out)
           clear HO_107002
           clear BK104
           clear BK105
           clear BK106
           clear HB
           have HO_107002 := n0_
           have BK104 := n1_
           have BK105 := n2_
           have BK106 := n3_
           have HB := n4_
           clear n0_ n1_ n2_ n3_ n4_
           obtain ⟨Ao47, co47, eo47⟩ := Kd.R_slice HO_107002.out
           (first | subst eo47 | (injection eo47 with f1_ f2_ f3_; have f4_ := f1_.symm; have f5_ := f3_.symm; clear f1_ f2_ f3_; subst f4_; subst f5_))
           refine start_ (n := 9) (S := fun w' => w'.cell? ⟨gb106, 0, none⟩ = some (.string (a0.extract (a1 : Int).toNat ((wrap64 (a1 + a3_0)) : Int).toNat)) ∧ w'.cell? ⟨gb106, 1, none⟩ = some (.string (a0.extract (x1_1 : Int).toNat (a2 : Int).toNat)) ∧ w'.cell? ⟨gb106, 2, none⟩ = some (.slice Ao47 x107002_1.length co47) ∧ w'.cell? ⟨gb104, 0, none⟩ = some (.int .i64 a3_0) ∧ w'.cell? ⟨gb104, 1, none⟩ = some (.int .i64 a3_1) ∧ w'.cell? ⟨gb104, 2, none⟩ = some (.int .i64 a3_2)) (ds := []) #[false, false, false, false, false, false, false, false, false] (by kernel_rfl) rfl rfl ⟨(blk_cell BK106.out 0).trans rfl, (blk_cell BK106.out 1).trans rfl, (blk_cell BK106.out 2).trans rfl, (blk_cell BK104.out 0).trans rfl, (blk_cell BK104.out 1).trans rfl, (blk_cell BK104.out 2).trans rfl⟩ (fun hHeld => ?_); refine with_tabW data_read.tab15 data_read.bits15 (fun HT_ HW_ => ?_)
           generalize w43.drew = w44 at HO_107002 BK104 BK105 BK106 HB hHeld ⊢
           refine pure_ (i := 1) (N := some 69) (v := ?_) (a' := ?_) #[false, true, false, false, false, false, false, false, false] rfl rfl (any_of HT_.out (by kernel_rfl)) (fun _ _ _ h => h) (Or.inl ⟨by rfl, ?_⟩) ?_ ?_
           rotate_left
           ·intro w'
            go_simp
            with_reducible rfl
           rotate_left
           ·simp only [Act.put, List.setIfInBounds_toArray, List.set_cons_zero, List.set_cons_succ, i64_w, i32_w]
            rfl
           refine pure_ (i := 4) (N := some 72) (v := ?_) (a' := ?_) #[false, true, false, false, true, false, false, false, false] rfl rfl (any_of HT_.out (by kernel_rfl)) (fun _ _ _ h => h) (Or.inl ⟨by rfl, ?_⟩) ?_ ?_
           rotate_left
           ·intro w'
            go_simp
            with_reducible rfl
           rotate_left
           ·simp only [Act.put, List.setIfInBounds_toArray, List.set_cons_zero, List.set_cons_succ, i64_w, i32_w]
            rfl
           refine take_ (i := 0) (N := some 68) (v := ?_) (a' := ?_) #[true, true, false, false, true, false, false, false, false] rfl rfl (take_ofW HT_.out HW_.out (by kernel_rfl)) (fun _ _ _ h => h) (Or.inl ⟨by rfl, ?_⟩) hHeld ?_ ?_
           rotate_left
           ·rintro w' ⟨s0, s1, s2, s3, s4, s5⟩
            go_simp
            with_reducible rfl
           rotate_left
           ·simp only [Act.put, List.setIfInBounds_toArray, List.set_cons_zero, List.set_cons_succ, i64_w, i32_w]
            rfl
           refine take_ (i := 2) (N := some 70) (v := ?_) (a' := ?_) #[true, true, true, false, true, false, false, false, false] rfl rfl (take_ofW HT_.out HW_.out (by kernel_rfl)) (fun _ _ _ h => h) (Or.inl ⟨by rfl, ?_⟩) hHeld ?_ ?_
           rotate_left
           ·rintro w' ⟨s0, s1, s2, s3, s4, s5⟩
            go_simp
            with_reducible rfl
           rotate_left
           ·simp only [Act.put, List.setIfInBounds_toArray, List.set_cons_zero, List.set_cons_succ, i64_w, i32_w]
            rfl
           refine pure_ (i := 3) (N := some 71) (v := ?_) (a' := ?_) #[true, true, true, true, true, false, false, false, false] rfl rfl (any_of HT_.out (by kernel_rfl)) (fun _ _ _ h => h) (Or.inl ⟨by rfl, ?_⟩) ?_ ?_
           rotate_left
           ·intro w'
            go_simp
            with_reducible rfl
           rotate_left
           ·simp only [Act.put, List.setIfInBounds_toArray, List.set_cons_zero, List.set_cons_succ, i64_w, i32_w]
            rfl
           refine take_ (i := 5) (N := some 73) (v := ?_) (a' := ?_) #[true, true, true, true, true, true, false, false, false] rfl rfl (take_ofW HT_.out HW_.out (by kernel_rfl)) (fun _ _ _ h => h) (Or.inl ⟨by rfl, ?_⟩) hHeld ?_ ?_
           rotate_left
           ·rintro w' ⟨s0, s1, s2, s3, s4, s5⟩
            go_simp
            with_reducible rfl
           rotate_left
           ·simp only [Act.put, List.setIfInBounds_toArray, List.set_cons_zero, List.set_cons_succ, i64_w, i32_w]
            rfl
           refine pure_ (i := 6) (N := some 74) (v := ?_) (a' := ?_) #[true, true, true, true, true, true, true, false, false] rfl rfl (any_of HT_.out (by kernel_rfl)) (fun _ _ _ h => h) (Or.inl ⟨by rfl, ?_⟩) ?_ ?_
           rotate_left
           ·intro w'
            go_simp
            with_reducible rfl
           rotate_left
           ·simp only [Act.put, List.setIfInBounds_toArray, List.set_cons_zero, List.set_cons_succ, i64_w, i32_w]
            rfl
           refine one_ (i := 7) (N := none) #[true, true, true, true, true, true, true, true, false] rfl rfl (one_of HT_.out (by kernel_rfl)) (by decide) (fun K hK => ?_)
           have hs45 : w44.cell? ⟨gb105, 0, none⟩ = some (.string x106000_1) := (blk_cell BK105.out 0).trans rfl
           have hfs45 := blk_frozen BK105.out 0
           have hns45_0 := NB104_105.out
           have hns45_2 := NB106_105.out
           have hms45_0 := NB105_104.out
           have hms45_2 := NB105_106.out
           have hs46 : w44.cell? ⟨gb105, 1, none⟩ = some (.string x106001_1) := (blk_cell BK105.out 1).trans rfl
           have hfs46 := blk_frozen BK105.out 1
           have hns46_0 := NB104_105.out
           have hns46_2 := NB106_105.out
           have hms46_0 := NB105_104.out
           have hms46_2 := NB105_106.out
           have hs48 : w44.cell? ⟨gb105, 2, none⟩ = some (.slice none 0 0) := (blk_cell BK105.out 2).trans rfl
           have hfs48 := blk_frozen BK105.out 2
           have hns48_0 := NB104_105.out
           have hns48_2 := NB106_105.out
           have hms48_0 := NB105_104.out
           have hms48_2 := NB105_106.out
           refine skip_ (w1 := ?_) (by rfl) rfl ?_ ?_
           rotate_left
           ·go_simp
            rfl
           refine hK.out _ _ ⟨((cell_far (p := ⟨gb105, _, none⟩) NB106_105.out _).trans (((cell_far (p := ⟨gb105, _, none⟩) NB106_105.out _).trans (((cell_far (p := ⟨gb105, _, none⟩) NB106_105.out _).trans (hHeld.1)))))), ((cell_far (p := ⟨gb105, _, none⟩) NB106_105.out _).trans (((cell_far (p := ⟨gb105, _, none⟩) NB106_105.out _).trans (((cell_far (p := ⟨gb105, _, none⟩) NB106_105.out _).trans (hHeld.2.1)))))), ((cell_far (p := ⟨gb105, _, none⟩) NB106_105.out _).trans (((cell_far (p := ⟨gb105, _, none⟩) NB106_105.out _).trans (((cell_far (p := ⟨gb105, _, none⟩) NB106_105.out _).trans (hHeld.2.2.1)))))), ((cell_far (p := ⟨gb105, _, none⟩) NB104_105.out _).trans (((cell_far (p := ⟨gb105, _, none⟩) NB104_105.out _).trans (((cell_far (p := ⟨gb105, _, none⟩) NB104_105.out _).trans (hHeld.2.2.2.1)))))), ((cell_far (p := ⟨gb105, _, none⟩) NB104_105.out _).trans (((cell_far (p := ⟨gb105, _, none⟩) NB104_105.out _).trans (((cell_far (p := ⟨gb105, _, none⟩) NB104_105.out _).trans (hHeld.2.2.2.2.1)))))), ((cell_far (p := ⟨gb105, _, none⟩) NB104_105.out _).trans (((cell_far (p := ⟨gb105, _, none⟩) NB104_105.out _).trans (((cell_far (p := ⟨gb105, _, none⟩) NB104_105.out _).trans (hHeld.2.2.2.2.2))))))⟩ (fun hHeld => ?_)
           clear hK K
           refine pure_ (i := 8) (N := some 9) (v := ?_) (a' := ?_) #[true, true, true, true, true, true, true, true, true] rfl rfl (any_of HT_.out (by kernel_rfl)) (fun _ _ _ h => h) (Or.inl ⟨by rfl, ?_⟩) ?_ ?_
           rotate_left
           ·intro w'
            go_simp
            with_reducible rfl
           rotate_left
           ·simp only [Act.put, List.setIfInBounds_toArray, List.set_cons_zero, List.set_cons_succ, i64_w, i32_w]
            rfl
           refine done_ (done_of HT_.out (by kernel_rfl)) ?_
           try go_wp2
           refine bodyPost_ret (results_ct rfl _ _ gb105 92 #[.string (a0.extract (a1 : Int).toNat ((wrap64 (a1 + a3_0)) : Int).toNat), .string (a0.extract (x1_1 : Int).toNat (a2 : Int).toNat), .slice Ao47 x107002_1.length co47] (0, 0) _ rfl (by (with_reducible repeat (first | refine blk_drewN ?_ _ | refine blk_drew ?_ | refine blk_alloc ?_ _)); refine blk_put (cs := #[.string (a0.extract (a1 : Int).toNat ((wrap64 (a1 + a3_0)) : Int).toNat), .string (a0.extract (x1_1 : Int).toNat (a2 : Int).toNat), .slice none 0 0]) ?_ 2 _ rfl; (with_reducible repeat (first | refine blk_drewN ?_ _ | refine blk_drew ?_ | refine blk_alloc ?_ _)); refine blk_put (cs := #[.string (a0.extract (a1 : Int).toNat ((wrap64 (a1 + a3_0)) : Int).toNat), .string x106001_1, .slice none 0 0]) ?_ 1 _ rfl; (with_reducible repeat (first | refine blk_drewN ?_ _ | refine blk_drew ?_ | refine blk_alloc ?_ _)); refine blk_put (cs := #[.string x106000_1, .string x106001_1, .slice none 0 0]) ?_ 0 _ rfl; (with_reducible repeat (first | refine blk_drewN ?_ _ | refine blk_drew ?_ | refine blk_alloc ?_ _)); exact BK105.out) Try.underlying92 rfl (by kernel_rfl)) rfl ?_
           exact ⟨_, by first | rfl | (simp [errW_none, errW_some] <;> rfl) | (simp [*, errW_none, errW_some] <;> rfl), by (with_reducible repeat (first | apply Kd.R_alloc | apply Kd.R_drewN | apply Kd.R_drew)); exact Kd.R_mono (Kd.R_far (p := ⟨gb105, 2, none⟩) (Kd.R_far (p := ⟨gb105, 1, none⟩) (Kd.R_far (p := ⟨gb105, 0, none⟩) (Kd.R_types HO_107002.out BK105.out (by decide)) (fun _ hk => hk.2) (.string (a0.extract (a1 : Int).toNat ((wrap64 (a1 + a3_0)) : Int).toNat))) (fun _ hk => hk.2) (.string (a0.extract (x1_1 : Int).toNat (a2 : Int).toNat))) (fun _ hk => hk.2) (.slice Ao47 x107002_1.length co47)) (fun _ hk => trivial), by repeat (first | (with_reducible first | exact HB.out | apply below_alloc | apply pw_below_drewN | apply below_drew1 | refine below_set ?_ GE104.out | refine below_set ?_ GE105.out | refine below_set ?_ GE106.out) | exact HB.out)⟩
          ·rw [if_neg c39] at H
           exact absurd H (by simp)
         ·rw [if_neg c38] at H
          exact absurd H (by simp)
        ·rw [if_neg c37] at H
         exact absurd H (by simp)
    ·rw [if_neg c8] at H
     exact absurd H (by simp)
   ·rw [if_neg c7] at H
    exact absurd H (by simp)
  ·rw [if_neg c6] at H
   exact absurd H (by simp)
 ·rw [if_neg c5] at H
  have c5b0 : decide (a3_0 ≤ (wrap64 (a2 - a1))) = false := decide_eq_false c5
  (try (have c5b1 : decide (a3_0 ≤ ((a2 - a1))) = false := by have h_ : decide (a3_0 ≤ (wrap64 (a2 - a1))) = false := decide_eq_false c5; rw [Go.Proofs.Ytdkkanpbcifkfaa.B.w64 (by omega) (by omega)] at h_; exact h_))
  clear c5
  simp only [Option.some.injEq, Prod.mk.injEq] at H
  obtain ⟨rfl, rfl, rfl, rfl⟩ := H
  go_enter Try.func73, Try.ntmps73
  go_wp2_with (first | ((with_reducible refine gate_dst (N := 7) rfl ?_); refine box_event ?hg (N := 7) ?hd (cs := #[.int .i64 a3_0, .int .i64 a3_1, .int .i64 a3_2]) (t := 87) ?hr ?_; (case hd => rfl); (case hg => rfl); (case hr => first | (go_simp; done) | (go_simp; rfl)); intro gb104 hg w49 hbox hb; have n0_ := Aside0.mk (below_step (by repeat (first | (with_reducible first | exact HB.out | apply below_alloc | apply pw_below_drewN | apply below_drew1) | exact HB.out)) hb); have n1_ := Aside0.mk (hbox); have n2_ := Aside0.mk ((by rw [hg]; exact (below_size (by repeat (first | (with_reducible first | exact HB.out | apply below_alloc | apply pw_below_drewN | apply below_drew1) | exact HB.out))) : w.heap.size ≤ gb104)); have n3_ := Aside0.mk ((by rw [hg]; exact (below_size (by repeat (first | (with_reducible first | exact HB.out | apply below_alloc | apply pw_below_drewN | apply below_drew1) | exact HB.out))) : w.heap.size ≤ gb104)); clear HB; have HB := n0_; have BK104 := n1_; have GW104 := n2_; have GE104 := n3_; clear n0_ n1_ n2_ n3_; clear hb hbox hg) | ((with_reducible refine gate_dst (N := 8) rfl ?_); refine box_event ?hg (N := 8) ?hd (cs := #[.string (⟨#[]⟩ : ByteArray), .string (⟨#[]⟩ : ByteArray), .slice none 0 0]) (t := 92) ?hr ?_; (case hd => rfl); (case hg => rfl); (case hr => first | (go_simp; done) | (go_simp; rfl)); intro gb105 hg w50 hbox hb; have n0_ := Aside0.mk (blk_below (g := gb104) (o := .cells #[.int .i64 a3_0, .int .i64 a3_1, .int .i64 a3_2] 87 (0, 0)) (by (with_reducible repeat (first | refine blk_drewN ?_ _ | refine blk_drew ?_ | refine blk_alloc ?_ _)); exact BK104.out) hb); have n1_ := Aside0.mk (below_step (by repeat (first | (with_reducible first | exact HB.out | apply below_alloc | apply pw_below_drewN | apply below_drew1 | refine below_set ?_ GE104.out) | exact HB.out)) hb); have n2_ := Aside0.mk (hbox); have n3_ := Aside0.mk ((by rw [hg]; exact (below_size (by repeat (first | (with_reducible first | exact HB.out | apply below_alloc | apply pw_below_drewN | apply below_drew1 | refine below_set ?_ GE104.out) | exact HB.out))) : w.heap.size ≤ gb105)); have n4_ := Aside0.mk ((by rw [hg]; exact (below_size (by repeat (first | (with_reducible first | exact HB.out | apply below_alloc | apply pw_below_drewN | apply below_drew1 | refine below_set ?_ GE104.out) | exact HB.out))) : w.heap.size ≤ gb105)); have n5_ := Aside0.mk ((by rw [hg]; exact Nat.ne_of_lt (blk_lt (g := gb104) (o := .cells #[.int .i64 a3_0, .int .i64 a3_1, .int .i64 a3_2] 87 (0, 0)) (by (with_reducible repeat (first | refine blk_drewN ?_ _ | refine blk_drew ?_ | refine blk_alloc ?_ _)); exact BK104.out)) : gb104 ≠ gb105)); have n6_ := Aside0.mk ((by rw [hg]; exact Nat.ne_of_gt (blk_lt (g := gb104) (o := .cells #[.int .i64 a3_0, .int .i64 a3_1, .int .i64 a3_2] 87 (0, 0)) (by (with_reducible repeat (first | refine blk_drewN ?_ _ | refine blk_drew ?_ | refine blk_alloc ?_ _)); exact BK104.out)) : gb105 ≠ gb104)); clear BK104; clear HB; have BK104 := n0_; have HB := n1_; have BK105 := n2_; have GW105 := n3_; have GE105 := n4_; have NB104_105 := n5_; have NB105_104 := n6_; clear n0_ n1_ n2_ n3_ n4_ n5_ n6_; clear hb hbox hg) | ((with_reducible refine gate_dst (N := 10) rfl ?_); refine box_event ?hg (N := 10) ?hd (cs := #[.string (⟨#[]⟩ : ByteArray), .string (⟨#[]⟩ : ByteArray), .slice none 0 0]) (t := 92) ?hr ?_; (case hd => rfl); (case hg => rfl); (case hr => first | (go_simp; done) | (go_simp; rfl)); intro gb106 hg w51 hbox hb; have n0_ := Aside0.mk (blk_below (g := gb104) (o := .cells #[.int .i64 a3_0, .int .i64 a3_1, .int .i64 a3_2] 87 (0, 0)) (by (with_reducible repeat (first | refine blk_drewN ?_ _ | refine blk_drew ?_ | refine blk_alloc ?_ _)); exact BK104.out) hb); have n1_ := Aside0.mk (blk_below (g := gb105) (o := .cells #[.string (⟨#[]⟩ : ByteArray), .string (⟨#[]⟩ : ByteArray), .slice none 0 0] 92 (0, 0)) (by (with_reducible repeat (first | refine blk_drewN ?_ _ | refine blk_drew ?_ | refine blk_alloc ?_ _)); exact BK105.out) hb); have n2_ := Aside0.mk (below_step (by repeat (first | (with_reducible first | exact HB.out | apply below_alloc | apply pw_below_drewN | apply below_drew1 | refine below_set ?_ GE104.out | refine below_set ?_ GE105.out) | exact HB.out)) hb); have n3_ := Aside0.mk (hbox); have n4_ := Aside0.mk ((by rw [hg]; exact (below_size (by repeat (first | (with_reducible first | exact HB.out | apply below_alloc | apply pw_below_drewN | apply below_drew1 | refine below_set ?_ GE104.out | refine below_set ?_ GE105.out) | exact HB.out))) : w.heap.size ≤ gb106)); have n5_ := Aside0.mk ((by rw [hg]; exact (below_size (by repeat (first | (with_reducible first | exact HB.out | apply below_alloc | apply pw_below_drewN | apply below_drew1 | refine below_set ?_ GE104.out | refine below_set ?_ GE105.out) | exact HB.out))) : w.heap.size ≤ gb106)); have n6_ := Aside0.mk ((by rw [hg]; exact Nat.ne_of_lt (blk_lt (g := gb104) (o := .cells #[.int .i64 a3_0, .int .i64 a3_1, .int .i64 a3_2] 87 (0, 0)) (by (with_reducible repeat (first | refine blk_drewN ?_ _ | refine blk_drew ?_ | refine blk_alloc ?_ _)); exact BK104.out)) : gb104 ≠ gb106)); have n7_ := Aside0.mk ((by rw [hg]; exact Nat.ne_of_gt (blk_lt (g := gb104) (o := .cells #[.int .i64 a3_0, .int .i64 a3_1, .int .i64 a3_2] 87 (0, 0)) (by (with_reducible repeat (first | refine blk_drewN ?_ _ | refine blk_drew ?_ | refine blk_alloc ?_ _)); exact BK104.out)) : gb106 ≠ gb104)); have n8_ := Aside0.mk ((by rw [hg]; exact Nat.ne_of_lt (blk_lt (g := gb105) (o := .cells #[.string (⟨#[]⟩ : ByteArray), .string (⟨#[]⟩ : ByteArray), .slice none 0 0] 92 (0, 0)) (by (with_reducible repeat (first | refine blk_drewN ?_ _ | refine blk_drew ?_ | refine blk_alloc ?_ _)); exact BK105.out)) : gb105 ≠ gb106)); have n9_ := Aside0.mk ((by rw [hg]; exact Nat.ne_of_gt (blk_lt (g := gb105) (o := .cells #[.string (⟨#[]⟩ : ByteArray), .string (⟨#[]⟩ : ByteArray), .slice none 0 0] 92 (0, 0)) (by (with_reducible repeat (first | refine blk_drewN ?_ _ | refine blk_drew ?_ | refine blk_alloc ?_ _)); exact BK105.out)) : gb106 ≠ gb105)); clear BK104; clear BK105; clear HB; have BK104 := n0_; have BK105 := n1_; have HB := n2_; have BK106 := n3_; have GW106 := n4_; have GE106 := n5_; have NB104_106 := n6_; have NB106_104 := n7_; have NB105_106 := n8_; have NB106_105 := n9_; clear n0_ n1_ n2_ n3_ n4_ n5_ n6_ n7_ n8_ n9_; clear hb hbox hg; have hnb52 := NB104_105.out; have hnc52 := NB105_104.out; have hnb53 := NB104_106.out; have hnc53 := NB106_104.out; have hcz54_0 : w51.cell? ⟨gb104, 0, none⟩ = some (.int .i64 a3_0) := (blk_cell BK104.out 0).trans rfl; have hcz54_1 : w51.cell? ⟨gb104, 1, none⟩ = some (.int .i64 a3_1) := (blk_cell BK104.out 1).trans rfl; have hcz54_2 : w51.cell? ⟨gb104, 2, none⟩ = some (.int .i64 a3_2) := (blk_cell BK104.out 2).trans rfl; have hfz54_0 := blk_frozen BK104.out 0; have hfz54_1 := blk_frozen BK104.out 1; have hfz54_2 := blk_frozen BK104.out 2; have hnb55 := NB105_106.out; have hnc55 := NB106_105.out; have hcz56_0 : w51.cell? ⟨gb105, 0, none⟩ = some (.string (⟨#[]⟩ : ByteArray)) := (blk_cell BK105.out 0).trans rfl; have hcz56_1 : w51.cell? ⟨gb105, 1, none⟩ = some (.string (⟨#[]⟩ : ByteArray)) := (blk_cell BK105.out 1).trans rfl; have hcz56_2 : w51.cell? ⟨gb105, 2, none⟩ = some (.slice none 0 0) := (blk_cell BK105.out 2).trans rfl; have hfz56_0 := blk_frozen BK105.out 0; have hfz56_1 := blk_frozen BK105.out 1; have hfz56_2 := blk_frozen BK105.out 2))
  refine bodyPost_ret (results_ct rfl _ _ gb105 92 #[.string (⟨#[]⟩ : ByteArray), .string (⟨#[]⟩ : ByteArray), .slice none 0 0] (0, 0) _ rfl (by (with_reducible repeat (first | refine blk_drewN ?_ _ | refine blk_drew ?_ | refine blk_alloc ?_ _)); refine blk_put (cs := #[.string (⟨#[]⟩ : ByteArray), .string (⟨#[]⟩ : ByteArray), .slice none 0 0]) ?_ 2 _ rfl; (with_reducible repeat (first | refine blk_drewN ?_ _ | refine blk_drew ?_ | refine blk_alloc ?_ _)); refine blk_put (cs := #[.string (⟨#[]⟩ : ByteArray), .string (⟨#[]⟩ : ByteArray), .slice none 0 0]) ?_ 1 _ rfl; (with_reducible repeat (first | refine blk_drewN ?_ _ | refine blk_drew ?_ | refine blk_alloc ?_ _)); refine blk_put (cs := #[.string (⟨#[]⟩ : ByteArray), .string (⟨#[]⟩ : ByteArray), .slice none 0 0]) ?_ 0 _ rfl; (with_reducible repeat (first | refine blk_drewN ?_ _ | refine blk_drew ?_ | refine blk_alloc ?_ _)); exact BK105.out) Try.underlying92 rfl (by kernel_rfl)) rfl ?_
  exact ⟨_, by first | rfl | (simp [errW_none, errW_some] <;> rfl) | (simp [*, errW_none, errW_some] <;> rfl), by first | exact Kd.R_nil _ _ _ _ _ | exact Kd.N_nil _ _ _ _ _ | exact Kd.V_nil _ _ _ _ _ | exact Kd.Q_nil _ _ _ _ _ | exact Kd.S_nil _ _ _ _ _, by repeat (first | (with_reducible first | exact HB.out | apply below_alloc | apply pw_below_drewN | apply below_drew1 | refine below_set ?_ GE104.out | refine below_set ?_ GE105.out | refine below_set ?_ GE106.out) | exact HB.out)⟩

-- GIVENPART Derived.Deep.RegionHeld3
/-! ### data_parts_whole: function 74 -/
theorem data_parts_whole.keep {a b : ByteArray} {v : Value} {l : List ByteArray} {base g : Nat} {ok : Nat → Prop} {w w1 w2 : World}
    (h : (w1.cell? ⟨g, 0, none⟩ = some (.string a) ∧ w1.cell? ⟨g, 1, none⟩ = some (.string b) ∧ w1.cell? ⟨g, 2, none⟩ = some v) ∧ Aside0 (Below g w w1 ∧ g < w1.heap.size ∧ Kd.R Kd.string 9 w1 base ok v l)) (hb : Below w1.heap.size w1 w2) :
    (w2.cell? ⟨g, 0, none⟩ = some (.string a) ∧ w2.cell? ⟨g, 1, none⟩ = some (.string b) ∧ w2.cell? ⟨g, 2, none⟩ = some v) ∧ Aside0 (Below g w w2 ∧ g < w2.heap.size ∧ Kd.R Kd.string 9 w2 base ok v l) := by
  obtain ⟨⟨c0, c1, c2⟩, ⟨h1, h2, h3⟩⟩ := h
  have hs := hb.size
  exact ⟨⟨(hb.cell h2).trans c0, (hb.cell h2).trans c1, (hb.cell h2).trans c2⟩, ⟨h1.trans (hb.mono (by omega)), by omega, Kd.R_below h3 hb⟩⟩
set_option maxHeartbeats 4000000 in
set_option maxRecDepth 100000 in
theorem data_parts_whole.calls (a b : ByteArray) (v : Value) (l : List ByteArray) (base : Nat) (ok : Nat → Prop) (w : World) (hr : Kd.R Kd.string 9 w base ok v l) (hl : l.length ≤ 1000000) (hz : a.size + (strings_Join.cat l).size + b.size ≤ 140737488355328) :
    Calls Try.prog 74 #[.agg #[.string a, .string b, v]] w fun e w' => e = .returned (.string (a ++ strings_Join.cat l ++ b)) ∧ Below w.heap.size w w' := by
  have HB := Aside0.mk (below_alloc (Below.refl w.heap.size w) (.cells #[.string a, .string b, v] 92 (0, 0)))
  have HR := Aside0.mk (Kd.R_alloc hr (.cells #[.string a, .string b, v] 92 (0, 0)))
  have HC : (w.alloc (.cells #[.string a, .string b, v] 92 (0, 0))).cell? ⟨w.heap.size, 0, none⟩ = some (.string a) ∧ (w.alloc (.cells #[.string a, .string b, v] 92 (0, 0))).cell? ⟨w.heap.size, 1, none⟩ = some (.string b) ∧ (w.alloc (.cells #[.string a, .string b, v] 92 (0, 0))).cell? ⟨w.heap.size, 2, none⟩ = some v := by
    refine ⟨?_, ?_, ?_⟩ <;> (rw [Lib.cell_of_heap (heap_alloc_new w _)]; rfl)
  have HC0 := Aside0.mk HC
  clear HC
  have HC := HC0
  clear HC0
  have hs : w.heap.size < (w.alloc (.cells #[.string a, .string b, v] 92 (0, 0))).heap.size := by show _ < (w.heap.push _).size; rw [Array.size_push]; omega
  have HS := Aside0.mk hs
  have HZ := Aside0.mk hz
  have HL := Aside0.mk hl
  clear hs hz hr hl
  go_enter Try.func74, Try.ntmps74
  go_wp2
  generalize w.alloc (.cells #[.string a, .string b, v] 92 (0, 0)) = w1 at *
  generalize hgg : w.heap.size = g at *
  have hgg := Aside0.mk hgg
  have hf1 : a.size + (strings_Join.cat l).size ≤ 9223372036854775807 := by have := HZ.out; omega
  have hf2 : a.size + (strings_Join.cat l).size + b.size ≤ 9223372036854775807 := by have := HZ.out; omega
  have c0 := HC.out.1
  have c1 := HC.out.2.1
  have c2 := HC.out.2.2
  go_region_held (fun w' => (w'.cell? ⟨g, 0, none⟩ = some (.string a) ∧ w'.cell? ⟨g, 1, none⟩ = some (.string b) ∧ w'.cell? ⟨g, 2, none⟩ = some v) ∧ Aside0 (Below g w w' ∧ g < w'.heap.size ∧ Kd.R Kd.string 9 w' base ok v l)) ((first | assumption | exact data_parts_whole.keep ⟨⟨c0, c1, c2⟩, ⟨HB.out, HS.out, HR.out⟩⟩ (below_drew (Below.refl _ _)) | exact data_parts_whole.keep (by assumption) (by assumption))) ((first | (go_at_call 95; refine (strings_Join.calls v l base ok _ (Kd.R_drew HR.out) HL.out (by have := HZ.out; omega)).mono ?_; rintro e w' ⟨rfl, hb'⟩)))
  all_goals
    rename_i hx
    go_wp2
    go_ret
    exact ⟨rfl, hgg.out ▸ hx.2.out.1⟩

/-! ### data_texts: function 75 -/
def data_texts.l0 : Nat → ByteArray → Option (Bool)
 | 0, _ => none
 | k + 1, x0 => if x0.toList = ([] : List UInt8) then (some true) else (if 0 < (x0.size : Int) then (if (wrap64 (1 + (wrap64 (bt x0 0)))) > (x0.size : Int) then (some false) else (if 0 ≤ (wrap64 (1 + (wrap64 (bt x0 0)))) then (if (wrap64 (1 + (wrap64 (bt x0 0)))) ≤ (x0.size : Int) then (data_texts.l0 k (x0.extract ((wrap64 (1 + (wrap64 (bt x0 0)))) : Int).toNat x0.size)) else (none)) else (none))) else (none))
def data_texts.f (k : Nat) (a0 : ByteArray) : Option (Bool) := if a0.toList = ([] : List UInt8) then (some false) else (data_texts.l0 k a0)
theorem data_texts.mono_l : ∀ k, (∀ y0, LeO (data_texts.l0 k y0) (data_texts.l0 (k + 1) y0))
 | 0 => fun _ r h => by simp [data_texts.l0] at h
 | k + 1 => by
  have ih0 := data_texts.mono_l k
  ·intro y0
   unfold data_texts.l0
   repeat' first
   | (with_reducible exact ih0 _)
   | (with_reducible exact LeO.refl _)
   | (with_reducible exact LeO.none _)
   | (with_reducible refine LeO.ite ?_ ?_)
   | (with_reducible refine LeO.bind ?_ (fun _ => ?_))
   | exact ih0 _
   | exact LeO.none _
   | refine LeO.ite ?_ ?_
   | refine LeO.bind ?_ (fun _ => ?_)
theorem data_texts.mono : ∀ a0 k, LeO (data_texts.f k a0) (data_texts.f (k + 1) a0) := by
 intro a0 k
 have ih0 := data_texts.mono_l k
 unfold data_texts.f
 repeat' first
   | (with_reducible exact ih0 _)
   | (with_reducible exact LeO.refl _)
   | (with_reducible exact LeO.none _)
   | (with_reducible refine LeO.ite ?_ ?_)
   | (with_reducible refine LeO.bind ?_ (fun _ => ?_))
   | exact ih0 _
   | exact LeO.none _
   | refine LeO.ite ?_ ?_
   | refine LeO.bind ?_ (fun _ => ?_)
set_option maxHeartbeats 8000000 in
set_option maxRecDepth 100000 in
theorem data_texts.calls (k : Nat) (a0 : ByteArray) (r : Bool) (w : World) (h : data_texts.f k a0 = some r) :
  Calls Try.prog 75 #[.string a0] w fun e w' => e = .returned (.bool r) ∧ Drawn0 w w' := by
 have H : (if a0.toList = ([] : List UInt8) then (some false) else (data_texts.l0 k a0)) = some r := h
 clear h
 by_cases c2 : a0.toList = ([] : List UInt8)
 ·rw [if_pos c2] at H
  have c2b0 : (a0.toList == ([] : List UInt8)) = true := beq_iff_eq.mpr c2
  have c2b1 : (a0.toList != ([] : List UInt8)) = false := bne_eq_false_iff_eq.mpr c2
  have c2b2 : a0.toList.isEmpty = true := List.isEmpty_iff.mpr c2
  clear c2
  obtain rfl := Option.some.inj H
  go_enter Try.func75, Try.ntmps75
  go_wp2
  go_ret
  exact ⟨by first | rfl | (simp; done) | (simp [*]; done), by repeat (first | exact Drawn0.refl _ | apply Drawn0.step)⟩
 ·rw [if_neg c2] at H
  have c2b0 : (a0.toList == ([] : List UInt8)) = false := beq_eq_false_iff_ne.mpr c2
  have c2b1 : (a0.toList != ([] : List UInt8)) = true := bne_iff_ne.mpr c2
  have c2b2 : a0.toList.isEmpty = false := Bool.eq_false_iff.mpr (fun h_ => c2 (List.isEmpty_iff.mp h_))
  have H' := Aside0.mk H
  clear H
  go_enter Try.func75, Try.ntmps75
  go_wp2
  go_loopg [0] k (fun kq v0 w' => ∃ (x0_1 : ByteArray), v0 = .string x0_1 ∧ Aside0 (data_texts.l0 kq x0_1 = some r) ∧ Aside0 (kq ≤ k) ∧ Drawn0 w w')
  case atStart => exact ⟨(a0), (by first | rfl | (simp; done) | (simp [*]; done) | (simp [Go.Proofs.Ytdkkanpbcifkfaa.B.beq_not_bne]; done) | (simp [Go.Proofs.Ytdkkanpbcifkfaa.B.bne_not_beq]; done)), H', ⟨Nat.le_refl _⟩, by repeat (first | exact Drawn0.refl _ | apply Drawn0.step)⟩
  case round =>
   clear H'
   try clear c2
   try clear c2b0
   try clear c2b1
   try clear c2b2
   try clear p2
   obtain ⟨x0_1, rfl, HA, HK1, ⟨m1, rfl⟩⟩ := hrel
   cases gk with
   | zero => exact absurd HA.out (by simp [data_texts.l0])
   | succ k1 =>
    have H := HA.out
    clear HA
    simp only [data_texts.l0] at H
    by_cases c3 : x0_1.toList = ([] : List UInt8)
    ·rw [if_pos c3] at H
     have c3b0 : (x0_1.toList == ([] : List UInt8)) = true := beq_iff_eq.mpr c3
     have c3b1 : (x0_1.toList != ([] : List UInt8)) = false := bne_eq_false_iff_eq.mpr c3
     have c3b2 : x0_1.toList.isEmpty = true := List.isEmpty_iff.mpr c3
     clear c3
     obtain rfl := Option.some.inj H
     go_wp2
     go_ret
     exact ⟨by first | rfl | (simp; done) | (simp [*]; done), by repeat (first | exact Drawn0.refl _ | apply Drawn0.step)⟩
    ·rw [if_neg c3] at H
     have c3b0 : (x0_1.toList == ([] : List UInt8)) = false := beq_eq_false_iff_ne.mpr c3
     have c3b1 : (x0_1.toList != ([] : List UInt8)) = true := bne_iff_ne.mpr c3
     have c3b2 : x0_1.toList.isEmpty = false := Bool.eq_false_iff.mpr (fun h_ => c3 (List.isEmpty_iff.mp h_))
     by_cases c4 : 0 < (x0_1.size : Int)
     ·rw [if_pos c4] at H
      have c4b0 : decide (0 < (x0_1.size : Int)) = true := decide_eq_true c4
      have c4b1 : decide (0 < x0_1.size) = true := decide_eq_true (by omega)
      clear c4
      by_cases c6 : (wrap64 (1 + (wrap64 (bt x0_1 0)))) > (x0_1.size : Int)
      ·rw [if_pos c6] at H
       have c6b0 : decide ((x0_1.size : Int) < (wrap64 (1 + (wrap64 (bt x0_1 0))))) = true := decide_eq_true c6
       (try (have c6b1 : decide ((x0_1.size : Int) < ((1 + ((bt x0_1 0))))) = true := by have h_ : decide ((x0_1.size : Int) < (wrap64 (1 + (wrap64 (bt x0_1 0))))) = true := decide_eq_true c6; rw [Go.Proofs.Ytdkkanpbcifkfaa.B.w64 (by omega) (by omega)] at h_; rw [Go.Proofs.Ytdkkanpbcifkfaa.B.w64 (by omega) (by omega)] at h_; exact h_))
       clear c6
       obtain rfl := Option.some.inj H
       have p5 : 0 ≤ (0 : Int) := (by omega)
       have q5 : 0 < x0_1.size := (by have : (0 : Int) < (x0_1.size : Int) := of_decide_eq_true (by first | (with_reducible assumption) | assumption); omega)
       have hx5 : ∀ h : 0 < x0_1.size, ((x0_1[0]'h).toNat : Int) = bt x0_1 0 := bt_at x0_1 0
       clear p5
       have qi5 : (0 < (x0_1.size : Int)) = True := eq_true (of_decide_eq_true (by first | (with_reducible assumption) | assumption))
       replace q5 := eq_true q5
       go_wp2
       go_ret
       exact ⟨by first | rfl | (simp; done) | (simp [*]; done), by repeat (first | exact Drawn0.refl _ | apply Drawn0.step)⟩
      ·rw [if_neg c6] at H
       have c6b0 : decide ((x0_1.size : Int) < (wrap64 (1 + (wrap64 (bt x0_1 0))))) = false := decide_eq_false c6
       (try (have c6b1 : decide ((x0_1.size : Int) < ((1 + ((bt x0_1 0))))) = false := by have h_ : decide ((x0_1.size : Int) < (wrap64 (1 + (wrap64 (bt x0_1 0))))) = false := decide_eq_false c6; rw [Go.Proofs.Ytdkkanpbcifkfaa.B.w64 (by omega) (by omega)] at h_; rw [Go.Proofs.Ytdkkanpbcifkfaa.B.w64 (by omega) (by omega)] at h_; exact h_))
       clear c6
       obtain ⟨ji7, hji7⟩ : ∃ j_ : Int, (wrap64 (1 + (wrap64 (bt x0_1 0)))) = j_ := ⟨_, rfl⟩
       replace H : (if 0 ≤ (ji7) then (if (ji7) ≤ (x0_1.size : Int) then (data_texts.l0 k1 (x0_1.extract ((ji7) : Int).toNat x0_1.size)) else (none)) else (none)) = some r := by first | (rw [hji7] at H; exact H) | (simp only [hji7] at H ⊢; exact H)
       (try rw [hji7] at c6b0)
       (try rw [hji7] at c6b1)
       have hji7w : (IntKind.i64.wrap (1 + (wrap64 (bt x0_1 0)))) = ji7 := (i64_w _).trans hji7
       by_cases c8 : 0 ≤ (ji7)
       ·rw [if_pos c8] at H
        have c8b0 := eq_true c8
        have c8b1 : decide (0 ≤ (ji7)) = true := decide_eq_true c8
        clear c8
        by_cases c9 : (ji7) ≤ (x0_1.size : Int)
        ·rw [if_pos c9] at H
         have c9b0 := eq_true c9
         have c9b1 : decide ((ji7) ≤ (x0_1.size : Int)) = true := decide_eq_true c9
         clear c9
         have H' := Aside0.mk H
         clear H
         have p5 : 0 ≤ (0 : Int) := (by omega)
         have q5 : 0 < x0_1.size := (by have : (0 : Int) < (x0_1.size : Int) := of_decide_eq_true (by first | (with_reducible assumption) | assumption); omega)
         have hx5 : ∀ h : 0 < x0_1.size, ((x0_1[0]'h).toNat : Int) = bt x0_1 0 := bt_at x0_1 0
         clear p5
         have qi5 : (0 < (x0_1.size : Int)) = True := eq_true (of_decide_eq_true (by first | (with_reducible assumption) | assumption))
         replace q5 := eq_true q5
         go_wp2
         go_roundg k1
         case measure => have := HK1.out; omega
         case rel => exact ⟨(x0_1.extract ((ji7) : Int).toNat x0_1.size), (by first | rfl | (simp; done) | (simp only [← hji7] <;> (first | rfl | simp)) | (simp [*]; done)), H', ⟨by have := HK1.out; omega⟩, by repeat (first | exact Drawn0.refl _ | apply Drawn0.step)⟩
        ·rw [if_neg c9] at H
         exact absurd H (by simp)
       ·rw [if_neg c8] at H
        exact absurd H (by simp)
     ·rw [if_neg c4] at H
      exact absurd H (by simp)

-- GIVENPART Derived.Test.YtdkkanpbcifkfaaZMi
/-! ### data_Expand: function 28 -/
/-- The shape of a type that has one. -/
def data_Expand.shp (k : Int) : Option (Int × Int × Int) :=
  if k = 1 then some (4, 0, 0) else if k = 28 then some (16, 0, 0) else if k = 2 then some (0, 1, 0) else if k = 5 then some (0, 1, 0) else if k = 12 then some (0, 1, 0) else if k = 6 then some (0, 2, 20) else if k = 15 then some (2, 1, 0) else if k = 33 then some (6, 1, 0) else none
theorem data_Expand.fnd_shp (k : Int) : Mi.fnd k data_shapes.tab = (data_Expand.shp k).map fun s => data_shapes.agg s.1 s.2.1 s.2.2 := by
  unfold data_Expand.shp data_shapes.tab
  simp only [Mi.fnd]
  repeat' split
  all_goals rfl
/-- What is told at the end. -/
def data_Expand.fin (k : Nat) (kind : Int) (d : ByteArray) (is : Bool) : Option (ByteArray × Int) :=
  if is = true then (if kind = 16 then ((data_texts.f k d).bind fun b => if b = true then (if (d.size : Int) > 65535 then some (⟨#[]⟩, 4) else some (d, 0)) else some (⟨#[]⟩, 4)) else (if (d.size : Int) > 65535 then some (⟨#[]⟩, 4) else some (d, 0))) else some (⟨#[]⟩, 4)
def data_Expand.g (k : Nat) (a0 : ByteArray) (a1 a2 a3 : Int) (s : Int × Int × Int) : Option (ByteArray × Int) :=
  (data_read.f k a0 a1 (wrap64 (a1 + a2)) s.1 s.2.1 s.2.2).bind fun p => if p.1.size + (strings_Join.cat p.2.2.1).size + p.2.1.size ≤ 140737488355328 then (if p.2.2.1.length ≤ 1000000 then data_Expand.fin k a3 (p.1 ++ strings_Join.cat p.2.2.1 ++ p.2.1) p.2.2.2 else none) else none
def data_Expand.f (k : Nat) (a0 : ByteArray) (a1 a2 a3 : Int) : Option (ByteArray × Int) :=
  (octet_Take.f a0 a1 a2).bind fun t => if t.2 = true then (match data_Expand.shp a3 with | some s => data_Expand.g k a0 a1 a2 a3 s | none => data_Expand.fin k a3 t.1 true) else some (⟨#[]⟩, 2)
theorem data_Expand.mono_fin (k : Nat) (kind : Int) (d : ByteArray) (is : Bool) : LeO (data_Expand.fin k kind d is) (data_Expand.fin (k + 1) kind d is) := by
  unfold data_Expand.fin
  exact LeO.ite (LeO.ite (LeO.bind (data_texts.mono d k) (fun _ => LeO.refl _)) (LeO.refl _)) (LeO.refl _)
theorem data_Expand.mono : ∀ a0 a1 a2 a3 k, LeO (data_Expand.f k a0 a1 a2 a3) (data_Expand.f (k + 1) a0 a1 a2 a3) := by
  intro a0 a1 a2 a3 k
  unfold data_Expand.f
  refine LeO.bind (LeO.refl _) fun t => LeO.ite ?_ (LeO.refl _)
  cases data_Expand.shp a3 with
  | none => exact data_Expand.mono_fin k a3 t.1 true
  | some s => exact LeO.bind (data_read.mono _ _ _ _ _ _ k) fun p => LeO.ite (LeO.ite (data_Expand.mono_fin k a3 _ _) (LeO.refl _)) (LeO.refl _)
theorem data_Expand.fin_texts {k : Nat} {kind : Int} {d : ByteArray} {r : ByteArray × Int} (h : data_Expand.fin k kind d true = some r) (hk : kind = 16) :
    ∃ b, data_texts.f k d = some b ∧ (if b = true then (if (d.size : Int) > 65535 then some ((⟨#[]⟩ : ByteArray), (4 : Int)) else some (d, 0)) else some (⟨#[]⟩, 4)) = some r := by
  unfold data_Expand.fin at h
  rw [if_pos rfl, if_pos hk] at h
  exact Option.bind_eq_some_iff.mp h
theorem data_Expand.fin_plain {k : Nat} {kind : Int} {d : ByteArray} {r : ByteArray × Int} (h : data_Expand.fin k kind d true = some r) (hk : ¬ kind = 16) :
    (if (d.size : Int) > 65535 then some ((⟨#[]⟩ : ByteArray), (4 : Int)) else some (d, 0)) = some r := by
  unfold data_Expand.fin at h
  rw [if_pos rfl, if_neg hk] at h
  exact h
theorem data_Expand.fin_no {k : Nat} {kind : Int} {d : ByteArray} {r : ByteArray × Int} (h : data_Expand.fin k kind d false = some r) : r = (⟨#[]⟩, 4) := by
  unfold data_Expand.fin at h
  rw [if_neg Bool.false_ne_true] at h
  exact (Option.some.inj h).symm
theorem data_Expand.slc {v : Value} {l : List ByteArray} {base : Nat} {ok : Nat → Prop} {w : World} (hr : Kd.R Kd.string 9 w base ok v l) : ∃ A n c, v = .slice A n c := by
  rcases (Kd.own_of_R hr).2 with ⟨rfl, _⟩ | ⟨g, cap, cur, rfl, _⟩
  · exact ⟨_, _, _, rfl⟩
  · exact ⟨_, _, _, rfl⟩
theorem data_Expand.end_texts {b : Bool} {d r1 : ByteArray} {r2 : Int} (h : (if b = true then (if (d.size : Int) > 65535 then some ((⟨#[]⟩ : ByteArray), (4 : Int)) else some (d, 0)) else some (⟨#[]⟩, 4)) = some (r1, r2)) :
    (b = true → 65535 < (d.size : Int) → r1 = ⟨#[]⟩ ∧ r2 = 4) ∧ (b = true → (d.size : Int) ≤ 65535 → r1 = d ∧ r2 = 0) ∧ (b = false → r1 = ⟨#[]⟩ ∧ r2 = 4) := by
  refine ⟨fun h1 h2 => ?_, fun h1 h2 => ?_, fun h1 => ?_⟩
  · rw [if_pos h1, if_pos h2] at h; cases h; exact ⟨rfl, rfl⟩
  · rw [if_pos h1, if_neg (by omega)] at h; cases h; exact ⟨rfl, rfl⟩
  · rw [h1, if_neg Bool.false_ne_true] at h; cases h; exact ⟨rfl, rfl⟩
theorem data_Expand.end_plain {d r1 : ByteArray} {r2 : Int} (h : (if (d.size : Int) > 65535 then some ((⟨#[]⟩ : ByteArray), (4 : Int)) else some (d, 0)) = some (r1, r2)) :
    (65535 < (d.size : Int) → r1 = ⟨#[]⟩ ∧ r2 = 4) ∧ ((d.size : Int) ≤ 65535 → r1 = d ∧ r2 = 0) := by
  refine ⟨fun h2 => ?_, fun h2 => ?_⟩
  · rw [if_pos h2] at h; cases h; exact ⟨rfl, rfl⟩
  · rw [if_neg (by omega)] at h; cases h; exact ⟨rfl, rfl⟩
set_option maxHeartbeats 8000000 in
set_option maxRecDepth 100000 in
theorem data_Expand.calls (k : Nat) (a0 : ByteArray) (a1 a2 a3 : Int) (r1 : ByteArray) (r2 : Int) (w : World) (h : data_Expand.f k a0 a1 a2 a3 = some (r1, r2)) :
    Calls Try.prog 28 #[.string a0, .int .i64 a1, .int .i64 a2, .int .i64 a3] w fun e w' => e = .returned (.tuple #[.string r1, .int .i64 r2]) ∧ Below w.heap.size w w' := by
  have HB := Aside0.mk (Below.refl w.heap.size w)
  obtain ⟨⟨t1, t2⟩, ht, h'⟩ := Option.bind_eq_some_iff.mp h
  clear h
  have HT := Aside0.mk ht
  clear ht
  cases t2 with
  | false =>
    rw [if_neg Bool.false_ne_true] at h'
    obtain ⟨rfl, rfl⟩ := Prod.mk.injEq .. ▸ Option.some.inj h'
    go_enter Try.func28, Try.ntmps28
    go_wp2_with (first | (go_at_call 71; refine (octet_Take.calls _ _ _ _ _ _ HT.out).mono ?_; rintro e w1 ⟨rfl, hd1⟩))
    go_ret2
    exact ⟨rfl, hd1.below⟩
  | true =>
    replace h' : (match data_Expand.shp a3 with | some s => data_Expand.g k a0 a1 a2 a3 s | none => data_Expand.fin k a3 t1 true) = some (r1, r2) := h'
    cases hsh : data_Expand.shp a3 with
    | none =>
      rw [hsh] at h'
      have HH := Aside0.mk (show data_Expand.fin k a3 t1 true = some (r1, r2) from h')
      clear h'
      have hfn : Mi.fnd a3 data_shapes.tab = none := by rw [data_Expand.fnd_shp, hsh]; rfl
      go_enter Try.func28, Try.ntmps28
      go_wp2_with (first
        | (go_at_call 71; refine (octet_Take.calls _ _ _ _ _ _ HT.out).mono ?_; rintro e w1 ⟨rfl, hd1⟩)
        | (go_at_call 72; refine (data_shapes.calls _).mono ?_; rintro e w2 ⟨g, rfl, hin⟩; have hl := Mi.look (P := Try.prog) hin.at_ 89 3 87 Try.underlying89 Try.underlying3 _ (Try.zeroValue87 w2) a3; rw [hfn] at hl; have hB2 := Aside0.mk ((HB.out.trans hd1.below).trans (hin.bel.mono hd1.below.size)); clear hin)
        | (go_at_call 75; obtain ⟨b, hb, hx⟩ := data_Expand.fin_texts HH.out (by assumption); have hx := Aside0.mk hx; refine (data_texts.calls _ _ _ _ hb).mono ?_; rintro e w3 ⟨rfl, hd3⟩))
      all_goals
        go_ret2
        first
          | (have hq := (data_Expand.end_texts hx.out).1 (by assumption) (by assumption); obtain ⟨rfl, rfl⟩ := hq; exact ⟨rfl, (below_alloc hB2.out _).trans (hd3.below.mono (by have := hB2.out.size; simp only [World.alloc, Array.size_push]; omega))⟩)
          | (have hq := (data_Expand.end_texts hx.out).2.1 (by assumption) (by assumption); obtain ⟨rfl, rfl⟩ := hq; exact ⟨rfl, (below_alloc hB2.out _).trans (hd3.below.mono (by have := hB2.out.size; simp only [World.alloc, Array.size_push]; omega))⟩)
          | (have hq := (data_Expand.end_texts hx.out).2.2 (by first | assumption | simpa using ‹¬ b = true›); obtain ⟨rfl, rfl⟩ := hq; exact ⟨rfl, (below_alloc hB2.out _).trans (hd3.below.mono (by have := hB2.out.size; simp only [World.alloc, Array.size_push]; omega))⟩)
          | (have hq := (data_Expand.end_plain (data_Expand.fin_plain HH.out (by assumption))).1 (by assumption); obtain ⟨rfl, rfl⟩ := hq; exact ⟨rfl, below_alloc hB2.out _⟩)
          | (have hq := (data_Expand.end_plain (data_Expand.fin_plain HH.out (by assumption))).2 (by assumption); obtain ⟨rfl, rfl⟩ := hq; exact ⟨rfl, below_alloc hB2.out _⟩)
    | some s =>
      obtain ⟨s0, s1, s2⟩ := s
      rw [hsh] at h'
      replace h' : data_Expand.g k a0 a1 a2 a3 (s0, s1, s2) = some (r1, r2) := h'
      unfold data_Expand.g at h'
      obtain ⟨⟨p1, p2, p3, p4⟩, hp, h'⟩ := Option.bind_eq_some_iff.mp h'
      replace h' : (if p1.size + (strings_Join.cat p3).size + p2.size ≤ 140737488355328 then (if p3.length ≤ 1000000 then data_Expand.fin k a3 (p1 ++ strings_Join.cat p3 ++ p2) p4 else none) else none) = some (r1, r2) := h'
      have hp := Aside0.mk (show data_read.f k a0 a1 (wrap64 (a1 + a2)) s0 s1 s2 = some (p1, p2, p3, p4) from hp)
      by_cases z1 : p1.size + (strings_Join.cat p3).size + p2.size ≤ 140737488355328
      · rw [if_pos z1] at h'
        by_cases z2 : p3.length ≤ 1000000
        · rw [if_pos z2] at h'
          have HH := Aside0.mk h'
          have z1 := Aside0.mk z1
          have z2 := Aside0.mk z2
          clear h'
          have hfn : Mi.fnd a3 data_shapes.tab = some (data_shapes.agg s0 s1 s2) := by rw [data_Expand.fnd_shp, hsh]; rfl
          cases p4
          all_goals
            go_enter Try.func28, Try.ntmps28
            go_wp2_with (first
              | (go_at_call 71; refine (octet_Take.calls _ _ _ _ _ _ HT.out).mono ?_; rintro e w1 ⟨rfl, hd1⟩)
              | (go_at_call 72; refine (data_shapes.calls _).mono ?_; rintro e w2 ⟨g, rfl, hin⟩; have hl := Mi.look (P := Try.prog) hin.at_ 89 3 87 Try.underlying89 Try.underlying3 _ (Try.zeroValue87 w2) a3; rw [hfn] at hl; replace hl := show _ = Result.ok (Value.tuple #[.agg #[.int .i64 s0, .int .i64 s1, .int .i64 s2], .bool true]) w2 from hl; have hB2 := Aside0.mk ((HB.out.trans hd1.below).trans (hin.bel.mono hd1.below.size)); clear hin)
              | (go_at_call 73; refine (data_read.calls _ _ _ _ _ _ _ _ _ _ _ _ hp.out).mono ?_; rintro e w3 ⟨v, rfl, hv, hb3⟩; obtain ⟨vA, vn, vc, rfl⟩ := data_Expand.slc hv; have hB3 := Aside0.mk ((below_alloc hB2.out _).trans (hb3.mono (by have := hB2.out.size; simp only [World.alloc, Array.size_push]; omega))); have hv := Aside0.mk hv; clear hb3)
              | (go_at_call 74; refine (data_parts_whole.calls _ _ _ p3 _ _ _ (Kd.R_alloc hv.out _) z2.out z1.out).mono ?_; rintro e w4 ⟨rfl, hb4⟩; have hB4 := Aside0.mk ((below_alloc hB3.out _).trans (hb4.mono (by have := hB3.out.size; simp only [World.alloc, Array.size_push]; omega))); clear hb4)
              | (go_at_call 75; obtain ⟨b, hb, hx⟩ := data_Expand.fin_texts HH.out (by assumption); have hx := Aside0.mk hx; refine (data_texts.calls _ _ _ _ hb).mono ?_; rintro e w5 ⟨rfl, hd3⟩))
            all_goals
              go_ret2
              first
                | (have hq := data_Expand.fin_no HH.out; cases hq; exact ⟨rfl, hB4.out⟩)
                | (have hq := (data_Expand.end_texts hx.out).1 (by first | assumption | (simp only [ByteArray.size_append, Int.natCast_add]; assumption)) (by first | assumption | (simp only [ByteArray.size_append, Int.natCast_add]; assumption)); obtain ⟨rfl, rfl⟩ := hq; exact ⟨rfl, hB4.out.trans (hd3.below.mono hB4.out.size)⟩)
                | (have hq := (data_Expand.end_texts hx.out).2.1 (by first | assumption | (simp only [ByteArray.size_append, Int.natCast_add]; assumption)) (by first | assumption | (simp only [ByteArray.size_append, Int.natCast_add]; assumption)); obtain ⟨rfl, rfl⟩ := hq; exact ⟨rfl, hB4.out.trans (hd3.below.mono hB4.out.size)⟩)
                | (have hq := (data_Expand.end_texts hx.out).2.2 (by first | assumption | simpa using ‹¬ b = true›); obtain ⟨rfl, rfl⟩ := hq; exact ⟨rfl, hB4.out.trans (hd3.below.mono hB4.out.size)⟩)
                | (have hq := (data_Expand.end_plain (data_Expand.fin_plain HH.out (by first | assumption | (simp only [ByteArray.size_append, Int.natCast_add]; assumption)))).1 (by first | assumption | (simp only [ByteArray.size_append, Int.natCast_add]; assumption)); obtain ⟨rfl, rfl⟩ := hq; exact ⟨rfl, hB4.out⟩)
                | (have hq := (data_Expand.end_plain (data_Expand.fin_plain HH.out (by first | assumption | (simp only [ByteArray.size_append, Int.natCast_add]; assumption)))).2 (by first | assumption | (simp only [ByteArray.size_append, Int.natCast_add]; assumption)); obtain ⟨rfl, rfl⟩ := hq; exact ⟨rfl, hB4.out⟩)
        · rw [if_neg z2] at h'; cases h'
      · rw [if_neg z1] at h'; cases h'

/-! ### data_Check: function 30 -/
def data_Check.f (k : Nat) (a0 : Int) (a1 : ByteArray) : Option (Bool) := if (a1.size : Int) > 65535 then (some false) else ((data_Expand.f k a1 0 (a1.size : Int) a0).bind fun bt113 => (if bt113.2 = 0 then (some (bt113.1.toList == a1.toList)) else (some false)))
theorem data_Check.mono : ∀ a0 a1 k, LeO (data_Check.f k a0 a1) (data_Check.f (k + 1) a0 a1) := by
 intro a0 a1 k
 unfold data_Check.f
 repeat' first
   | (with_reducible exact data_Expand.mono _ _ _ _ _)
   | (with_reducible exact LeO.refl _)
   | (with_reducible exact LeO.none _)
   | (with_reducible refine LeO.ite ?_ ?_)
   | (with_reducible refine LeO.bind ?_ (fun _ => ?_))
   | exact data_Expand.mono _ _ _ _ _
   | exact LeO.none _
   | refine LeO.ite ?_ ?_
   | refine LeO.bind ?_ (fun _ => ?_)
set_option maxHeartbeats 8000000 in
set_option maxRecDepth 100000 in
theorem data_Check.calls (k : Nat) (a0 : Int) (a1 : ByteArray) (r : Bool) (w : World) (h : data_Check.f k a0 a1 = some r) :
  Calls Try.prog 30 #[.int .i64 a0, .string a1] w fun e w' => e = .returned (.bool r) ∧ Below w.heap.size w w' := by
 have HB := Aside0.mk (Below.refl w.heap.size w)
 have H : (if (a1.size : Int) > 65535 then (some false) else ((data_Expand.f k a1 0 (a1.size : Int) a0).bind fun bt113 => (if bt113.2 = 0 then (some (bt113.1.toList == a1.toList)) else (some false)))) = some r := h
 clear h
 by_cases c3 : (a1.size : Int) > 65535
 ·rw [if_pos c3] at H
  have c3b0 : decide (65535 < (a1.size : Int)) = true := decide_eq_true c3
  have c3b1 : decide (65535 < a1.size) = true := decide_eq_true (by omega)
  clear c3
  obtain rfl := Option.some.inj H
  go_enter Try.func30, Try.ntmps30
  go_wp2
  go_ret
  exact ⟨by first | rfl | (simp [errW_none, errW_some] <;> rfl) | (simp [*, errW_none, errW_some] <;> rfl), by repeat (first | (with_reducible first | exact HB.out | apply below_alloc | apply pw_below_drewN | apply below_drew1) | exact HB.out)⟩
 ·rw [if_neg c3] at H
  have c3b0 : decide (65535 < (a1.size : Int)) = false := decide_eq_false c3
  have c3b1 : decide (65535 < a1.size) = false := decide_eq_false (by omega)
  clear c3
  replace H := Option.bind_eq_some_iff.mp H
  obtain ⟨⟨t113, t114⟩, A40, H⟩ := H
  replace H : (if t114 = 0 then (some (t113.toList == a1.toList)) else (some false)) = some r := H
  have A4 := Aside0.mk A40
  clear A40
  by_cases c5 : t114 = 0
  ·rw [if_pos c5] at H
   have c5b0 : (t114 == 0) = true := beq_iff_eq.mpr c5
   have c5b1 : (t114 != 0) = false := bne_eq_false_iff_eq.mpr c5
   clear c5
   obtain rfl := Option.some.inj H
   go_enter Try.func30, Try.ntmps30
   go_wp2_with (first | ((with_reducible refine gate_callee (f := 28) rfl ?_); refine goesL_ (some 15) rfl rfl Try.func28 (by kernel_rfl) rfl #[.string a1, .int .i64 0, .int .i64 (a1.size : Int), .int .i64 a0] rfl (by (try simp only [List.map_toArray, List.map_cons, List.map_nil]); first | done | rfl | (simp only [List.length_drop, List.length_take]; rfl) | (simp only [ByteArray.size_append, Int.natCast_add]; rfl) | (rw [Go.Proofs.Ytdkkanpbcifkfaa.B.w64] <;> first | rfl | omega | (simp only [decide_eq_false_iff_not, decide_eq_true_eq, Int.not_lt, Nat.not_lt, gt_iff_lt] at * <;> omega))) ?_; (with_reducible refine (data_Expand.calls k a1 0 (a1.size : Int) a0 t113 t114 _ A4.out).mono ?_); rintro e w6 ⟨rfl, hb⟩; refine ⟨_, rfl, ?_⟩; have n0_ := Aside0.mk (below_step (by repeat (first | (with_reducible first | exact HB.out | apply below_alloc | apply pw_below_drewN | apply below_drew1) | exact HB.out)) hb); clear HB; have HB := n0_; clear n0_; (try clear hb); (try clear hb2); (try clear hk); (try clear hi)))
   go_ret
   exact ⟨by first | rfl | (simp [errW_none, errW_some] <;> rfl) | (simp [*, errW_none, errW_some] <;> rfl), by repeat (first | (with_reducible first | exact HB.out | apply below_alloc | apply pw_below_drewN | apply below_drew1) | exact HB.out)⟩
  ·rw [if_neg c5] at H
   have c5b0 : (t114 == 0) = false := beq_eq_false_iff_ne.mpr c5
   have c5b1 : (t114 != 0) = true := bne_iff_ne.mpr c5
   obtain rfl := Option.some.inj H
   go_enter Try.func30, Try.ntmps30
   go_wp2_with (first | ((with_reducible refine gate_callee (f := 28) rfl ?_); refine goesL_ (some 15) rfl rfl Try.func28 (by kernel_rfl) rfl #[.string a1, .int .i64 0, .int .i64 (a1.size : Int), .int .i64 a0] rfl (by (try simp only [List.map_toArray, List.map_cons, List.map_nil]); first | done | rfl | (simp only [List.length_drop, List.length_take]; rfl) | (simp only [ByteArray.size_append, Int.natCast_add]; rfl) | (rw [Go.Proofs.Ytdkkanpbcifkfaa.B.w64] <;> first | rfl | omega | (simp only [decide_eq_false_iff_not, decide_eq_true_eq, Int.not_lt, Nat.not_lt, gt_iff_lt] at * <;> omega))) ?_; (with_reducible refine (data_Expand.calls k a1 0 (a1.size : Int) a0 t113 t114 _ A4.out).mono ?_); rintro e w7 ⟨rfl, hb⟩; refine ⟨_, rfl, ?_⟩; have n0_ := Aside0.mk (below_step (by repeat (first | (with_reducible first | exact HB.out | apply below_alloc | apply pw_below_drewN | apply below_drew1) | exact HB.out)) hb); clear HB; have HB := n0_; clear n0_; (try clear hb); (try clear hb2); (try clear hk); (try clear hi)))
   go_ret
   exact ⟨by first | rfl | (simp [errW_none, errW_some] <;> rfl) | (simp [*, errW_none, errW_some] <;> rfl), by repeat (first | (with_reducible first | exact HB.out | apply below_alloc | apply pw_below_drewN | apply below_drew1) | exact HB.out)⟩

-- GIVENPART Derived.Test.YtdkkanpbcifkfaaZMi
/-! ### data_split: function 78 -/
def data_split.f (k : Nat) (a0 : Int) (a1 : ByteArray) : Option (ByteArray × ByteArray × List ByteArray × Bool) :=
  (data_Check.f k a0 a1).bind fun c => if c = true then (match data_Expand.shp a0 with | some s => data_read.f k a1 0 (a1.size : Int) s.1 s.2.1 s.2.2 | none => some (a1, ⟨#[]⟩, [], true)) else some (⟨#[]⟩, ⟨#[]⟩, [], false)
theorem data_split.mono : ∀ a0 a1 k, LeO (data_split.f k a0 a1) (data_split.f (k + 1) a0 a1) := by
  intro a0 a1 k
  unfold data_split.f
  refine LeO.bind (data_Check.mono a0 a1 k) fun t => LeO.ite ?_ (LeO.refl _)
  cases data_Expand.shp a0 with
  | none => exact LeO.refl _
  | some s => exact data_read.mono _ _ _ _ _ _ k
theorem data_split.three {w w1 : World} {g B : Nat} {a b c a' b' c' : Value} (bk : w1.heap[g]? = some (.cells #[a', b', c'] 92 (0, 0))) :
    (((w1.setCell ⟨g, 0, none⟩ a).setCell ⟨g, 1, none⟩ b).setCell ⟨g, 2, none⟩ c).heap[g]? = some (.cells #[a, b, c] 92 (0, 0)) ∧
    (Below B w w1 → B ≤ g → Below B w (((w1.setCell ⟨g, 0, none⟩ a).setCell ⟨g, 1, none⟩ b).setCell ⟨g, 2, none⟩ c)) ∧
    (∀ v l base ok, Kd.R Kd.string 9 w1 base ok v l → Kd.R Kd.string 9 (((w1.setCell ⟨g, 0, none⟩ a).setCell ⟨g, 1, none⟩ b).setCell ⟨g, 2, none⟩ c) base ok v l) := by
  have b1 := blk_put bk 0 a (cs' := #[a, b', c']) rfl
  have b2 := blk_put b1 1 b (cs' := #[a, b, c']) rfl
  have b3 := blk_put b2 2 c (cs' := #[a, b, c]) rfl
  refine ⟨b3, fun h hg => ((h.setCell hg _).setCell hg _).setCell hg _, fun v l base ok h => ?_⟩
  exact Kd.R_set (Kd.R_set (Kd.R_set h bk (by decide) 0 a) b1 (by decide) 1 b) b2 (by decide) 2 c
theorem data_split.facts {w1 : World} {g : Nat} {a b c : Value} (bk : w1.heap[g]? = some (.cells #[a, b, c] 92 (0, 0))) :
    (w1.cell? ⟨g, 0, none⟩ = some a ∧ w1.cell? ⟨g, 1, none⟩ = some b ∧ w1.cell? ⟨g, 2, none⟩ = some c) ∧ w1.frozen? ⟨g, 0, none⟩ = false ∧ w1.frozen? ⟨g, 1, none⟩ = false ∧ w1.frozen? ⟨g, 2, none⟩ = false :=
  ⟨⟨blk_cell bk 0, blk_cell bk 1, blk_cell bk 2⟩, blk_frozen bk 0, blk_frozen bk 1, blk_frozen bk 2⟩
set_option maxHeartbeats 8000000 in
set_option maxRecDepth 100000 in
theorem data_split.calls (k : Nat) (a0 : Int) (a1 : ByteArray) (r1 r2 : ByteArray) (r3 : List ByteArray) (r4 : Bool) (w : World) (h : data_split.f k a0 a1 = some (r1, r2, r3, r4)) :
    Calls Try.prog 78 #[.int .i64 a0, .string a1] w fun e w' => ∃ v2_ : Value, e = .returned (.tuple #[.agg #[.string r1, .string r2, v2_], .bool r4]) ∧ Kd.R Kd.string 9 w' w.heap.size (fun _ => True) v2_ r3 ∧ Below w.heap.size w w' := by
  obtain ⟨c, hc, h'⟩ := Option.bind_eq_some_iff.mp h
  clear h
  have HC := Aside0.mk hc
  clear hc
  cases c with
  | false =>
    rw [if_neg Bool.false_ne_true] at h'
    cases h'
    go_enter Try.func78, Try.ntmps78
    go_wp2_with (first
      | (go_at_call 30; refine (data_Check.calls _ _ _ _ _ HC.out).mono ?_; rintro e w1 ⟨rfl, hd1⟩; have bk := blk_below (blk_new w _) hd1; obtain ⟨⟨k0, k1, k2⟩, f0, f1, f2⟩ := data_split.facts bk; have bk := Aside0.mk bk; have hB1 := Aside0.mk ((below_alloc (Below.refl w.heap.size w) _).trans (hd1.mono (by simp only [World.alloc, Array.size_push]; omega))); clear hd1))
    refine bodyPost_ret (results_ct rfl _ _ w.heap.size 92 #[.string ⟨#[]⟩, .string ⟨#[]⟩, .slice none 0 0] (0, 0) _ rfl (data_split.three (w := w) (B := 0) bk.out).1 Try.underlying92 rfl (by kernel_rfl)) rfl ?_
    exact ⟨_, rfl, Kd.R_nil _ _ _ _ _, (data_split.three bk.out).2.1 hB1.out (Nat.le_refl _)⟩
  | true =>
    replace h' : (match data_Expand.shp a0 with | some s => data_read.f k a1 0 (a1.size : Int) s.1 s.2.1 s.2.2 | none => some (a1, ⟨#[]⟩, [], true)) = some (r1, r2, r3, r4) := h'
    cases hsh : data_Expand.shp a0 with
    | none =>
      rw [hsh] at h'
      cases h'
      have hfn : Mi.fnd a0 data_shapes.tab = none := by rw [data_Expand.fnd_shp, hsh]; rfl
      go_enter Try.func78, Try.ntmps78
      go_wp2_with (first
        | (go_at_call 30; refine (data_Check.calls _ _ _ _ _ HC.out).mono ?_; rintro e w1 ⟨rfl, hd1⟩; have bk := blk_below (blk_new w _) hd1; obtain ⟨⟨k0, k1, k2⟩, f0, f1, f2⟩ := data_split.facts bk; have bk := Aside0.mk bk; have hB1 := Aside0.mk ((below_alloc (Below.refl w.heap.size w) _).trans (hd1.mono (by simp only [World.alloc, Array.size_push]; omega))); clear hd1)
        | (go_at_call 72; refine (data_shapes.calls _).mono ?_; rintro e w2 ⟨g, rfl, hin⟩; clear k0 k1 k2 f0 f1 f2; have hl := Mi.look (P := Try.prog) hin.at_ 89 3 87 Try.underlying89 Try.underlying3 _ (Try.zeroValue87 w2) a0; rw [hfn] at hl; replace hl := show _ = Result.ok (Value.tuple #[.agg #[.int .i64 0, .int .i64 0, .int .i64 0], .bool false]) w2 from hl; have hB2 := Aside0.mk (hB1.out.trans (hin.bel.mono hB1.out.size)); have bk := Aside0.mk (blk_alloc (blk_below bk.out hin.bel) (.cells #[.int .i64 0, .int .i64 0, .int .i64 0] 87 (0, 0))); obtain ⟨⟨k0, k1, k2⟩, f0, f1, f2⟩ := data_split.facts bk.out; clear hin))
      refine bodyPost_ret (results_ct rfl _ _ w.heap.size 92 #[.string a1, .string ⟨#[]⟩, .slice none 0 0] (0, 0) _ rfl (data_split.three (w := w) (B := 0) bk.out).1 Try.underlying92 rfl (by kernel_rfl)) rfl ?_
      exact ⟨_, rfl, Kd.R_nil _ _ _ _ _, (data_split.three bk.out).2.1 (below_alloc hB2.out _) (Nat.le_refl _)⟩
    | some s =>
      obtain ⟨s0, s1, s2⟩ := s
      rw [hsh] at h'
      have hp := Aside0.mk (show data_read.f k a1 0 (a1.size : Int) s0 s1 s2 = some (r1, r2, r3, r4) from h')
      clear h'
      have hfn : Mi.fnd a0 data_shapes.tab = some (data_shapes.agg s0 s1 s2) := by rw [data_Expand.fnd_shp, hsh]; rfl
      go_enter Try.func78, Try.ntmps78
      go_wp2_with (first
        | (go_at_call 30; refine (data_Check.calls _ _ _ _ _ HC.out).mono ?_; rintro e w1 ⟨rfl, hd1⟩; have bk := blk_below (blk_new w _) hd1; obtain ⟨⟨k0, k1, k2⟩, f0, f1, f2⟩ := data_split.facts bk; have bk := Aside0.mk bk; have hB1 := Aside0.mk ((below_alloc (Below.refl w.heap.size w) _).trans (hd1.mono (by simp only [World.alloc, Array.size_push]; omega))); clear hd1)
        | (go_at_call 72; refine (data_shapes.calls _).mono ?_; rintro e w2 ⟨g, rfl, hin⟩; clear k0 k1 k2 f0 f1 f2; have hl := Mi.look (P := Try.prog) hin.at_ 89 3 87 Try.underlying89 Try.underlying3 _ (Try.zeroValue87 w2) a0; rw [hfn] at hl; replace hl := show _ = Result.ok (Value.tuple #[.agg #[.int .i64 s0, .int .i64 s1, .int .i64 s2], .bool true]) w2 from hl; have hB2 := Aside0.mk (hB1.out.trans (hin.bel.mono hB1.out.size)); have bk := Aside0.mk (blk_alloc (blk_below bk.out hin.bel) (.cells #[.int .i64 s0, .int .i64 s1, .int .i64 s2] 87 (0, 0))); obtain ⟨⟨k0, k1, k2⟩, f0, f1, f2⟩ := data_split.facts bk.out; clear hin)
        | (go_at_call 73; refine (data_read.calls _ _ _ _ _ _ _ _ _ _ _ _ hp.out).mono ?_; rintro e w3 ⟨v, rfl, hv, hb3⟩; clear k0 k1 k2 f0 f1 f2; obtain ⟨vA, vn, vc, rfl⟩ := data_Expand.slc hv; have hB3 := Aside0.mk ((below_alloc hB2.out _).trans (hb3.mono (by have := hB2.out.size; simp only [World.alloc, Array.size_push]; omega))); have hv := Aside0.mk (Kd.R_lower hv (by have := hB2.out.size; simp only [World.alloc, Array.size_push]; omega : w.heap.size ≤ _)); have bk := Aside0.mk (blk_below bk.out hb3); obtain ⟨⟨k0, k1, k2⟩, f0, f1, f2⟩ := data_split.facts bk.out; clear hb3))
      refine bodyPost_ret (results_ct rfl _ _ w.heap.size 92 #[.string r1, .string r2, .slice vA vn vc] (0, 0) _ rfl (data_split.three (w := w) (B := 0) bk.out).1 Try.underlying92 rfl (by kernel_rfl)) rfl ?_
      exact ⟨_, rfl, (data_split.three (w := w) (B := 0) bk.out).2.2 _ _ _ _ hv.out, (data_split.three bk.out).2.1 hB3.out (Nat.le_refl _)⟩

/-! ### data_Names: function 33 -/
def data_Names.f (k : Nat) (a0 : Int) (a1 : ByteArray) : Option (List ByteArray) := (data_split.f k a0 a1).bind fun bt117 => (some bt117.2.2.1)
theorem data_Names.mono : ∀ a0 a1 k, LeO (data_Names.f k a0 a1) (data_Names.f (k + 1) a0 a1) := by
 intro a0 a1 k
 unfold data_Names.f
 repeat' first
   | (with_reducible exact data_split.mono _ _ _)
   | (with_reducible exact LeO.refl _)
   | (with_reducible exact LeO.none _)
   | (with_reducible refine LeO.ite ?_ ?_)
   | (with_reducible refine LeO.bind ?_ (fun _ => ?_))
   | exact data_split.mono _ _ _
   | exact LeO.none _
   | refine LeO.ite ?_ ?_
   | refine LeO.bind ?_ (fun _ => ?_)
set_option maxHeartbeats 8000000 in
set_option maxRecDepth 100000 in
theorem data_Names.calls (k : Nat) (a0 : Int) (a1 : ByteArray) (r : List ByteArray) (w : World) (h : data_Names.f k a0 a1 = some r) :
  Calls Try.prog 33 #[.int .i64 a0, .string a1] w fun e w' => ∃ v0_ : Value, e = .returned (v0_) ∧ Kd.R Kd.string 9 w' w.heap.size (fun _ => True) v0_ r ∧ Below w.heap.size w w' := by
 have hu92 := Try.underlying92
 have HB := Aside0.mk (Below.refl w.heap.size w)
 have H : ((data_split.f k a0 a1).bind fun bt117 => (some bt117.2.2.1)) = some r := h
 clear h
 replace H := Option.bind_eq_some_iff.mp H
 obtain ⟨⟨t117, t118, t119, t122⟩, A30, H⟩ := H
 replace H : (some t119) = some r := H
 have A3 := Aside0.mk A30
 clear A30
 obtain rfl := Option.some.inj H
 go_enter Try.func33, Try.ntmps33
 go_wp2_with (first | ((with_reducible refine gate_callee (f := 78) rfl ?_); refine goesL_ (some 10) rfl rfl Try.func78 (by kernel_rfl) rfl #[.int .i64 a0, .string a1] rfl (by (try simp only [List.map_toArray, List.map_cons, List.map_nil]); first | done | rfl | (simp only [List.length_drop, List.length_take]; rfl) | (simp only [ByteArray.size_append, Int.natCast_add]; rfl) | (rw [Go.Proofs.Ytdkkanpbcifkfaa.B.w64] <;> first | rfl | omega | (simp only [decide_eq_false_iff_not, decide_eq_true_eq, Int.not_lt, Nat.not_lt, gt_iff_lt] at * <;> omega))) ?_; (with_reducible refine (data_split.calls k a0 a1 t117 t118 t119 t122 _ A3.out).mono ?_); rintro e w4 ⟨v120, rfl, ho0, hb⟩; refine ⟨_, rfl, ?_⟩; have n0_ := Aside0.mk (Kd.R_lower ho0 (below_size (by repeat (first | (with_reducible first | exact HB.out | apply below_alloc | apply pw_below_drewN | apply below_drew1) | exact HB.out)))); have n1_ := Aside0.mk (below_step (by repeat (first | (with_reducible first | exact HB.out | apply below_alloc | apply pw_below_drewN | apply below_drew1) | exact HB.out)) hb); clear HB; have HO121 := n0_; have HB := n1_; clear n0_ n1_; (try clear hb); (try clear hb2); (try clear hk); (try clear hi); (try clear ho0)) | ((with_reducible refine gate_dst (N := 5) rfl ?_); refine box_event ?hg (N := 5) ?hd (cs := #[.string (⟨#[]⟩ : ByteArray), .string (⟨#[]⟩ : ByteArray), .slice none 0 0]) (t := 92) ?hr ?_; (case hd => rfl); (case hg => rfl); (case hr => first | (go_simp; done) | (go_simp; rfl)); intro gb123 hg w5 hbox hb; have n0_ := Aside0.mk (Kd.R_below (by (with_reducible repeat (first | apply Kd.R_alloc | apply Kd.R_drewN | apply Kd.R_drew)); exact HO121.out) hb); have n1_ := Aside0.mk (below_step (by repeat (first | (with_reducible first | exact HB.out | apply below_alloc | apply pw_below_drewN | apply below_drew1) | exact HB.out)) hb); have n2_ := Aside0.mk (hbox); have n3_ := Aside0.mk ((by rw [hg]; exact (below_size (by repeat (first | (with_reducible first | exact HB.out | apply below_alloc | apply pw_below_drewN | apply below_drew1) | exact HB.out))) : w.heap.size ≤ gb123)); have n4_ := Aside0.mk ((by rw [hg]; exact (below_size (by repeat (first | (with_reducible first | exact HB.out | apply below_alloc | apply pw_below_drewN | apply below_drew1) | exact HB.out))) : w.heap.size ≤ gb123)); clear HO121; clear HB; have HO121 := n0_; have HB := n1_; have BK123 := n2_; have GW123 := n3_; have GE123 := n4_; clear n0_ n1_ n2_ n3_ n4_; clear hb hbox hg; have hcz6_0 : w5.cell? ⟨gb123, 0, none⟩ = some (.string (⟨#[]⟩ : ByteArray)) := (blk_cell BK123.out 0).trans rfl; have hcz6_1 : w5.cell? ⟨gb123, 1, none⟩ = some (.string (⟨#[]⟩ : ByteArray)) := (blk_cell BK123.out 1).trans rfl; have hcz6_2 : w5.cell? ⟨gb123, 2, none⟩ = some (.slice none 0 0) := (blk_cell BK123.out 2).trans rfl; have hfz6_0 := blk_frozen BK123.out 0; have hfz6_1 := blk_frozen BK123.out 1; have hfz6_2 := blk_frozen BK123.out 2; obtain ⟨Ao7, co7, eo7⟩ := Kd.R_slice HO121.out; subst eo7))
 go_ret
 exact ⟨_, by first | rfl | (simp [errW_none, errW_some] <;> rfl) | (simp [*, errW_none, errW_some] <;> rfl), by (with_reducible repeat (first | apply Kd.R_alloc | apply Kd.R_drewN | apply Kd.R_drew)); exact Kd.R_mono (Kd.R_far (p := ⟨gb123, 2, none⟩) (Kd.R_far (p := ⟨gb123, 1, none⟩) (Kd.R_far (p := ⟨gb123, 0, none⟩) (Kd.R_types HO121.out BK123.out (by decide)) (fun _ hk => hk.2) (.string t117)) (fun _ hk => hk.2) (.string t118)) (fun _ hk => hk.2) (.slice Ao7 t119.length co7)) (fun _ hk => trivial), by repeat (first | (with_reducible first | exact HB.out | apply below_alloc | apply pw_below_drewN | apply below_drew1 | refine below_set ?_ GE123.out) | exact HB.out)⟩

-- GIVENPART Derived.Deep.RegionHeld3
/-! ### data_Low: function 35 -/
/-- Each of the names in small letters. -/
def data_Low.all (k : Nat) : List ByteArray → Option (List ByteArray)
  | [] => some []
  | x :: l => (name_Low.f k x).bind fun y => (data_Low.all k l).bind fun m => some (y :: m)
def data_Low.fin (p1 p2 : ByteArray) (m : List ByteArray) : Option ByteArray :=
  if p1.size + (strings_Join.cat m).size + p2.size ≤ 140737488355328 then (if m.length ≤ 1000000 then some (p1 ++ strings_Join.cat m ++ p2) else none) else none
def data_Low.f (k : Nat) (a0 : Int) (a1 : ByteArray) : Option ByteArray :=
  (data_split.f k a0 a1).bind fun p => (data_Low.all k p.2.2.1).bind fun m => data_Low.fin p.1 p.2.1 m
theorem data_Low.mono_all (k : Nat) : ∀ l, LeO (data_Low.all k l) (data_Low.all (k + 1) l)
  | [] => LeO.refl _
  | x :: l => by
    rw [data_Low.all, data_Low.all]
    exact LeO.bind (name_Low.mono x k) fun y => LeO.bind (data_Low.mono_all k l) fun m => LeO.refl _
theorem data_Low.mono : ∀ a0 a1 k, LeO (data_Low.f k a0 a1) (data_Low.f (k + 1) a0 a1) := by
  intro a0 a1 k
  unfold data_Low.f
  exact LeO.bind (data_split.mono a0 a1 k) fun p => LeO.bind (data_Low.mono_all k _) fun m => LeO.refl _
theorem data_Low.all_length {k : Nat} : ∀ {l m : List ByteArray}, data_Low.all k l = some m → m.length = l.length
  | [], m, h => by cases h; rfl
  | x :: l, m, h => by
    rw [data_Low.all] at h
    obtain ⟨y, _, h⟩ := Option.bind_eq_some_iff.mp h
    obtain ⟨m', h', h⟩ := Option.bind_eq_some_iff.mp h
    cases h
    rw [List.length_cons, List.length_cons, data_Low.all_length h']
set_option maxHeartbeats 8000000 in
set_option maxRecDepth 100000 in
theorem data_Low.calls (k : Nat) (a0 : Int) (a1 : ByteArray) (r : ByteArray) (w : World) (h : data_Low.f k a0 a1 = some r) :
    Calls Try.prog 35 #[.int .i64 a0, .string a1] w fun e w' => e = .returned (.string r) ∧ Below w.heap.size w w' := by
  obtain ⟨⟨p1, p2, l, p4⟩, hp, h'⟩ := Option.bind_eq_some_iff.mp h
  clear h
  obtain ⟨m, hm, h'⟩ := Option.bind_eq_some_iff.mp h'
  replace hm : data_Low.all k l = some m := hm
  replace h' : data_Low.fin p1 p2 m = some r := h'
  have hml := data_Low.all_length hm
  have HP := Aside0.mk hp
  have HM := Aside0.mk hm
  have HF := Aside0.mk h'
  have HL := Aside0.mk hml
  clear hp hm h' hml
  go_enter Try.func35, Try.ntmps35
  go_wp2_with (first
    | (go_at_call 78; refine (data_split.calls _ _ _ _ _ _ _ _ HP.out).mono ?_; rintro e w1 ⟨v, rfl, hv, hb1⟩; obtain ⟨vA, vn, vc, rfl⟩ := data_Expand.slc hv; obtain ⟨rfl, _, hcc⟩ := Kd.R_reads' hv; have hmx := Aside0.mk (Kd.C_max hcc); clear hcc; have hv2 := Aside0.mk (Kd.R_alloc hv (.cells #[.string p1, .string p2, .slice vA l.length vc] 92 (0, 0))); have hb2 := Aside0.mk (below_alloc hb1 (.cells #[.string p1, .string p2, .slice vA l.length vc] 92 (0, 0))); have bk2 := Aside0.mk (blk_new w1 (.cells #[.string p1, .string p2, .slice vA l.length vc] 92 (0, 0))); have hge := Aside0.mk hb1.size; clear hv hb1))
  generalize hw1 : w1.alloc (.cells #[.string p1, .string p2, .slice vA l.length vc] 92 (0, 0)) = w2 at *
  generalize hg : w1.heap.size = g at *
  clear hw1 hg
  go_loopw [18] (fun v18 wr => ∃ (j : Nat) (cur : List ByteArray), v18 = .int .i64 j ∧ j ≤ l.length ∧ Aside0 (cur.length = l.length ∧ ∃ mm, data_Low.all k (cur.drop j) = some mm ∧ m = cur.take j ++ mm) ∧ Aside0 (wr.heap[g]? = some (.cells #[.string p1, .string p2, .slice vA l.length vc] 92 (0, 0))) ∧ Aside0 (Kd.R Kd.string 9 wr w.heap.size (fun _ => True) (.slice vA l.length vc) cur) ∧ Aside0 (Below w.heap.size w wr)) (fun v18 _ => l.length - (intOf v18).toNat)
  case atStart => exact ⟨0, l, rfl, Nat.zero_le _, ⟨rfl, m, HM.out, rfl⟩, bk2, hv2, hb2⟩
  case round =>
    clear HM hv2 hb2 bk2
    obtain ⟨j, cur, rfl, hj, hc, bk, hR, hB⟩ := hrel
    by_cases hlt : j < l.length
    · obtain ⟨hcl, mm, hmm, hmt⟩ := hc.out
      have hjc : j < cur.length := by omega
      rw [List.drop_eq_getElem_cons hjc, data_Low.all] at hmm
      obtain ⟨y, hy, hmm⟩ := Option.bind_eq_some_iff.mp hmm
      obtain ⟨m', hm', hmm⟩ := Option.bind_eq_some_iff.mp hmm
      obtain rfl : mm = y :: m' := (Option.some.inj hmm).symm
      have hnew := Aside0.mk (show (cur.set j y).length = l.length ∧ ∃ mm, data_Low.all k ((cur.set j y).drop (j + 1)) = some mm ∧ m = (cur.set j y).take (j + 1) ++ mm from by
        refine ⟨by rw [List.length_set]; exact hcl, m', ?_, ?_⟩
        · rw [List.drop_set_of_lt (by omega)]; exact hm'
        · have e : (cur.set j y).take (j + 1) = cur.take j ++ [y] := by
            rw [List.take_succ_eq_append_getElem (by rw [List.length_set]; exact hjc), List.getElem_set_self, List.take_set_of_le (Nat.le_refl j)]
          rw [hmt, e, List.append_assoc]; rfl)
      obtain ⟨gr, cap, e0, _, _, cells, hcells⟩ := Kd.R_form hR.out (by omega)
      injection e0 with e1 e2 e3
      subst e1 e3
      have hne := Aside0.mk (show g ≠ gr from blk_ne bk.out hcells (by decide))
      have hxc := Kd.R_celln ByteArray.empty hR.out (j : Int) (by omega) (by omega)
      have hxe : rdOf ByteArray.empty cur (j : Int) = cur[j] := by
        unfold rdOf
        rw [Int.toNat_natCast, List.getD_eq_getElem?_getD, List.getElem?_eq_getElem hjc]
        rfl
      rw [hxe, Int.toNat_natCast] at hxc
      have HY := Aside0.mk hy
      have c0 := hxc.1
      have c1 := (data_split.facts bk.out).1.2.2
      have hlt2 := Aside0.mk hlt
      have p0 : (0 ≤ (j : Int)) = True := eq_true (by omega)
      have q0 : ((j : Int) < (l.length : Int)) = True := eq_true (by omega)
      generalize cur[j] = x at *
      clear hmm hm' hmt hy hxe hxc hcells hc e2 hlt hjc hcl
      go_wp2
      go_region_with (first | (go_at_call 79; refine (name_Low.calls _ _ _ _ HY.out).mono ?_; rintro e w3 ⟨rfl, hb3⟩; have bk3 := blk_below (blk_drew bk.out) hb3; have hR3 := Kd.R_below (Kd.R_drew hR.out) hb3; have hB3 := Aside0.mk ((below_drew hB.out).trans (hb3.mono hB.out.size)); have d0 := (Kd.R_celln ByteArray.empty hR3 (j : Int) (by omega) (by have := hlt2.out; omega)).1; have d1 := (Kd.R_celln ByteArray.empty hR3 (j : Int) (by omega) (by have := hlt2.out; omega)).2; rw [Int.toNat_natCast] at d0 d1; have d2 := (data_split.facts bk3).1.2.2; have bk3 := Aside0.mk bk3; have hR3 := Aside0.mk hR3; clear hb3))
      all_goals
        have hfin := Kd.R_putg hR3.out (j : Int) y
        rw [Int.toNat_natCast] at hfin
        have bk4 := Aside0.mk (blk_far (p := ⟨gr, j, none⟩) bk3.out hne.out (.string y))
        have hR4 := Aside0.mk hfin.1
        have hB4 := Aside0.mk (hB3.out.grown hfin.2 hB3.out.size (fun k e => by cases e; exact Kd.R_base hR3.out gr rfl))
        clear hfin
        generalize w3.setCell ⟨gr, j, none⟩ (.string y) = w4 at *
        clear c0 c1 d0 d1 d2 p0 q0
        have hw := (show wrap64 ((j : Int) + 1) = ((j + 1 : Nat) : Int) from by have hlt := hlt2.out; have hm9 := hmx.out; rw [B.w64 (by omega) (by omega)]; omega)
        have hw := Aside0.mk hw
        go_wp2
        go_roundw
        case rel => have hlt := hlt2.out; have hm9 := hmx.out; exact ⟨j + 1, cur.set j y, by rw [hw.out], hlt2.out, hnew, bk4, hR4, hB4⟩
        case measure => have hlt := hlt2.out; have hm9 := hmx.out; rw [hw.out]; simp only [intOf]; omega
    · obtain rfl : j = l.length := by omega
      have hcm : m = cur := by
        obtain ⟨hcl, mm, hmm, hmt⟩ := hc.out
        rw [← hcl, List.drop_length] at hmm
        cases hmm
        rw [hmt, ← hcl, List.take_length, List.append_nil]
      subst hcm
      have q0 : ((l.length : Int) < (l.length : Int)) = False := eq_false (by omega)
      obtain ⟨⟨k0, k1, k2⟩, _, _, _⟩ := data_split.facts bk.out
      have hF := HF.out
      unfold data_Low.fin at hF
      by_cases z1 : p1.size + (strings_Join.cat m).size + p2.size ≤ 140737488355328
      · rw [if_pos z1] at hF
        by_cases z2 : m.length ≤ 1000000
        · rw [if_pos z2] at hF
          obtain rfl := Option.some.inj hF
          have z1 := Aside0.mk z1
          have z2 := Aside0.mk z2
          clear hF HF
          go_wp2_with (first
            | (go_at_call 74; refine (data_parts_whole.calls _ _ _ m _ _ _ hR.out z2.out z1.out).mono ?_; rintro e w4 ⟨rfl, hb4⟩; have hB4 := Aside0.mk (hB.out.trans (hb4.mono hB.out.size)); clear hb4))
          go_ret
          exact ⟨rfl, hB4.out⟩
        · rw [if_neg z2] at hF; cases hF
      · rw [if_neg z1] at hF; cases hF

end Go.Proofs.Ytdkkanpbcifkfaa.ZQ

-- Written by a program of this session (wip/tools/myprint.py), over the kit's printer; Lean checks it.
import Derived.Test.YtdkkanpbcifkfaaZQ0
import Derived.Test.YtdkkanpbcifkfaaZQ3
import Derived.Test.YtdkkanpbcifkfaaZQ4
import Derived.Test.YtdkkanpbcifkfaaZQ6
import Derived.Test.YtdkkanpbcifkfaaZBld
import Derived.Test.YtdkkanpbcifkfaaZOct
namespace Go.Proofs.Ytdkkanpbcifkfaa.ZQ
open Go.RowKit Go.Proofs.YtdkkanpbcifkfaaW.PrintWords Go.Proofs.YtdkkanpbcifkfaaW.PrintLast Go.Proofs.YtdkkanpbcifkfaaW.PrintMore
attribute [local go_sem] max2_int min2_int max_two min_two max_three min_three max_four min_four   -- for this text's walks alone
set_option linter.unusedVariables false
set_option linter.unusedSimpArgs false

-- GIVENPART Derived.Test.YtdkkanpbcifkfaaZBld Derived.Test.YtdkkanpbcifkfaaZOct
/-! ### comp_reader_follow: function 58 -/
/-- The reader's cells. -/
def comp_reader_follow.cs (msg : ByteArray) (i l n : Int) (p v : Value) : Array Value := #[.string msg, .int .i64 i, .int .i64 l, .int .i64 n, p, v]
/-- A reader in block g. -/
def comp_reader_follow.Rd (B0 g : Nat) (msg : ByteArray) (i l n : Int) (t : ByteArray) (w : World) : Prop :=
  ∃ p v, B.BAt 73 5 B0 g 4 (comp_reader_follow.cs msg i l n p v) p v (Lib.strCells t) w
theorem comp_reader_follow.Rd.cells {B0 g : Nat} {msg : ByteArray} {i l n : Int} {t : ByteArray} {w : World} (h : comp_reader_follow.Rd B0 g msg i l n t w) :
    w.cell? ⟨g, 0, none⟩ = some (.string msg) ∧ w.cell? ⟨g, 1, none⟩ = some (.int .i64 i) ∧ w.cell? ⟨g, 2, none⟩ = some (.int .i64 l) ∧ w.cell? ⟨g, 3, none⟩ = some (.int .i64 n) ∧
    w.frozen? ⟨g, 1, none⟩ = false ∧ w.frozen? ⟨g, 2, none⟩ = false ∧ w.frozen? ⟨g, 3, none⟩ = false := by
  obtain ⟨p, v, h⟩ := h
  exact ⟨by rw [Lib.cell_of_heap h.blk]; rfl, by rw [Lib.cell_of_heap h.blk]; rfl, by rw [Lib.cell_of_heap h.blk]; rfl, by rw [Lib.cell_of_heap h.blk]; rfl, Lib.frozen_of_heap h.blk 1, Lib.frozen_of_heap h.blk 2, Lib.frozen_of_heap h.blk 3⟩
theorem comp_reader_follow.Rd.base {B0 g : Nat} {msg : ByteArray} {i l n : Int} {t : ByteArray} {w : World} (h : comp_reader_follow.Rd B0 g msg i l n t w) : B0 ≤ g ∧ g < w.heap.size := by
  obtain ⟨p, v, h⟩ := h
  exact ⟨h.base, h.lt⟩
theorem comp_reader_follow.Rd.drewN {B0 g : Nat} {msg : ByteArray} {i l n : Int} {t : ByteArray} {w : World} (h : comp_reader_follow.Rd B0 g msg i l n t w) (m : Nat) : comp_reader_follow.Rd B0 g msg i l n t (w.drewN m) := by
  obtain ⟨p, v, h⟩ := h
  exact ⟨p, v, h.drewN m⟩
theorem comp_reader_follow.Rd.set1 {B0 g : Nat} {msg : ByteArray} {i l n : Int} {t : ByteArray} {w : World} (h : comp_reader_follow.Rd B0 g msg i l n t w) (x : Int) : comp_reader_follow.Rd B0 g msg x l n t (w.setCell ⟨g, 1, none⟩ (.int .i64 x)) := by
  obtain ⟨p, v, h⟩ := h
  exact ⟨p, v, h.set 1 _ (by omega) (by omega)⟩
theorem comp_reader_follow.Rd.set2 {B0 g : Nat} {msg : ByteArray} {i l n : Int} {t : ByteArray} {w : World} (h : comp_reader_follow.Rd B0 g msg i l n t w) (x : Int) : comp_reader_follow.Rd B0 g msg i x n t (w.setCell ⟨g, 2, none⟩ (.int .i64 x)) := by
  obtain ⟨p, v, h⟩ := h
  exact ⟨p, v, h.set 2 _ (by omega) (by omega)⟩
theorem comp_reader_follow.Rd.set3 {B0 g : Nat} {msg : ByteArray} {i l n : Int} {t : ByteArray} {w : World} (h : comp_reader_follow.Rd B0 g msg i l n t w) (x : Int) : comp_reader_follow.Rd B0 g msg i l x t (w.setCell ⟨g, 3, none⟩ (.int .i64 x)) := by
  obtain ⟨p, v, h⟩ := h
  exact ⟨p, v, h.set 3 _ (by omega) (by omega)⟩
set_option maxHeartbeats 2000000 in
set_option maxRecDepth 100000 in
theorem comp_reader_follow.cut (B0 g : Nat) (msg : ByteArray) (i l n : Int) (t : ByteArray) (w : World) (h : comp_reader_follow.Rd B0 g msg i l n t w) (hs : msg.size ≤ 140737488355328) (hg : ¬ okGet msg i 2) :
    Calls Try.prog 58 #[.pointer (some ⟨g, 0, none⟩)] w fun e w' => e = .returned (.int .i64 2) ∧ comp_reader_follow.Rd B0 g msg i l n t w' ∧ Below B0 w w' := by
  have hget := get_eq 9 (Nat.le_refl _) msg i 2 (by omega)
  rw [if_neg hg] at hget
  have hget' := Aside0.mk hget
  obtain ⟨c0, c1, c2, c3, f1, f2, f3⟩ := h.cells
  have hR := Aside0.mk h
  clear hget h hs hg
  go_enter Try.func58, Try.ntmps58
  go_wp2
  go_quiet ((go_at_call 56; exact Calls.quiet_of ((octet_Get.calls 9 msg i 2 _ _ _ hget'.out).mono fun _ _ h => ⟨h.1, h.2.out⟩)))
  go_wp2
  go_ret
  exact ⟨rfl, hR.out.drewN _, pw_below_drewN (Below.refl B0 w) _⟩
set_option maxHeartbeats 2000000 in
set_option maxRecDepth 100000 in
theorem comp_reader_follow.name (B0 g : Nat) (msg : ByteArray) (i l n : Int) (t : ByteArray) (w : World) (h : comp_reader_follow.Rd B0 g msg i l n t w) (hs : msg.size ≤ 140737488355328) (hg : okGet msg i 2) (hl : l ≤ getN 2 msg i - 49152) :
    Calls Try.prog 58 #[.pointer (some ⟨g, 0, none⟩)] w fun e w' => e = .returned (.int .i64 3) ∧ comp_reader_follow.Rd B0 g msg i l n t w' ∧ Below B0 w w' := by
  have hget := get_eq 9 (Nat.le_refl _) msg i 2 (by omega)
  rw [if_pos hg] at hget
  have hr := getN_range 2 msg i
  have hget' := Aside0.mk (show octet_Get.f 9 msg i 2 = some (getN 2 msg i, true) from hget)
  obtain ⟨c0, c1, c2, c3, f1, f2, f3⟩ := h.cells
  have hR := Aside0.mk h
  generalize getN 2 msg i = q at hget' hr hl
  have hb0 : 0 ≤ q := hr.1
  have hb1 : q ≤ 65535 := by have := hr.2; simp at this; omega
  have d1 : decide (l ≤ q - 49152) = true := decide_eq_true hl
  clear hget h hs hg hr hl
  go_enter Try.func58, Try.ntmps58
  go_wp2
  go_quiet ((go_at_call 56; exact Calls.quiet_of ((octet_Get.calls 9 msg i 2 _ _ _ hget'.out).mono fun _ _ h => ⟨h.1, h.2.out⟩)))
  go_wp2
  go_ret
  exact ⟨rfl, hR.out.drewN _, pw_below_drewN (Below.refl B0 w) _⟩
set_option maxHeartbeats 2000000 in
set_option maxRecDepth 100000 in
theorem comp_reader_follow.ok (B0 g : Nat) (msg : ByteArray) (i l n : Int) (t : ByteArray) (w : World) (h : comp_reader_follow.Rd B0 g msg i l n t w) (hs : msg.size ≤ 140737488355328) (hg : okGet msg i 2) (hl : getN 2 msg i - 49152 < l) (n' : Int) (hn0 : Aside0 (n' = if n = -1 then i + 2 else n)) :
    Calls Try.prog 58 #[.pointer (some ⟨g, 0, none⟩)] w fun e w' => e = .returned (.int .i64 0) ∧ comp_reader_follow.Rd B0 g msg (getN 2 msg i - 49152) (getN 2 msg i - 49152) n' t w' ∧ Below B0 w w' := by
  have hget := get_eq 9 (Nat.le_refl _) msg i 2 (by omega)
  rw [if_pos hg] at hget
  have hr := getN_range 2 msg i
  have hget' := Aside0.mk (show octet_Get.f 9 msg i 2 = some (getN 2 msg i, true) from hget)
  obtain ⟨c0, c1, c2, c3, f1, f2, f3⟩ := h.cells
  have hR := Aside0.mk h
  have hi0 := hg.1
  have hi1 : i ≤ 140737488355328 := by have := hg.2.2.2; omega
  have hB := Aside0.mk h.base.1
  generalize getN 2 msg i = q at hget' hr hl ⊢
  have hb0 : 0 ≤ q := hr.1
  have hb1 : q ≤ 65535 := by have := hr.2; simp at this; omega
  have d1 : decide (l ≤ q - 49152) = false := decide_eq_false (by omega)
  by_cases hn : n = -1
  · subst hn
    have e' := hn0.out
    rw [if_pos rfl] at e'
    subst e'
    clear hn0
    have hR1 := Aside0.mk (((hR.out.set3 (i + 2)).set1 (q - 49152)).set2 (q - 49152))
    have hBl := Aside0.mk ((((Below.refl B0 w).setCell (p := ⟨g, 3, none⟩) hB.out (.int .i64 (i + 2))).setCell (p := ⟨g, 1, none⟩) hB.out (.int .i64 (q - 49152))).setCell (p := ⟨g, 2, none⟩) hB.out (.int .i64 (q - 49152)))
    clear hget h hs hg hr hl hR
    go_enter Try.func58, Try.ntmps58
    go_wp2
    go_quiet ((go_at_call 56; exact Calls.quiet_of ((octet_Get.calls 9 msg i 2 _ _ _ hget'.out).mono fun _ _ h => ⟨h.1, h.2.out⟩)))
    go_wp2
    go_ret
    exact ⟨rfl, hR1.out.drewN _, pw_below_drewN hBl.out _⟩
  · have e' := hn0.out
    have d2 : (n == -1) = false := by simpa using hn
    rw [if_neg hn] at e'
    subst e'
    clear hn0
    have hR1 := Aside0.mk ((hR.out.set1 (q - 49152)).set2 (q - 49152))
    have hBl := Aside0.mk (((Below.refl B0 w).setCell (p := ⟨g, 1, none⟩) hB.out (.int .i64 (q - 49152))).setCell (p := ⟨g, 2, none⟩) hB.out (.int .i64 (q - 49152)))
    clear hget h hs hg hr hl hR hn
    go_enter Try.func58, Try.ntmps58
    go_wp2
    go_quiet ((go_at_call 56; exact Calls.quiet_of ((octet_Get.calls 9 msg i 2 _ _ _ hget'.out).mono fun _ _ h => ⟨h.1, h.2.out⟩)))
    go_wp2
    go_ret
    exact ⟨rfl, hR1.out.drewN _, pw_below_drewN hBl.out _⟩

-- GIVENPART Derived.Test.YtdkkanpbcifkfaaZBld Derived.Test.YtdkkanpbcifkfaaZOct
/-! ### comp_reader_end: function 57 -/
theorem comp_reader_end.str (B0 g : Nat) (msg : ByteArray) (i l n : Int) (t : ByteArray) (w : World) (h : comp_reader_follow.Rd B0 g msg i l n t w) (hw : B0 ≤ w.heap.size) :
    Calls Try.prog 88 #[.pointer (some ⟨g, 4, none⟩)] w fun e w' => e = .returned (.string t) ∧ (w'.cell? ⟨g, 3, none⟩ = some (.int .i64 n)) ∧ Below B0 w w' := by
  have hc := h.cells.2.2.2.1
  obtain ⟨p, v, h⟩ := h
  refine (strings_Builder_String.any _ B0 g 4 _ p v t w h hw).mono ?_
  rintro e w' ⟨rfl, hk, hb⟩
  exact ⟨rfl, by rw [(hk ⟨g, 3, none⟩ rfl).1]; exact hc, hb⟩
set_option maxHeartbeats 4000000 in
set_option maxRecDepth 100000 in
theorem comp_reader_end.any (B0 g : Nat) (msg : ByteArray) (i l n : Int) (t : ByteArray) (w : World) (h : comp_reader_follow.Rd B0 g msg i l n t w) (hw : B0 ≤ w.heap.size) (ht : t.size ≤ 140737488355328) (hi : 0 ≤ i) (hi2 : i ≤ 140737488355328)
    (n' : Int) (hn0 : Aside0 (n' = if n = -1 then i + 1 else n)) :
    Calls Try.prog 57 #[.pointer (some ⟨g, 0, none⟩)] w fun e w' => e = .returned (.tuple #[.string (t ++ (⟨#[0]⟩ : ByteArray)), .int .i64 n', .int .i64 0]) ∧ Below B0 w w' := by
  obtain ⟨c0, c1, c2, c3, f1, f2, f3⟩ := h.cells
  have hR := Aside0.mk h
  have hB := Aside0.mk h.base.1
  have hw' := Aside0.mk hw
  have ht1 : (t.size + 1 ≤ 9223372036854775807) = True := eq_true (by omega)
  have ht2 : (9223372036854775807 < t.size + 1) = False := eq_false (by omega)
  have ht3 : decide (t.size + 1 ≤ 9223372036854775807) = true := decide_eq_true (by omega)
  by_cases hn : n = -1
  · subst hn
    have e' := hn0.out
    rw [if_pos rfl] at e'
    subst e'
    clear hn0
    have hR1 := Aside0.mk (hR.out.set3 (i + 1))
    have hc3 := hR1.out.cells.2.2.2.1
    have hBl := Aside0.mk ((Below.refl B0 w).setCell (p := ⟨g, 3, none⟩) hB.out (.int .i64 (i + 1)))
    have hsz := Aside0.mk (show B0 ≤ (w.setCell ⟨g, 3, none⟩ (.int .i64 (i + 1))).heap.size by have := hBl.out.size; omega)
    clear h hw hR ht hB hw'
    go_enter Try.func57, Try.ntmps57
    go_wp2
    generalize w.setCell ⟨g, 3, none⟩ (.int .i64 (i + 1)) = w1 at *
    clear c0 c1 c2 c3 f1 f2 f3
    go_region_with (go_at_call 88; refine (comp_reader_end.str B0 g msg i l (i + 1) t _ (by first | exact hR1.out | exact hR1.out.drewN 1 | exact hR1.out.drewN _) (by first | exact hsz.out | (simp; exact hsz.out))).mono ?_; rintro e w' ⟨rfl, hk3, hb⟩; have hb' := Aside0.mk hb; clear hb)
    all_goals
      go_wp2
      go_ret3
      exact ⟨rfl, by first | exact hBl.out.trans hb'.out | exact (below_drew hBl.out).trans hb'.out | exact below_drew (hBl.out.trans hb'.out) | exact hBl.out.trans (below_drew hb'.out)⟩
  · have e' := hn0.out
    have d2 : (n == -1) = false := by simpa using hn
    rw [if_neg hn] at e'
    subst e'
    clear hn0
    clear h hw ht hB
    go_enter Try.func57, Try.ntmps57
    go_wp2
    clear c0 c1 c2 f1 f2 f3
    go_region_with (go_at_call 88; refine (comp_reader_end.str B0 g msg i l n' t _ (by first | exact hR.out | exact hR.out.drewN 1 | exact hR.out.drewN _) (by first | exact hw'.out | (simp; exact hw'.out))).mono ?_; rintro e w' ⟨rfl, hk3, hb⟩; have hb' := Aside0.mk hb; clear hb)
    all_goals
      go_wp2
      go_ret3
      exact ⟨rfl, by first | exact hb'.out | exact (below_drew (Below.refl B0 w)).trans hb'.out | exact below_drew hb'.out⟩

-- GIVENPART Derived.Test.YtdkkanpbcifkfaaZBld Derived.Test.YtdkkanpbcifkfaaZOct
/-! ### comp_reader_label: function 59 -/
set_option maxHeartbeats 4000000 in
set_option maxRecDepth 100000 in
theorem comp_reader_label.cut (B0 g : Nat) (msg : ByteArray) (i l n z : Int) (t : ByteArray) (w : World) (h : comp_reader_follow.Rd B0 g msg i l n t w) (hs : msg.size ≤ 140737488355328) (hz0 : 0 ≤ z) (hz1 : z ≤ 255) (hg : ¬ okTake msg i (1 + z)) :
    Calls Try.prog 59 #[.pointer (some ⟨g, 0, none⟩), .int .i64 z] w fun e w' => e = .returned (.int .i64 2) ∧ comp_reader_follow.Rd B0 g msg i l n t w' ∧ Below B0 w w' := by
  have hget := take_eq msg i (1 + z) (by omega)
  rw [if_neg hg] at hget
  have hget' := Aside0.mk hget
  obtain ⟨c0, c1, c2, c3, f1, f2, f3⟩ := h.cells
  have hR := Aside0.mk h
  clear hget h hs hg
  go_enter Try.func59, Try.ntmps59
  go_wp2
  go_quiet ((go_at_call 71; exact Calls.quiet_of ((octet_Take.calls msg i (1 + z) _ _ _ hget'.out).mono fun _ _ h => ⟨h.1, h.2.out⟩)))
  go_wp2
  go_ret
  exact ⟨rfl, hR.out.drewN _, pw_below_drewN (Below.refl B0 w) _⟩
theorem comp_reader_label.len (B0 g : Nat) (msg : ByteArray) (i l n : Int) (t : ByteArray) (w : World) (h : comp_reader_follow.Rd B0 g msg i l n t w) :
    Calls Try.prog 89 #[.pointer (some ⟨g, 4, none⟩)] w fun e w' => e = .returned (.int .i64 t.size) ∧ w = w' := by
  obtain ⟨p, v, h⟩ := h
  have := strings_Builder_Len.any _ B0 g 4 _ p v _ w h
  rw [Lib.strCells_length] at this
  exact this
theorem comp_reader_label.lies : liesAt Try.prog Try.prog.depth 73 (6 / Try.prog.cellsOf 73) 4 71 1 = true := by kernel_rfl
theorem comp_reader_label.write (B0 g : Nat) (msg : ByteArray) (i l n : Int) (t s : ByteArray) (w : World) (h : comp_reader_follow.Rd B0 g msg i l n t w) (hlen : t.size + s.size ≤ 140737488355328) (hBw : B0 ≤ w.heap.size) :
    Calls Try.prog 90 #[.pointer (some ⟨g, 4, none⟩), .string s] w fun e w' => e = .returned (.tuple #[.int .i64 s.size, .nilIface]) ∧ comp_reader_follow.Rd B0 g msg i l n (t ++ s) w' ∧ Below B0 w w' := by
  obtain ⟨p, v, h⟩ := h
  refine (strings_Builder_WriteString.any _ B0 g 4 _ p v t s w h comp_reader_label.lies (by decide) hlen hBw).mono ?_
  rintro e w' ⟨rfl, ⟨v', h'⟩, hb⟩
  exact ⟨rfl, ⟨_, v', h'⟩, hb⟩
set_option maxHeartbeats 4000000 in
set_option maxRecDepth 100000 in
theorem comp_reader_label.name (B0 g : Nat) (msg : ByteArray) (i l n z : Int) (t : ByteArray) (w : World) (h : comp_reader_follow.Rd B0 g msg i l n t w) (hs : msg.size ≤ 140737488355328) (hz0 : 0 ≤ z) (hz1 : z ≤ 255) (hg : okTake msg i (1 + z)) (ht : t.size ≤ 140737488355328) (hl : 255 ≤ (t.size : Int) + (1 + z)) :
    Calls Try.prog 59 #[.pointer (some ⟨g, 0, none⟩), .int .i64 z] w fun e w' => e = .returned (.int .i64 3) ∧ comp_reader_follow.Rd B0 g msg i l n t w' ∧ Below B0 w w' := by
  have hget := take_eq msg i (1 + z) (by omega)
  rw [if_pos hg] at hget
  have hsz := B.size_ext hg.1 hg.2.1 hg.2.2
  have hget' := Aside0.mk hget
  obtain ⟨c0, c1, c2, c3, f1, f2, f3⟩ := h.cells
  have hR := Aside0.mk h
  generalize msg.extract i.toNat (i + (1 + z)).toNat = lb at *
  have hlb : lb.size ≤ 256 := by omega
  have d1 : decide (255 ≤ (t.size : Int) + (lb.size : Int)) = true := decide_eq_true (by omega)
  have d2 : decide (255 ≤ t.size + lb.size) = true := decide_eq_true (by omega)
  clear hget h hs hg hsz hl
  go_enter Try.func59, Try.ntmps59
  go_wp2
  go_quiet ((go_at_call 71; exact Calls.quiet_of ((octet_Take.calls msg i (1 + z) _ _ _ hget'.out).mono fun _ _ h => ⟨h.1, h.2.out⟩)))
  go_wp2_with (go_at_call 89; refine (comp_reader_label.len B0 g msg i l n t _ (hR.out.drewN _)).mono ?_; rintro e w' ⟨rfl, rfl⟩)
  go_ret
  exact ⟨rfl, hR.out.drewN _, pw_below_drewN (Below.refl B0 w) _⟩
set_option maxHeartbeats 4000000 in
set_option maxRecDepth 100000 in
theorem comp_reader_label.ok (B0 g : Nat) (msg : ByteArray) (i l n z : Int) (t : ByteArray) (w : World) (h : comp_reader_follow.Rd B0 g msg i l n t w) (hw : B0 ≤ w.heap.size) (hs : msg.size ≤ 140737488355328) (hz0 : 0 ≤ z) (hz1 : z ≤ 255) (hg : okTake msg i (1 + z)) (hl : (t.size : Int) + (1 + z) < 255) :
    Calls Try.prog 59 #[.pointer (some ⟨g, 0, none⟩), .int .i64 z] w fun e w' => e = .returned (.int .i64 0) ∧ comp_reader_follow.Rd B0 g msg (i + (1 + z)) l n (t ++ msg.extract i.toNat (i + (1 + z)).toNat) w' ∧ Below B0 w w' := by
  have hget := take_eq msg i (1 + z) (by omega)
  rw [if_pos hg] at hget
  have hsz := B.size_ext hg.1 hg.2.1 hg.2.2
  have hget' := Aside0.mk hget
  obtain ⟨c0, c1, c2, c3, f1, f2, f3⟩ := h.cells
  have hR := Aside0.mk h
  have hi0 := hg.1
  have hi1 : i ≤ 140737488355328 := by have := hg.2.2; omega
  have hB := Aside0.mk h.base.1
  generalize msg.extract i.toNat (i + (1 + z)).toNat = lb at *
  have hlb : lb.size ≤ 256 := by omega
  have htb : t.size ≤ 256 := by omega
  have d1 : decide (255 ≤ (t.size : Int) + (lb.size : Int)) = false := decide_eq_false (by omega)
  have d2 : decide (255 ≤ t.size + lb.size) = false := decide_eq_false (by omega)
  have hsum := Aside0.mk (show i + (lb.size : Int) = i + (1 + z) by omega)
  have hw' := Aside0.mk hw
  clear hget h hs hg hsz hl hw
  go_enter Try.func59, Try.ntmps59
  go_wp2
  go_quiet ((go_at_call 71; exact Calls.quiet_of ((octet_Take.calls msg i (1 + z) _ _ _ hget'.out).mono fun _ _ h => ⟨h.1, h.2.out⟩)))
  go_wp2_with (first | (go_at_call 89; refine (comp_reader_label.len B0 g msg i l n t _ (hR.out.drewN _)).mono ?_; rintro e w' ⟨rfl, rfl⟩) | (go_at_call 90; refine (comp_reader_label.write B0 g msg i l n t lb _ (hR.out.drewN _) (by omega) (by simpa using hw'.out)).mono ?_))
  rintro e w1 ⟨rfl, hR1, hb1⟩
  obtain ⟨e0, e1, e2, e3, g1, g2, g3⟩ := hR1.cells
  have hR2 := Aside0.mk (hR1.set1 (i + (1 + z)))
  rw [← hsum.out] at hR2
  have hBl := Aside0.mk ((pw_below_drewN (Below.refl B0 w) _).trans (hb1.setCell (p := ⟨g, 1, none⟩) hB.out (.int .i64 (i + (lb.size : Int)))))
  clear hR1 hb1 c0 c1 c2 c3 f1 f2 f3
  go_wp2
  go_ret
  exact ⟨rfl, by rw [← hsum.out]; exact hR2.out, hBl.out⟩

-- GIVENPART Derived.Test.YtdkkanpbcifkfaaZBld Derived.Test.YtdkkanpbcifkfaaZOct
/-! ### comp_Read: function 21 -/
/-- Reading a name: msg, place, the bound of pointers, the place behind (-1: not yet known), what was read. -/
def comp_Read.l : Nat → ByteArray → Int → Int → Int → ByteArray → Option (ByteArray × Int × Int)
  | 0, _, _, _, _, _ => none
  | k + 1, msg, i, least, next, t =>
    if okGet msg i 1 then
      (if bt msg i = 0 then some (t ++ (⟨#[0]⟩ : ByteArray), (if next = -1 then i + 1 else next), 0)
      else if 192 ≤ bt msg i then
        (if okGet msg i 2 then
          (if getN 2 msg i - 49152 ≥ least then some (⟨#[]⟩, 0, 3)
          else comp_Read.l k msg (getN 2 msg i - 49152) (getN 2 msg i - 49152) (if next = -1 then i + 2 else next) t)
        else some (⟨#[]⟩, 0, 2))
      else if 63 < bt msg i then some (⟨#[]⟩, 0, 3)
      else if okTake msg i (1 + bt msg i) then
        (if (t.size : Int) + (1 + bt msg i) ≥ 255 then some (⟨#[]⟩, 0, 3)
        else comp_Read.l k msg (i + (1 + bt msg i)) least next (t ++ msg.extract i.toNat (i + (1 + bt msg i)).toNat))
      else some (⟨#[]⟩, 0, 2))
    else some (⟨#[]⟩, 0, 2)
def comp_Read.f (k : Nat) (a0 : ByteArray) (a1 : Int) : Option (ByteArray × Int × Int) := if a0.size ≤ 140737488355328 then comp_Read.l k a0 a1 a1 (-1) ⟨#[]⟩ else none
theorem comp_Read.mono_l : ∀ k m i l n t, LeO (comp_Read.l k m i l n t) (comp_Read.l (k + 1) m i l n t)
  | 0, _, _, _, _, _ => fun r h => by simp [comp_Read.l] at h
  | k + 1, m, i, l, n, t => by
    have ih := comp_Read.mono_l k
    rw [comp_Read.l, comp_Read.l]
    repeat' first
      | (with_reducible exact ih _ _ _ _ _)
      | (with_reducible exact LeO.refl _)
      | (with_reducible refine LeO.ite ?_ ?_)
theorem comp_Read.mono : ∀ a0 a1 k, LeO (comp_Read.f k a0 a1) (comp_Read.f (k + 1) a0 a1) := by
  intro a0 a1 k
  unfold comp_Read.f
  exact LeO.ite (comp_Read.mono_l k _ _ _ _ _) (LeO.refl _)
theorem comp_Read.get1 (msg : ByteArray) (i : Int) (hs : msg.size ≤ 140737488355328) (hg : okGet msg i 1) : octet_Get.f 9 msg i 1 = some (bt msg i, true) := by
  have h := get_eq 9 (Nat.le_refl _) msg i 1 (by omega)
  rw [if_pos hg] at h
  rw [h]
  congr 1
  exact congrArg (·, true) (getN_one msg i)
theorem comp_Read.start (w : World) (msg : ByteArray) (i : Int) :
    comp_reader_follow.Rd w.heap.size w.heap.size msg i i (-1) ⟨#[]⟩ (w.alloc (.cells #[.string msg, .int .i64 i, .int .i64 i, .int .i64 (-1), .pointer none, .slice none 0 0] 73)) :=
  ⟨.pointer none, .slice none 0 0, Nat.le_refl _, heap_alloc_new w _, rfl, rfl, .inl rfl, World.ownsRow_nil _ _ _ _, by simp [Value.ownBlock]⟩
/-- The loop's state: on its way, or failed with x. -/
def comp_Read.St (R : ByteArray × Int × Int) (B0 g : Nat) (msg : ByteArray) (k : Nat) (x : Int) (w : World) : Prop :=
  (x = 0 ∧ ∃ i l n t, comp_reader_follow.Rd B0 g msg i l n t w ∧ comp_Read.l k msg i l n t = some R ∧ t.size ≤ 255) ∨ (x ≠ 0 ∧ R = (⟨#[]⟩, 0, x))
set_option maxHeartbeats 16000000 in
set_option maxRecDepth 100000 in
theorem comp_Read.calls (k : Nat) (a0 : ByteArray) (a1 : Int) (r1 : ByteArray) (r2 r3 : Int) (w : World) (h : comp_Read.f k a0 a1 = some (r1, r2, r3)) :
    Calls Try.prog 21 #[.string a0, .int .i64 a1] w fun e w' => e = .returned (.tuple #[.string r1, .int .i64 r2, .int .i64 r3]) ∧ Below w.heap.size w w' := by
  unfold comp_Read.f at h
  by_cases hs : a0.size ≤ 140737488355328
  · rw [if_pos hs] at h
    have hR := Aside0.mk (comp_Read.start w a0 a1)
    have hB := Aside0.mk (below_alloc (Below.refl w.heap.size w) (.cells #[.string a0, .int .i64 a1, .int .i64 a1, .int .i64 (-1), .pointer none, .slice none 0 0] 73))
    have hH := Aside0.mk h
    have hsz := Aside0.mk hs
    clear h hs
    go_enter Try.func21, Try.ntmps21
    go_wp2
    go_step3
    go_wp2
    go_step3
    go_wp2
    have hSt := Aside0.mk (show comp_Read.St (r1, r2, r3) w.heap.size w.heap.size a0 k 0 _ from .inl ⟨rfl, a1, a1, -1, ⟨#[]⟩, hR.out, hH.out, by decide⟩)
    clear hR hH
    generalize w.alloc (.cells #[.string a0, .int .i64 a1, .int .i64 a1, .int .i64 (-1), .pointer none, .slice none 0 0] 73) = w1 at hSt hB ⊢
    generalize hgg : w.heap.size = g at hSt hB ⊢
    have hg' := Aside0.mk hgg
    clear hgg
    go_loopg [8] k (fun kq v8 wr => ∃ x : Int, v8 = .int .i64 x ∧ Aside0 (comp_Read.St (r1, r2, r3) g g a0 kq x wr) ∧ Aside0 (kq ≤ k) ∧ Aside0 (Below g w wr))
    case atStart => exact ⟨0, rfl, hSt, ⟨Nat.le_refl _⟩, hB⟩
    case round =>
      clear hSt hB
      obtain ⟨x, rfl, HS, HK, HB⟩ := hrel
      rcases HS.out with ⟨hx, i, l, n, t, hR0, hH0, ht0⟩ | ⟨hx, hR⟩
      · subst hx
        clear HS
        cases gk with
        | zero => exact absurd hH0 (by simp [comp_Read.l])
        | succ k2 =>
          have hR := Aside0.mk hR0
          have m0 := hR0.cells.1
          have m1 := hR0.cells.2.1
          have hsz' := hsz.out
          have hBs := Aside0.mk (show g ≤ wr.heap.size by have := hR0.base.2; omega)
          have ht := Aside0.mk ht0
          rw [comp_Read.l] at hH0
          clear hR0 ht0
          by_cases hg : okGet a0 i 1
          · rw [if_pos hg] at hH0
            have hget := Aside0.mk (comp_Read.get1 a0 i hsz' hg)
            have hi0 := hg.1
            have hi1 : i ≤ 140737488355328 := by have := hg.2.2.2; omega
            have hii := Aside0.mk (And.intro hi0 hi1)
            have hbr := bt_range a0 i
            clear hi0 hi1 hsz' hg
            by_cases c1 : bt a0 i = 0
            · rw [if_pos c1] at hH0
              rw [c1] at hget
              simp only [Option.some.injEq, Prod.mk.injEq] at hH0
              obtain ⟨rfl, h2, rfl⟩ := hH0
              have h2' := Aside0.mk h2.symm
              clear c1 hbr h2
              go_wp2
              go_quiet ((go_at_call 56; exact Calls.quiet_of ((octet_Get.calls 9 a0 i 1 _ _ _ hget.out).mono fun _ _ h => ⟨h.1, h.2.out⟩)))
              go_wp2_with (go_at_call 57; refine (comp_reader_end.any g g a0 i l n t _ (hR.out.drewN _) (by simpa using hBs.out) (by have := ht.out; omega) hii.out.1 hii.out.2 r2 h2').mono ?_; rintro e w' ⟨rfl, hb⟩)
              (try rw [Exit.noGoto_ret])
              go_ret3
              exact ⟨rfl, by rw [hg'.out]; exact (pw_below_drewN HB.out _).trans hb⟩
            · rw [if_neg c1] at hH0
              have d1 : (bt a0 i == 0) = false := by simpa using c1
              by_cases c2 : 192 ≤ bt a0 i
              · rw [if_pos c2] at hH0
                have d2 : decide (192 ≤ bt a0 i) = true := decide_eq_true c2
                by_cases c3 : okGet a0 i 2
                · rw [if_pos c3] at hH0
                  by_cases c4 : getN 2 a0 i - 49152 ≥ l
                  · rw [if_pos c4] at hH0
                    simp only [Option.some.injEq, Prod.mk.injEq] at hH0
                    obtain ⟨rfl, rfl, rfl⟩ := hH0
                    have hF := fun (W : World) (hW : comp_reader_follow.Rd g g a0 i l n t W) => comp_reader_follow.name g g a0 i l n t W hW hsz.out c3 c4
                    have hF' := Aside0.mk hF
                    clear hF c1 c2 c3 c4 hbr
                    generalize bt a0 i = c at *
                    go_wp2
                    go_quiet ((go_at_call 56; exact Calls.quiet_of ((octet_Get.calls 9 a0 i 1 _ _ _ hget.out).mono fun _ _ h => ⟨h.1, h.2.out⟩)))
                    go_wp2_with (go_at_call 58; refine (hF'.out _ (hR.out.drewN _)).mono ?_; rintro e w' ⟨rfl, hR', hb⟩)
                    go_roundg k2
                    case measure => have := HK.out; omega
                    case rel => exact ⟨3, rfl, ⟨.inr ⟨by decide, rfl⟩⟩, ⟨by have := HK.out; omega⟩, ⟨(pw_below_drewN HB.out _).trans hb⟩⟩
                  · rw [if_neg c4] at hH0
                    have hF := fun (W : World) (hW : comp_reader_follow.Rd g g a0 i l n t W) => comp_reader_follow.ok g g a0 i l n t W hW hsz.out c3 (by omega) _ ⟨rfl⟩
                    have hF' := Aside0.mk hF
                    have hH1 := Aside0.mk hH0
                    clear hF c1 c2 c3 c4 hbr hH0
                    generalize bt a0 i = c at *
                    go_wp2
                    go_quiet ((go_at_call 56; exact Calls.quiet_of ((octet_Get.calls 9 a0 i 1 _ _ _ hget.out).mono fun _ _ h => ⟨h.1, h.2.out⟩)))
                    go_wp2_with (go_at_call 58; refine (hF'.out _ (hR.out.drewN _)).mono ?_; rintro e w' ⟨rfl, hR', hb⟩)
                    go_roundg k2
                    case measure => have := HK.out; omega
                    case rel => exact ⟨0, rfl, ⟨.inl ⟨rfl, _, _, _, _, hR', hH1.out, ht.out⟩⟩, ⟨by have := HK.out; omega⟩, ⟨(pw_below_drewN HB.out _).trans hb⟩⟩
                · rw [if_neg c3] at hH0
                  simp only [Option.some.injEq, Prod.mk.injEq] at hH0
                  obtain ⟨rfl, rfl, rfl⟩ := hH0
                  have hF := fun (W : World) (hW : comp_reader_follow.Rd g g a0 i l n t W) => comp_reader_follow.cut g g a0 i l n t W hW hsz.out c3
                  have hF' := Aside0.mk hF
                  clear hF c1 c2 c3 hbr
                  generalize bt a0 i = c at *
                  go_wp2
                  go_quiet ((go_at_call 56; exact Calls.quiet_of ((octet_Get.calls 9 a0 i 1 _ _ _ hget.out).mono fun _ _ h => ⟨h.1, h.2.out⟩)))
                  go_wp2_with (go_at_call 58; refine (hF'.out _ (hR.out.drewN _)).mono ?_; rintro e w' ⟨rfl, hR', hb⟩)
                  go_roundg k2
                  case measure => have := HK.out; omega
                  case rel => exact ⟨2, rfl, ⟨.inr ⟨by decide, rfl⟩⟩, ⟨by have := HK.out; omega⟩, ⟨(pw_below_drewN HB.out _).trans hb⟩⟩
              · rw [if_neg c2] at hH0
                have d2 : decide (192 ≤ bt a0 i) = false := decide_eq_false c2
                by_cases c3 : 63 < bt a0 i
                · rw [if_pos c3] at hH0
                  have d3 : decide (63 < bt a0 i) = true := decide_eq_true c3
                  simp only [Option.some.injEq, Prod.mk.injEq] at hH0
                  obtain ⟨rfl, rfl, rfl⟩ := hH0
                  clear c1 c2 c3 hbr
                  generalize bt a0 i = c at *
                  go_wp2
                  go_quiet ((go_at_call 56; exact Calls.quiet_of ((octet_Get.calls 9 a0 i 1 _ _ _ hget.out).mono fun _ _ h => ⟨h.1, h.2.out⟩)))
                  go_wp2
                  go_roundg k2
                  case measure => have := HK.out; omega
                  case rel => exact ⟨3, rfl, ⟨.inr ⟨by decide, rfl⟩⟩, ⟨by have := HK.out; omega⟩, ⟨pw_below_drewN HB.out _⟩⟩
                · rw [if_neg c3] at hH0
                  have d3 : decide (63 < bt a0 i) = false := decide_eq_false c3
                  by_cases c4 : okTake a0 i (1 + bt a0 i)
                  · rw [if_pos c4] at hH0
                    by_cases c5 : (t.size : Int) + (1 + bt a0 i) ≥ 255
                    · rw [if_pos c5] at hH0
                      simp only [Option.some.injEq, Prod.mk.injEq] at hH0
                      obtain ⟨rfl, rfl, rfl⟩ := hH0
                      have hF := fun (W : World) (hW : comp_reader_follow.Rd g g a0 i l n t W) => comp_reader_label.name g g a0 i l n (bt a0 i) t W hW hsz.out hbr.1 hbr.2 c4 (by have := ht.out; omega) c5
                      have hF' := Aside0.mk hF
                      clear hF c1 c2 c3 c4 c5 hbr
                      generalize bt a0 i = c at *
                      go_wp2
                      go_quiet ((go_at_call 56; exact Calls.quiet_of ((octet_Get.calls 9 a0 i 1 _ _ _ hget.out).mono fun _ _ h => ⟨h.1, h.2.out⟩)))
                      go_wp2_with (go_at_call 59; refine (hF'.out _ (hR.out.drewN _)).mono ?_; rintro e w' ⟨rfl, hR', hb⟩)
                      go_roundg k2
                      case measure => have := HK.out; omega
                      case rel => exact ⟨3, rfl, ⟨.inr ⟨by decide, rfl⟩⟩, ⟨by have := HK.out; omega⟩, ⟨(pw_below_drewN HB.out _).trans hb⟩⟩
                    · rw [if_neg c5] at hH0
                      have hF := fun (W : World) (hw : g ≤ W.heap.size) (hW : comp_reader_follow.Rd g g a0 i l n t W) => comp_reader_label.ok g g a0 i l n (bt a0 i) t W hW hw hsz.out hbr.1 hbr.2 c4 (by omega)
                      have hF' := Aside0.mk hF
                      have hH1 := Aside0.mk hH0
                      have hz := B.size_ext c4.1 c4.2.1 c4.2.2
                      have ht2 := Aside0.mk (show (t ++ a0.extract i.toNat (i + (1 + bt a0 i)).toNat).size ≤ 255 by rw [ByteArray.size_append]; omega)
                      clear hF c1 c2 c3 c4 c5 hbr hH0 hz
                      generalize bt a0 i = c at *
                      go_wp2
                      go_quiet ((go_at_call 56; exact Calls.quiet_of ((octet_Get.calls 9 a0 i 1 _ _ _ hget.out).mono fun _ _ h => ⟨h.1, h.2.out⟩)))
                      go_wp2_with (go_at_call 59; refine (hF'.out _ (by simpa using hBs.out) (hR.out.drewN _)).mono ?_; rintro e w' ⟨rfl, hR', hb⟩)
                      go_roundg k2
                      case measure => have := HK.out; omega
                      case rel => exact ⟨0, rfl, ⟨.inl ⟨rfl, _, _, _, _, hR', hH1.out, ht2.out⟩⟩, ⟨by have := HK.out; omega⟩, ⟨(pw_below_drewN HB.out _).trans hb⟩⟩
                  · rw [if_neg c4] at hH0
                    simp only [Option.some.injEq, Prod.mk.injEq] at hH0
                    obtain ⟨rfl, rfl, rfl⟩ := hH0
                    have hF := fun (W : World) (hW : comp_reader_follow.Rd g g a0 i l n t W) => comp_reader_label.cut g g a0 i l n (bt a0 i) t W hW hsz.out hbr.1 hbr.2 c4
                    have hF' := Aside0.mk hF
                    clear hF c1 c2 c3 c4 hbr
                    generalize bt a0 i = c at *
                    go_wp2
                    go_quiet ((go_at_call 56; exact Calls.quiet_of ((octet_Get.calls 9 a0 i 1 _ _ _ hget.out).mono fun _ _ h => ⟨h.1, h.2.out⟩)))
                    go_wp2_with (go_at_call 59; refine (hF'.out _ (hR.out.drewN _)).mono ?_; rintro e w' ⟨rfl, hR', hb⟩)
                    go_roundg k2
                    case measure => have := HK.out; omega
                    case rel => exact ⟨2, rfl, ⟨.inr ⟨by decide, rfl⟩⟩, ⟨by have := HK.out; omega⟩, ⟨(pw_below_drewN HB.out _).trans hb⟩⟩
          · rw [if_neg hg] at hH0
            have h := get_eq 9 (Nat.le_refl _) a0 i 1 (by omega)
            rw [if_neg hg] at h
            have hget := Aside0.mk h
            simp only [Option.some.injEq, Prod.mk.injEq] at hH0
            obtain ⟨rfl, rfl, rfl⟩ := hH0
            clear hg h hsz'
            go_wp2
            go_quiet ((go_at_call 56; exact Calls.quiet_of ((octet_Get.calls 9 a0 i 1 _ _ _ hget.out).mono fun _ _ h => ⟨h.1, h.2.out⟩)))
            go_wp2
            (try rw [Exit.noGoto_ret])
            go_ret3
            exact ⟨rfl, by rw [hg'.out]; exact pw_below_drewN HB.out _⟩
      · simp only [Prod.mk.injEq] at hR
        obtain ⟨rfl, rfl, rfl⟩ := hR
        have d1 : (r3 == 0) = false := by simpa using hx
        clear HS hx
        go_wp2
        (try rw [Exit.noGoto_ret])
        go_ret3
        exact ⟨rfl, by rw [hg'.out]; exact HB.out⟩
  · rw [if_neg hs] at h
    exact absurd h (by simp)

end Go.Proofs.Ytdkkanpbcifkfaa.ZQ

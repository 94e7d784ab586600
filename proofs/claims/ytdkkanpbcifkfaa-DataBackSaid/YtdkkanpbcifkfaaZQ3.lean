-- Written by a program of this session (wip/tools/myprint.py), over the kit's printer; Lean checks it.
import Derived.Test.YtdkkanpbcifkfaaZQ0
import Derived.Test.YtdkkanpbcifkfaaZBld
import Derived.Laws.Externs
import Derived.LaidEqlPtr
import Derived.WalkSpells
import Derived.Test.YtdkkanpbcifkfaaZLays
import Derived.Shelf.Strings.OnBuilder
namespace Go.Proofs.Ytdkkanpbcifkfaa.ZQ
open Go.RowKit Go.Proofs.YtdkkanpbcifkfaaW.PrintWords Go.Proofs.YtdkkanpbcifkfaaW.PrintLast Go.Proofs.YtdkkanpbcifkfaaW.PrintMore
attribute [local go_sem] max2_int min2_int max_two min_two max_three min_three max_four min_four   -- for this text's walks alone
set_option linter.unusedVariables false
set_option linter.unusedSimpArgs false

-- GIVENPART Derived.Test.YtdkkanpbcifkfaaZBld
/-! ### strings_Builder_String: function 88 -/
set_option maxHeartbeats 2000000 in
set_option maxRecDepth 100000 in
theorem strings_Builder_String.told (T : TypeId) (B0 b o : Nat) (cs : Array Value) (p v : Value) (l : List UInt8) (w : World) (h : B.BAt T 5 B0 b o cs p v (Lib.byteCells l) w) (h0 : l ≠ []) :
    Calls Try.prog 88 #[.pointer (some ⟨b, o, none⟩)] w fun e w' => e = .returned (.string ⟨l.toArray⟩) ∧ ∃ g, B0 ≤ g ∧ g ≠ b ∧ w' = w.drew.freeze ⟨g, 0, none⟩ l.length := by
  have hl0 : l.length ≠ 0 := by simpa using h0
  have hown := h.own
  rw [Lib.byteCells_length] at hown
  obtain ⟨g, cap, cur, rfl, hbg, hg, hnc, hcm, hcs, htake⟩ : ∃ g cap cur, v = .slice (some ⟨g, 0, none⟩) l.length cap ∧ B0 ≤ g ∧ w.heap[g]? = some (.cells cur 5 (0, 0)) ∧ l.length ≤ cap ∧ cap ≤ maxLen ∧ cur.size = cap * 1 ∧ cur.toList.take (l.length * 1) = Lib.byteCells l := by
    rcases hown.2 with ⟨_, hz⟩ | ⟨g, cap, cur, hv, r⟩
    · exact absurd hz hl0
    · exact ⟨g, cap, cur, hv, r⟩
  have hgb : g ≠ b := fun e => h.ne (by rw [e]; rfl)
  have c1 : w.drew.cell? ⟨b, o + 1, none⟩ = some (.slice (some ⟨g, 0, none⟩) l.length cap) := by
    have : w.drew.heap[b]? = some (.cells cs T (0, 0)) := h.blk
    rw [Lib.cell_of_heap this]; exact h.v_
  have hSD : (Builtin.unsafeSliceData_ #[69] 117 #[.slice (some ⟨g, 0, none⟩) l.length cap]).run Try.prog w.drew = .ok (.pointer (some ⟨g, 0, none⟩)) w.drew :=
    Lib.run_unsafeSliceData_row _ _ _ _ _ _ (by omega)
  have hUS : (Builtin.unsafeString_ #[117, 3] 9 #[.pointer (some ⟨g, 0, none⟩), .int .i64 l.length]).run Try.prog w.drew = .ok (.string ⟨l.toArray⟩) (w.drew.freeze ⟨g, 0, none⟩ l.length) := by
    refine Lib.run_unsafeString_row w.drew 117 3 9 5 Try.underlying117 (by kernel_rfl) g cur.size (by have hg' : w.drew.heap[g]? = some (.cells cur 5 (0, 0)) := hg; simp [World.shape?, hg']) l h0 (by omega) (by unfold maxLen at hcm; omega) ?_
    intro j x hx
    have := hown.cells (g := g) rfl j (.int .u8 x.toNat) (by simp [Lib.byteCells, hx])
    exact this
  have hbg' := Aside0.mk hbg
  have hgb' := Aside0.mk hgb
  clear hbg hgb h hown hg hnc hcm hcs htake hl0 h0
  go_enter Try.func88, Try.ntmps88
  go_wp2
  go_region
  all_goals (go_wp2; go_ret; exact ⟨rfl, _, hbg'.out, hgb'.out, rfl⟩)
/-- What is kept of a block: its cells, and which of them may be written. -/
def strings_Builder_String.Kept (b : Nat) (w w' : World) : Prop := ∀ a : Addr, a.block = b → w'.cell? a = w.cell? a ∧ w'.frozen? a = w.frozen? a
theorem strings_Builder_String.Kept.of_block {b : Nat} {w w' : World} (h : w'.heap[b]? = w.heap[b]?) : strings_Builder_String.Kept b w w' := by
  rintro a rfl
  exact ⟨World.cell?_of_block h, World.frozen?_of_block h⟩
theorem strings_Builder_String.unsafe0 (W : World) (q : Option Addr) : (Builtin.unsafeString_ #[117, 3] 9 #[.pointer q, .int .i64 0]).run Try.prog W = .ok (.string .empty) W :=
  Lib.run_unsafeString_none W _ _ _ q
set_option maxHeartbeats 2000000 in
set_option maxRecDepth 100000 in
theorem strings_Builder_String.of_nil (B0 b o : Nat) (w : World) (c1 : w.drew.cell? ⟨b, o + 1, none⟩ = some (.slice none 0 0)) :
    Calls Try.prog 88 #[.pointer (some ⟨b, o, none⟩)] w fun e w' => e = .returned (.string ⟨#[]⟩) ∧ strings_Builder_String.Kept b w w' ∧ Below B0 w w' := by
  have hUS := strings_Builder_String.unsafe0
  have hSD : (Builtin.unsafeSliceData_ #[69] 117 #[.slice none 0 0]).run Try.prog w.drew = .ok (.pointer none) w.drew := rfl
  go_enter Try.func88, Try.ntmps88
  go_wp2
  go_region
  all_goals (go_wp2; go_ret; exact ⟨rfl, strings_Builder_String.Kept.of_block rfl, Below.drew (Below.refl B0 w)⟩)
set_option maxHeartbeats 2000000 in
set_option maxRecDepth 100000 in
theorem strings_Builder_String.of_noroom (B0 b o g : Nat) (cur : Array Value) (w : World) (hBw : B0 ≤ w.heap.size) (hlt : b < w.heap.size) (c0 : w.cell? ⟨b, o + 1, none⟩ = some (.slice (some ⟨g, 0, none⟩) 0 0)) (hg : w.heap[g]? = some (.cells cur 5 (0, 0))) :
    Calls Try.prog 88 #[.pointer (some ⟨b, o, none⟩)] w fun e w' => e = .returned (.string ⟨#[]⟩) ∧ strings_Builder_String.Kept b w w' ∧ Below B0 w w' := by
  have hUS := strings_Builder_String.unsafe0
  have hSD : (Builtin.unsafeSliceData_ #[69] 117 #[.slice (some ⟨g, 0, none⟩) 0 0]).run Try.prog w.drew = .ok (.pointer (some ⟨w.drew.heap.size, 0, none⟩)) (w.drew.alloc (.view ⟨g, 0, none⟩ 5)) :=
    Lib.run_unsafeSliceData_zero w.drew _ _ 5 Try.underlying117 ⟨g, 0, none⟩ 0 (5, cur.size) (by have hg' : w.drew.heap[g]? = some (.cells cur 5 (0, 0)) := hg; simp [World.shape?, hg'])
  have hold : (w.drew.alloc (.view ⟨g, 0, none⟩ 5)).heap[b]? = w.heap[b]? := (Lib.alloc_old w.drew _ b hlt)
  have c2 : (w.drew.alloc (.view ⟨g, 0, none⟩ 5)).cell? ⟨b, o + 1, none⟩ = some (.slice (some ⟨g, 0, none⟩) 0 0) := by
    rw [World.cell?_of_block (w := w) (a := ⟨b, o + 1, none⟩) hold]; exact c0
  have c3 : (w.alloc (.view ⟨g, 0, none⟩ 5)).drew.cell? ⟨b, o + 1, none⟩ = some (.slice (some ⟨g, 0, none⟩) 0 0) := c2
  have hold' := Aside0.mk hold
  have hBw' := Aside0.mk hBw
  clear hold hBw hlt
  go_enter Try.func88, Try.ntmps88
  go_wp2
  go_region
  all_goals (go_wp2; go_ret; exact ⟨rfl, strings_Builder_String.Kept.of_block hold'.out, (Below.drew (Below.refl B0 w)).alloc hBw'.out _⟩)
set_option maxHeartbeats 2000000 in
set_option maxRecDepth 100000 in
theorem strings_Builder_String.of_room (B0 b o g cap : Nat) (w : World) (hc0 : cap ≠ 0) (c1 : w.drew.cell? ⟨b, o + 1, none⟩ = some (.slice (some ⟨g, 0, none⟩) 0 cap)) :
    Calls Try.prog 88 #[.pointer (some ⟨b, o, none⟩)] w fun e w' => e = .returned (.string ⟨#[]⟩) ∧ strings_Builder_String.Kept b w w' ∧ Below B0 w w' := by
  have hUS := strings_Builder_String.unsafe0
  have hSD : (Builtin.unsafeSliceData_ #[69] 117 #[.slice (some ⟨g, 0, none⟩) 0 cap]).run Try.prog w.drew = .ok (.pointer (some ⟨g, 0, none⟩)) w.drew :=
    Lib.run_unsafeSliceData_row _ _ _ _ _ _ hc0
  clear hc0
  go_enter Try.func88, Try.ntmps88
  go_wp2
  go_region
  all_goals (go_wp2; go_ret; exact ⟨rfl, strings_Builder_String.Kept.of_block rfl, Below.drew (Below.refl B0 w)⟩)
/-- String, whatever the builder holds. -/
theorem strings_Builder_String.any (T : TypeId) (B0 b o : Nat) (cs : Array Value) (p v : Value) (t : ByteArray) (w : World) (h : B.BAt T 5 B0 b o cs p v (Lib.strCells t) w) (hBw : B0 ≤ w.heap.size) :
    Calls Try.prog 88 #[.pointer (some ⟨b, o, none⟩)] w fun e w' => e = .returned (.string t) ∧ strings_Builder_String.Kept b w w' ∧ Below B0 w w' := by
  have c1 : ∀ W : World, W.heap = w.heap → W.cell? ⟨b, o + 1, none⟩ = some v := by
    intro W hW
    have : W.heap[b]? = some (.cells cs T (0, 0)) := by rw [hW]; exact h.blk
    rw [Lib.cell_of_heap this]; exact h.v_
  by_cases h0 : t.data.toList = []
  · have ht : t = ⟨#[]⟩ := ByteArray.ext (Array.toList_inj.mp h0)
    subst ht
    rcases h.own.2 with ⟨rfl, _⟩ | ⟨g, cap, cur, rfl, hbg, hg, _, _, _, _⟩
    · exact strings_Builder_String.of_nil B0 b o w (c1 _ rfl)
    · by_cases hc : cap = 0
      · subst hc
        exact strings_Builder_String.of_noroom B0 b o g cur w hBw h.lt (c1 _ rfl) hg
      · exact strings_Builder_String.of_room B0 b o g cap w hc (c1 _ rfl)
  · refine (strings_Builder_String.told T B0 b o cs p v t.data.toList w (by rw [← B.strCells_bytes]; exact h) h0).mono ?_
    rintro e w' ⟨rfl, g, h1, h2, rfl⟩
    refine ⟨rfl, strings_Builder_String.Kept.of_block ?_, Lib.below_freeze (Below.drew (Below.refl B0 w)) (p := ⟨g, 0, none⟩) h1 _⟩
    unfold World.freeze
    split
    · rfl
    · simp [Array.getElem?_modify, h2]
      rfl

-- GIVENPART Derived.Test.YtdkkanpbcifkfaaZBld
/-! ### strings_Builder_Len: function 89 -/
set_option maxHeartbeats 1000000 in
set_option maxRecDepth 100000 in
theorem strings_Builder_Len.any (T : TypeId) (B0 b o : Nat) (cs : Array Value) (p v : Value) (bs : List Value) (w : World) (h : B.BAt T 5 B0 b o cs p v bs w) :
    Calls Try.prog 89 #[.pointer (some ⟨b, o, none⟩)] w fun e w' => e = .returned (.int .i64 bs.length) ∧ w = w' := by
  obtain ⟨ao, cap, rfl⟩ : ∃ ao cap, v = .slice ao bs.length cap := by
    rcases h.own.2 with ⟨hv, h0⟩ | ⟨g, cap, cur, hv, _⟩
    · exact ⟨none, 0, by rw [hv, h0]⟩
    · exact ⟨_, _, hv⟩
  have c1 : w.cell? ⟨b, o + 1, none⟩ = some (.slice ao bs.length cap) := by rw [Lib.cell_of_heap h.blk]; exact h.v_
  clear h
  go_enter Try.func89, Try.ntmps89
  go_wp2
  go_ret
  exact ⟨rfl, rfl⟩

-- GIVENPART Derived.Test.YtdkkanpbcifkfaaZBld Derived.Laws.Externs Derived.LaidEqlPtr
/-! ### strings_Builder_copyCheck: function 101 -/
theorem strings_Builder_copyCheck.info : (Try.prog.info? 71).map (·.size) = some 2 := by kernel_rfl
set_option maxHeartbeats 1000000 in
set_option maxRecDepth 100000 in
theorem strings_Builder_copyCheck.used (b o : Nat) (w : World) (h0 : w.cell? ⟨b, o, none⟩ = some (.pointer (some ⟨b, o, none⟩))) :
    Calls Try.prog 101 #[.pointer (some ⟨b, o, none⟩)] w fun e w' => e = .returned (.tuple #[]) ∧ w' = w := by
  obtain ⟨j, hj, _⟩ := Option.map_eq_some_iff.1 strings_Builder_copyCheck.info
  go_enter Try.func101, Try.ntmps101
  go_wp2
  rw [Lib.run_neq_ptr_same w _ Try.underlying68 hj]
  go_wp2
  go_end0
  exact ⟨rfl, rfl⟩
set_option maxHeartbeats 1000000 in
set_option maxRecDepth 100000 in
theorem strings_Builder_copyCheck.fresh (b o : Nat) (T : TypeId) (n : Nat) (w : World) (h0 : w.cell? ⟨b, o, none⟩ = some (.pointer none)) (hsh : w.shape? b = some (T, n)) (hn : o < n)
    (hlies : liesAt Try.prog Try.prog.depth T (n / Try.prog.cellsOf T) o 71 1 = true) (hfz : w.frozen? ⟨b, o, none⟩ = false) :
    Calls Try.prog 101 #[.pointer (some ⟨b, o, none⟩)] w fun e w' => e = .returned (.tuple #[]) ∧ w' = w.setCell ⟨b, o, none⟩ (.pointer (some ⟨b, o, none⟩)) := by
  obtain ⟨j, hj, hjs⟩ := Option.map_eq_some_iff.1 strings_Builder_copyCheck.info
  have hjs' : j.size ≠ 0 := by rw [hjs]; decide
  clear hjs
  have hn' := Aside0.mk hn
  clear hn
  go_enter Try.func101, Try.ntmps101
  go_wp2
  rw [Lib.run_to_unsafe w ⟨b, o, none⟩ Try.underlying68 Try.underlying120 hj hjs' hsh hn'.out]
  simp only [Result.andThen]
  rw [Oper.upon_value]
  go_wp2
  rw [run_callFunc_extern Try.func105 (by kernel_rfl) (by kernel_rfl) (by kernel_rfl) (e := Extern.AbiNoEscape.same) (by kernel_rfl)]
  rw [Lib.run_noEscape]
  simp only [Result.andThen]
  rw [Oper.upon_value]
  go_wp2
  rw [Lib.run_from_unsafe w ⟨b, o, none⟩ Try.underlying120 Try.underlying68 hj hsh hlies]
  simp only [Result.andThen]
  rw [Oper.upon_value]
  go_wp2
  go_end0
  exact ⟨rfl, rfl⟩
theorem strings_Builder_copyCheck.any (T : TypeId) (B0 b o : Nat) (cs : Array Value) (p v : Value) (bs : List Value) (w : World) (h : B.BAt T 5 B0 b o cs p v bs w)
    (hlies : liesAt Try.prog Try.prog.depth T (cs.size / Try.prog.cellsOf T) o 71 1 = true) :
    Calls Try.prog 101 #[.pointer (some ⟨b, o, none⟩)] w fun e w' => e = .returned (.tuple #[]) ∧
      B.BAt T 5 B0 b o (cs.setIfInBounds o (.pointer (some ⟨b, o, none⟩))) (.pointer (some ⟨b, o, none⟩)) v bs w' ∧ Below B0 w w' := by
  have ho : o < cs.size := by
    rcases Nat.lt_or_ge o cs.size with h' | h'
    · exact h'
    · have := h.p_; rw [Array.getElem?_eq_none h'] at this; cases this
  have hsh : w.shape? b = some (T, cs.size) := by simp [World.shape?, h.blk]
  have hc : w.cell? ⟨b, o, none⟩ = some p := by rw [Lib.cell_of_heap h.blk]; exact h.p_
  rcases h.self with rfl | rfl
  · refine (strings_Builder_copyCheck.fresh b o T cs.size w hc hsh ho hlies (Lib.frozen_of_heap h.blk o)).mono ?_
    rintro e w' ⟨rfl, rfl⟩
    exact ⟨rfl, h.used, (Below.refl B0 w).setCell (p := ⟨b, o, none⟩) h.base _⟩
  · refine (strings_Builder_copyCheck.used b o w hc).mono ?_
    rintro e w' ⟨rfl, rfl⟩
    exact ⟨rfl, by rw [h.used_same]; exact h, Below.refl B0 _⟩

-- GIVENPART Derived.Test.YtdkkanpbcifkfaaZBld Derived.WalkSpells
/-! ### strings_Builder_WriteString: function 90 -/
theorem strings_Builder_WriteString.infoByte : (Try.prog.info? 5).map (fun i => (i.zero, i.size, i.bytes)) = some (some (.int .u8 0), 1, 1) := by kernel_rfl
set_option maxHeartbeats 2000000 in
set_option maxRecDepth 100000 in
theorem strings_Builder_WriteString.any (T : TypeId) (B0 b o : Nat) (cs : Array Value) (p v : Value) (t : ByteArray) (s : ByteArray) (w : World) (h : B.BAt T 5 B0 b o cs p v (Lib.strCells t) w)
    (hlies : liesAt Try.prog Try.prog.depth T (cs.size / Try.prog.cellsOf T) o 71 1 = true) (hT : T ≠ 5) (hlen : t.size + s.size ≤ 140737488355328) (hBw : B0 ≤ w.heap.size) :
    Calls Try.prog 90 #[.pointer (some ⟨b, o, none⟩), .string s] w fun e w' => e = .returned (.tuple #[.int .i64 s.size, .nilIface]) ∧
      (∃ v', B.BAt T 5 B0 b o ((cs.setIfInBounds o (.pointer (some ⟨b, o, none⟩))).setIfInBounds (o + 1) v') (.pointer (some ⟨b, o, none⟩)) v' (Lib.strCells (t ++ s)) w') ∧ Below B0 w w' := by
  obtain ⟨i0, hi, hz0, hz1, hz2⟩ := info_parts strings_Builder_WriteString.infoByte
  have hL := Lib.strCells_length t
  have hlies' := Aside0.mk hlies
  clear hlies
  have hC := Aside0.mk h
  clear h
  have hT' := Aside0.mk hT
  clear hT
  have hlen' := Aside0.mk hlen
  clear hlen
  go_enter Try.func90, Try.ntmps90
  go_wp2_with (go_at_call 101; refine (strings_Builder_copyCheck.any T B0 b o cs p v _ _ hC.out hlies'.out).mono ?_)
  rintro e w1 ⟨rfl, h1, hb1⟩
  have c1 : w1.cell? ⟨b, o + 1, none⟩ = some v := by rw [Lib.cell_of_heap h1.blk]; exact h1.v_
  have hown := h1.own
  go_wp2_with (at_builtin; refine Lib.wpList_append_own_string _ rfl _ _ 69 9 rfl B0 5 i0 Try.underlying69 Try.underlying9 hi hz0 hz1 hz2 _ _ _ rfl hown s rfl ?c3 ?c4 ?c5 ?_)
  case c3 => rw [hL]; unfold maxLen; have := hlen'.out; omega
  case c4 => rw [hL]; have := hlen'.out; omega
  case c5 => have := hb1.size; omega
  intro v' w2 hown' hgrow _
  have hlt := h1.lt
  have hb2 : w2.heap[b]? = some (.cells (cs.setIfInBounds o (.pointer (some ⟨b, o, none⟩))) T (0, 0)) := by
    rw [hgrow.block b hlt (fun e => h1.ne e.symm)]
    exact h1.blk
  have d1 : w2.cell? ⟨b, o + 1, none⟩ = some v := by rw [Lib.cell_of_heap hb2]; exact h1.v_
  have f1 : w2.frozen? ⟨b, o + 1, none⟩ = false := Lib.frozen_of_heap hb2 (o + 1)
  obtain ⟨ao, n', cap, rfl⟩ : ∃ ao n' cap, v' = .slice ao n' cap := by
    rcases hown'.2 with ⟨hv, _⟩ | ⟨g, cap, cur, hv, _⟩
    · exact ⟨_, _, _, hv⟩
    · exact ⟨_, _, _, hv⟩
  have hown2 : w2.ownsRow B0 5 1 (.slice ao n' cap) (Lib.strCells (t ++ s)).length (Lib.strCells (t ++ s)) := by
    rw [← B.strCells_append]
    simpa [Lib.strCells_length] using hown'
  have hput := Aside0.mk (h1.put hb2 hown2 hT'.out)
  have hbel := Aside0.mk ((hb1.grown hgrow (by have := hb1.size; omega) (fun k hk => (hown.lt k hk).1)).setCell (p := ⟨b, o + 1, none⟩) h1.base (.slice ao n' cap))
  clear hb2 hown2 hown' hgrow h1 hown hL hb1 c1
  go_wp2
  go_ret2
  exact ⟨rfl, ⟨_, hput.out⟩, hbel.out⟩

-- GIVENPART Derived.Test.YtdkkanpbcifkfaaZLays Derived.Shelf.Strings.OnBuilder
/-! ### strings_Join: function 95 -/
/-- Texts one behind the other. -/
def strings_Join.cat : List ByteArray → ByteArray
  | [] => ⟨#[]⟩
  | x :: l => x ++ strings_Join.cat l
theorem strings_Join.join_cat : ∀ l : List ByteArray, (⟨(Lib.join (l.map (·.data.toList)) (⟨#[]⟩ : ByteArray).data.toList).toArray⟩ : ByteArray) = strings_Join.cat l
  | [] => rfl
  | [x] => by
    rw [List.map_cons, List.map_nil, Lib.join_one]
    refine ByteArray.ext ?_
    simp [strings_Join.cat, ByteArray.data_append]
  | x :: y :: l => by
    have h := strings_Join.join_cat (y :: l)
    refine ByteArray.ext ?_
    rw [strings_Join.cat, ByteArray.data_append, ← h]
    simp [Lib.join, List.intercalate]
theorem strings_Join.calls (v : Value) (l : List ByteArray) (base : Nat) (ok : Nat → Prop) (w : World) (hr : Kd.R Kd.string 9 w base ok v l) (hl : l.length ≤ 1000000) (hz : (strings_Join.cat l).size ≤ 140737488355328) :
    Calls Try.prog 95 #[v, .string ⟨#[]⟩] w fun e w' => e = .returned (.string (strings_Join.cat l)) ∧ Below w.heap.size w w' := by
  have ho := Kd.own_of_R hr
  rcases ho.2 with ⟨rfl, h0⟩ | ⟨g, cap, cur, rfl, hg, hh, hc, _, _, ht⟩
  · obtain rfl := List.length_eq_zero_iff.mp h0
    exact (Any.strings_Join_none lays156 builderX156 none 0 ⟨#[]⟩ w).mono fun e w' ⟨he, hw⟩ => ⟨he, hw ▸ Below.refl _ _⟩
  · have hlt : g < w.heap.size := (Array.getElem?_eq_some_iff.1 hh).1
    have hcells : ∀ (j : Nat) x, l[j]? = some x → w.cell? ⟨g, 0 + j, none⟩ = some (.string x) := by
      intro j x hx
      have hj : j < l.length := (List.getElem?_eq_some_iff.1 hx).1
      have h := (Kd.R_cell ByteArray.empty hr (j : Int) (by omega) (by omega)).1
      rw [Nat.zero_add]
      rw [Int.toNat_natCast] at h
      rw [h]
      unfold rdOf
      rw [Int.toNat_natCast, List.getD_eq_getElem?_getD, hx]
      rfl
    have hlen : (Lib.join (l.map (·.data.toList)) (⟨#[]⟩ : ByteArray).data.toList).length ≤ 140737488355328 := by
      have h := congrArg ByteArray.size (strings_Join.join_cat l)
      rw [← h] at hz
      simpa [ByteArray.size] using hz
    refine (Any.strings_Join lays156 builderX156 g 0 cap l ⟨#[]⟩ w hcells hlt (by omega) hc hlen).mono fun e w' ⟨he, hw⟩ => ⟨?_, hw⟩
    rw [he, strings_Join.join_cat]

end Go.Proofs.Ytdkkanpbcifkfaa.ZQ

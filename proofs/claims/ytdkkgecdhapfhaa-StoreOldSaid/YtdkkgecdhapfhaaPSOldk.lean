/- A part of the proof of StoreOld: cut, joined and given short names by a program of this session (wip/tools/pack.py); Lean checks it. No condition. -/
import Derived.Test.YtdkkgecdhapfhaaProg
import Derived.Shelf.Strings.OnBuilder
import Derived.KernelRfl
import Derived.Test.YtdkkgecdhapfhaaPSOldj
import Derived.Laws.Externs
import Derived.LaidEqlPtr
import Derived.WalkSpells
import Derived.WideMake
import Derived.WalkKit
import Derived.Below
import Derived.Test.YtdkkgecdhapfhaaPSOldi
import Derived.Test.YtdkkgecdhapfhaaPSOldd
set_option linter.unusedSectionVars false
set_option linter.unusedSimpArgs false
set_option linter.unusedVariables false
namespace Go.Proofs.Ytdkkgecdhapfhaa.ZQ
open Go.Shelf Go.RowKit
set_option maxRecDepth 100000
def u7 : Go.Shelf.Ren := ⟨fun | 156 => 123 | 165 => 126 | 166 => 127 | 169 => 128 | 240 => 132 | 241 => 133 | 276 => 135 | 277 => 136 | n => n, fun | 0 => 0 | 3 => 3 | 4 => 4 | 5 => 5 | 9 => 9 | 20 => 20 | 31 => 33 | 37 => 119 | 70 => 164 | 72 => 166 | 75 => 169 | 76 => 170 | 80 => 151 | 127 => 178 | 164 => 179 | n => n, fun n => n⟩
theorem Gn : Lays.n156 Try.prog u7 where
  mixed := by kernel_rfl
  f156 := by kernel_rfl
  f165 := by kernel_rfl
  f166 := by kernel_rfl
  f169 := by kernel_rfl
  f240 := by kernel_rfl
  f241 := by kernel_rfl
  f276 := by kernel_rfl
  f277 := by kernel_rfl
  t0 := Try.underlying0
  a0 := Try.isAgg0
  z0 := Try.sizeOf0
  v0 := Try.zeroValue0
  t3 := Try.underlying3
  a3 := Try.isAgg3
  z3 := Try.sizeOf3
  v3 := Try.zeroValue3
  t4 := Try.underlying4
  a4 := Try.isAgg4
  z4 := Try.sizeOf4
  v4 := Try.zeroValue4
  t9 := Try.underlying9
  a9 := Try.isAgg9
  z9 := Try.sizeOf9
  v9 := Try.zeroValue9
  t20 := Try.underlying20
  a20 := Try.isAgg20
  z20 := Try.sizeOf20
  v20 := Try.zeroValue20
  t31 := Try.underlying33
  a31 := Try.isAgg33
  z31 := Try.sizeOf33
  v31 := Try.zeroValue33
  t37 := Try.underlying119
  a37 := Try.isAgg119
  z37 := Try.sizeOf119
  v37 := Try.zeroValue119
  t70 := Try.underlying164
  a70 := Try.isAgg164
  z70 := Try.sizeOf164
  v70 := Try.zeroValue164
  t72 := Try.underlying166
  a72 := Try.isAgg166
  z72 := Try.sizeOf166
  v72 := Try.zeroValue166
  t75 := Try.underlying169
  a75 := Try.isAgg169
  z75 := Try.sizeOf169
  v75 := Try.zeroValue169
  t76 := Try.underlying170
  a76 := Try.isAgg170
  z76 := Try.sizeOf170
  v76 := Try.zeroValue170
  t127 := Try.underlying178
  a127 := Try.isAgg178
  z127 := Try.sizeOf178
  v127 := Try.zeroValue178
  t164 := Try.underlying179
  a164 := Try.isAgg179
  z164 := Try.sizeOf179
  v164 := Try.zeroValue179
theorem vk : Builder.Extra Try.prog u7 where
  sizeBuilder := by kernel_rfl
  liesBuilder := by kernel_rfl
  t5 := Try.underlying5
  a5 := Try.isAgg5
  z5 := Try.sizeOf5
  v5 := Try.zeroValue5
  infoByte := by kernel_rfl
  cellsByte := by kernel_rfl
  sizeByte := by kernel_rfl
  neB5 := by decide
end Go.Proofs.Ytdkkgecdhapfhaa.ZQ
namespace Go.Proofs.Ytdkkgecdhapfhaa.ZQ
open Go.RowKit Go.Proofs.YtdkkgecdhapfhaaW.bD Go.Proofs.YtdkkgecdhapfhaaW.dV Go.Proofs.YtdkkgecdhapfhaaW.eF
attribute [local go_sem] jh ji j3 j4 iC iD jk jl
theorem cB.info : (Try.prog.info? 166).map (·.size) = some 2 := by kernel_rfl
set_option maxHeartbeats 1000000 in
set_option maxRecDepth 100000 in
theorem cB.used (b o : Nat) (w : World) (h0 : w.cell? ⟨b, o, none⟩ = some (.pointer (some ⟨b, o, none⟩))) :
    Calls Try.prog 132 #[.pointer (some ⟨b, o, none⟩)] w fun e w' => e = .returned (.tuple #[]) ∧ w' = w := by
  obtain ⟨j, hj, _⟩ := Option.map_eq_some_iff.1 cB.info
  go_enter Try.func132, Try.ntmps132
  go_wp2
  rw [Lib.run_neq_ptr_same w _ Try.underlying164 hj]
  go_wp2
  go_end0
  exact ⟨rfl, rfl⟩
set_option maxHeartbeats 1000000 in
set_option maxRecDepth 100000 in
theorem cB.fresh (b o : Nat) (T : TypeId) (n : Nat) (w : World) (h0 : w.cell? ⟨b, o, none⟩ = some (.pointer none)) (hsh : w.shape? b = some (T, n)) (hn : o < n)
    (hlies : liesAt Try.prog Try.prog.depth T (n / Try.prog.cellsOf T) o 166 1 = true) (hfz : w.frozen? ⟨b, o, none⟩ = false) :
    Calls Try.prog 132 #[.pointer (some ⟨b, o, none⟩)] w fun e w' => e = .returned (.tuple #[]) ∧ w' = w.setCell ⟨b, o, none⟩ (.pointer (some ⟨b, o, none⟩)) := by
  obtain ⟨j, hj, hjs⟩ := Option.map_eq_some_iff.1 cB.info
  have adJ : j.size ≠ 0 := by rw [hjs]; decide
  clear hjs
  have hn' := aj.mk hn
  clear hn
  go_enter Try.func132, Try.ntmps132
  go_wp2
  rw [Lib.run_to_unsafe w ⟨b, o, none⟩ Try.underlying164 Try.underlying179 hj adJ hsh hn'.out]
  simp only [Result.andThen]
  rw [Oper.upon_value]
  go_wp2
  rw [run_callFunc_extern Try.func135 (by kernel_rfl) (by kernel_rfl) (by kernel_rfl) (e := Extern.AbiNoEscape.same) (by kernel_rfl)]
  rw [Lib.run_noEscape]
  simp only [Result.andThen]
  rw [Oper.upon_value]
  go_wp2
  rw [Lib.run_from_unsafe w ⟨b, o, none⟩ Try.underlying179 Try.underlying164 hj hsh hlies]
  simp only [Result.andThen]
  rw [Oper.upon_value]
  go_wp2
  go_end0
  exact ⟨rfl, rfl⟩
theorem cB.any (T : TypeId) (B0 b o : Nat) (cs : Array Value) (p v : Value) (bs : List Value) (w : World) (h : B.uI T 5 B0 b o cs p v bs w)
    (hlies : liesAt Try.prog Try.prog.depth T (cs.size / Try.prog.cellsOf T) o 166 1 = true) :
    Calls Try.prog 132 #[.pointer (some ⟨b, o, none⟩)] w fun e w' => e = .returned (.tuple #[]) ∧
      B.uI T 5 B0 b o (cs.setIfInBounds o (.pointer (some ⟨b, o, none⟩))) (.pointer (some ⟨b, o, none⟩)) v bs w' ∧ Below B0 w w' := by
  have ho : o < cs.size := by
    rcases Nat.lt_or_ge o cs.size with h' | h'
    · exact h'
    · have := h.p_; rw [Array.getElem?_eq_none h'] at this; cases this
  have hsh : w.shape? b = some (T, cs.size) := by simp [World.shape?, h.blk]
  have hc : w.cell? ⟨b, o, none⟩ = some p := by rw [Lib.cell_of_heap h.blk]; exact h.p_
  rcases h.self with rfl | rfl
  · refine (cB.fresh b o T cs.size w hc hsh ho hlies (Lib.frozen_of_heap h.blk o)).mono ?_
    rintro e w' ⟨rfl, rfl⟩
    exact ⟨rfl, h.used, (Below.refl B0 w).setCell (p := ⟨b, o, none⟩) h.base _⟩
  · refine (cB.used b o w hc).mono ?_
    rintro e w' ⟨rfl, rfl⟩
    exact ⟨rfl, by rw [h.Iz]; exact h, Below.refl B0 _⟩
theorem gK.infoByte : (Try.prog.info? 5).map (fun i => (i.zero, i.size, i.bytes)) = some (some (.int .u8 0), 1, 1) := by kernel_rfl
set_option maxHeartbeats 2000000 in
set_option maxRecDepth 100000 in
theorem gK.any (T : TypeId) (B0 b o : Nat) (cs : Array Value) (p v : Value) (t : ByteArray) (s : ByteArray) (w : World) (h : B.uI T 5 B0 b o cs p v (Lib.strCells t) w)
    (hlies : liesAt Try.prog Try.prog.depth T (cs.size / Try.prog.cellsOf T) o 166 1 = true) (hT : T ≠ 5) (hlen : t.size + s.size ≤ 140737488355328) (hBw : B0 ≤ w.heap.size) :
    Calls Try.prog 127 #[.pointer (some ⟨b, o, none⟩), .string s] w fun e w' => e = .returned (.tuple #[.int .i64 s.size, .nilIface]) ∧
      (∃ v', B.uI T 5 B0 b o ((cs.setIfInBounds o (.pointer (some ⟨b, o, none⟩))).setIfInBounds (o + 1) v') (.pointer (some ⟨b, o, none⟩)) v' (Lib.strCells (t ++ s)) w') ∧ Below B0 w w' := by
  obtain ⟨i0, hi, hz0, hz1, hz2⟩ := info_parts gK.infoByte
  have hL := Lib.strCells_length t
  have TP := aj.mk hlies
  clear hlies
  have hC := aj.mk h
  clear h
  have hT' := aj.mk hT
  clear hT
  have hlen' := aj.mk hlen
  clear hlen
  go_enter Try.func127, Try.ntmps127
  go_wp2_with (go_at_call 132; refine (cB.any T B0 b o cs p v _ _ hC.out TP.out).mono ?_)
  rintro e w1 ⟨rfl, h1, hb1⟩
  have c1 : w1.cell? ⟨b, o + 1, none⟩ = some v := by rw [Lib.cell_of_heap h1.blk]; exact h1.v_
  have hown := h1.own
  go_wp2_with (at_builtin; refine Lib.wpList_append_own_string _ rfl _ _ 119 9 rfl B0 5 i0 Try.underlying119 Try.underlying9 hi hz0 hz1 hz2 _ _ _ rfl hown s rfl ?c3 ?c4 ?c5 ?_)
  case c3 => rw [hL]; unfold maxLen; have := hlen'.out; omega
  case c4 => rw [hL]; have := hlen'.out; omega
  case c5 => have := hb1.size; omega
  intro v' w2 hown' hgrow _
  have hlt := h1.lt
  have hb2 : w2.heap[b]? = some (.cells (cs.setIfInBounds o (.pointer (some ⟨b, o, none⟩))) T (0, 0)) := by
    rw [hgrow.block b hlt (fun e => h1.ne e.symm)]
    exact h1.blk
  have d1 : w2.cell? ⟨b, o + 1, none⟩ = some v := by rw [Lib.cell_of_heap hb2]; exact h1.v_
  have f1 : w2.frozen? ⟨b, o + 1, none⟩ = false := Lib.frozen_of_heap hb2 (o + 1)
  obtain ⟨ao, n', cap, rfl⟩ : ∃ ao n' cap, v' = .slice ao n' cap := by
    rcases hown'.2 with ⟨hv, _⟩ | ⟨g, cap, cur, hv, _⟩
    · exact ⟨_, _, _, hv⟩
    · exact ⟨_, _, _, hv⟩
  have hown2 : w2.ownsRow B0 5 1 (.slice ao n' cap) (Lib.strCells (t ++ s)).length (Lib.strCells (t ++ s)) := by
    rw [← B.vK]
    simpa [Lib.strCells_length] using hown'
  have hput := aj.mk (h1.put hb2 hown2 hT'.out)
  have hbel := aj.mk ((hb1.grown hgrow (by have := hb1.size; omega) (fun k hk => (hown.lt k hk).1)).setCell (p := ⟨b, o + 1, none⟩) h1.base (.slice ao n' cap))
  clear hb2 hown2 hown' hgrow h1 hown hL hb1 c1
  go_wp2
  go_ret2
  exact ⟨rfl, ⟨_, hput.out⟩, hbel.out⟩
set_option maxHeartbeats 2000000 in
set_option maxRecDepth 100000 in
theorem aZ.told (T : TypeId) (B0 b o : Nat) (cs : Array Value) (p v : Value) (l : List UInt8) (w : World) (h : B.uI T 5 B0 b o cs p v (Lib.byteCells l) w) (h0 : l ≠ []) :
    Calls Try.prog 128 #[.pointer (some ⟨b, o, none⟩)] w fun e w' => e = .returned (.string ⟨l.toArray⟩) ∧ ∃ g, B0 ≤ g ∧ g ≠ b ∧ w' = w.drew.freeze ⟨g, 0, none⟩ l.length := by
  have hl0 : l.length ≠ 0 := by simpa using h0
  have hown := h.own
  rw [Lib.byteCells_length] at hown
  obtain ⟨g, cap, cur, rfl, hbg, hg, hnc, hcm, hcs, htake⟩ : ∃ g cap cur, v = .slice (some ⟨g, 0, none⟩) l.length cap ∧ B0 ≤ g ∧ w.heap[g]? = some (.cells cur 5 (0, 0)) ∧ l.length ≤ cap ∧ cap ≤ maxLen ∧ cur.size = cap * 1 ∧ cur.toList.take (l.length * 1) = Lib.byteCells l := by
    rcases hown.2 with ⟨_, hz⟩ | ⟨g, cap, cur, hv, r⟩
    · exact absurd hz hl0
    · exact ⟨g, cap, cur, hv, r⟩
  have hgb : g ≠ b := fun e => h.ne (by rw [e]; rfl)
  have c1 : w.drew.cell? ⟨b, o + 1, none⟩ = some (.slice (some ⟨g, 0, none⟩) l.length cap) := by
    have : w.drew.heap[b]? = some (.cells cs T (0, 0)) := h.blk
    rw [Lib.cell_of_heap this]; exact h.v_
  have hSD : (Builtin.unsafeSliceData_ #[119] 178 #[.slice (some ⟨g, 0, none⟩) l.length cap]).run Try.prog w.drew = .ok (.pointer (some ⟨g, 0, none⟩)) w.drew :=
    Lib.run_unsafeSliceData_row _ _ _ _ _ _ (by omega)
  have hUS : (Builtin.unsafeString_ #[178, 3] 9 #[.pointer (some ⟨g, 0, none⟩), .int .i64 l.length]).run Try.prog w.drew = .ok (.string ⟨l.toArray⟩) (w.drew.freeze ⟨g, 0, none⟩ l.length) := by
    refine Lib.run_unsafeString_row w.drew 178 3 9 5 Try.underlying178 (by kernel_rfl) g cur.size (by have hg' : w.drew.heap[g]? = some (.cells cur 5 (0, 0)) := hg; simp [World.shape?, hg']) l h0 (by omega) (by unfold maxLen at hcm; omega) ?_
    intro j x hx
    have := hown.cells (g := g) rfl j (.int .u8 x.toNat) (by simp [Lib.byteCells, hx])
    exact this
  have adK := aj.mk hbg
  have hgb' := aj.mk hgb
  clear hbg hgb h hown hg hnc hcm hcs htake hl0 h0
  go_enter Try.func128, Try.ntmps128
  go_wp2
  go_region
  all_goals (go_wp2; go_ret; exact ⟨rfl, _, adK.out, hgb'.out, rfl⟩)
def aZ.Kept (b : Nat) (w w' : World) : Prop := ∀ a : Addr, a.block = b → w'.cell? a = w.cell? a ∧ w'.frozen? a = w.frozen? a
theorem aZ.Kept.of_block {b : Nat} {w w' : World} (h : w'.heap[b]? = w.heap[b]?) : aZ.Kept b w w' := by
  rintro a rfl
  exact ⟨World.cell?_of_block h, World.frozen?_of_block h⟩
theorem aZ.Bo (W : World) (q : Option Addr) : (Builtin.unsafeString_ #[178, 3] 9 #[.pointer q, .int .i64 0]).run Try.prog W = .ok (.string .empty) W :=
  Lib.run_unsafeString_none W _ _ _ q
set_option maxHeartbeats 2000000 in
set_option maxRecDepth 100000 in
theorem aZ.of_nil (B0 b o : Nat) (w : World) (c1 : w.drew.cell? ⟨b, o + 1, none⟩ = some (.slice none 0 0)) :
    Calls Try.prog 128 #[.pointer (some ⟨b, o, none⟩)] w fun e w' => e = .returned (.string ⟨#[]⟩) ∧ aZ.Kept b w w' ∧ Below B0 w w' := by
  have hUS := aZ.Bo
  have hSD : (Builtin.unsafeSliceData_ #[119] 178 #[.slice none 0 0]).run Try.prog w.drew = .ok (.pointer none) w.drew := rfl
  go_enter Try.func128, Try.ntmps128
  go_wp2
  go_region
  all_goals (go_wp2; go_ret; exact ⟨rfl, aZ.Kept.of_block rfl, Below.drew (Below.refl B0 w)⟩)
set_option maxHeartbeats 2000000 in
set_option maxRecDepth 100000 in
theorem aZ.IB (B0 b o g : Nat) (cur : Array Value) (w : World) (hBw : B0 ≤ w.heap.size) (hlt : b < w.heap.size) (c0 : w.cell? ⟨b, o + 1, none⟩ = some (.slice (some ⟨g, 0, none⟩) 0 0)) (hg : w.heap[g]? = some (.cells cur 5 (0, 0))) :
    Calls Try.prog 128 #[.pointer (some ⟨b, o, none⟩)] w fun e w' => e = .returned (.string ⟨#[]⟩) ∧ aZ.Kept b w w' ∧ Below B0 w w' := by
  have hUS := aZ.Bo
  have hSD : (Builtin.unsafeSliceData_ #[119] 178 #[.slice (some ⟨g, 0, none⟩) 0 0]).run Try.prog w.drew = .ok (.pointer (some ⟨w.drew.heap.size, 0, none⟩)) (w.drew.alloc (.view ⟨g, 0, none⟩ 5)) :=
    Lib.run_unsafeSliceData_zero w.drew _ _ 5 Try.underlying178 ⟨g, 0, none⟩ 0 (5, cur.size) (by have hg' : w.drew.heap[g]? = some (.cells cur 5 (0, 0)) := hg; simp [World.shape?, hg'])
  have hold : (w.drew.alloc (.view ⟨g, 0, none⟩ 5)).heap[b]? = w.heap[b]? := (Lib.alloc_old w.drew _ b hlt)
  have c2 : (w.drew.alloc (.view ⟨g, 0, none⟩ 5)).cell? ⟨b, o + 1, none⟩ = some (.slice (some ⟨g, 0, none⟩) 0 0) := by
    rw [World.cell?_of_block (w := w) (a := ⟨b, o + 1, none⟩) hold]; exact c0
  have c3 : (w.alloc (.view ⟨g, 0, none⟩ 5)).drew.cell? ⟨b, o + 1, none⟩ = some (.slice (some ⟨g, 0, none⟩) 0 0) := c2
  have hold' := aj.mk hold
  have hBw' := aj.mk hBw
  clear hold hBw hlt
  go_enter Try.func128, Try.ntmps128
  go_wp2
  go_region
  all_goals (go_wp2; go_ret; exact ⟨rfl, aZ.Kept.of_block hold'.out, (Below.drew (Below.refl B0 w)).alloc hBw'.out _⟩)
set_option maxHeartbeats 2000000 in
set_option maxRecDepth 100000 in
theorem aZ.N9 (B0 b o g cap : Nat) (w : World) (hc0 : cap ≠ 0) (c1 : w.drew.cell? ⟨b, o + 1, none⟩ = some (.slice (some ⟨g, 0, none⟩) 0 cap)) :
    Calls Try.prog 128 #[.pointer (some ⟨b, o, none⟩)] w fun e w' => e = .returned (.string ⟨#[]⟩) ∧ aZ.Kept b w w' ∧ Below B0 w w' := by
  have hUS := aZ.Bo
  have hSD : (Builtin.unsafeSliceData_ #[119] 178 #[.slice (some ⟨g, 0, none⟩) 0 cap]).run Try.prog w.drew = .ok (.pointer (some ⟨g, 0, none⟩)) w.drew :=
    Lib.run_unsafeSliceData_row _ _ _ _ _ _ hc0
  clear hc0
  go_enter Try.func128, Try.ntmps128
  go_wp2
  go_region
  all_goals (go_wp2; go_ret; exact ⟨rfl, aZ.Kept.of_block rfl, Below.drew (Below.refl B0 w)⟩)
theorem aZ.any (T : TypeId) (B0 b o : Nat) (cs : Array Value) (p v : Value) (t : ByteArray) (w : World) (h : B.uI T 5 B0 b o cs p v (Lib.strCells t) w) (hBw : B0 ≤ w.heap.size) :
    Calls Try.prog 128 #[.pointer (some ⟨b, o, none⟩)] w fun e w' => e = .returned (.string t) ∧ aZ.Kept b w w' ∧ Below B0 w w' := by
  have c1 : ∀ W : World, W.heap = w.heap → W.cell? ⟨b, o + 1, none⟩ = some v := by
    intro W hW
    have : W.heap[b]? = some (.cells cs T (0, 0)) := by rw [hW]; exact h.blk
    rw [Lib.cell_of_heap this]; exact h.v_
  by_cases h0 : t.data.toList = []
  · have ht : t = ⟨#[]⟩ := ByteArray.ext (Array.toList_inj.mp h0)
    subst ht
    rcases h.own.2 with ⟨rfl, _⟩ | ⟨g, cap, cur, rfl, hbg, hg, _, _, _, _⟩
    · exact aZ.of_nil B0 b o w (c1 _ rfl)
    · by_cases hc : cap = 0
      · subst hc
        exact aZ.IB B0 b o g cur w hBw h.lt (c1 _ rfl) hg
      · exact aZ.N9 B0 b o g cap w hc (c1 _ rfl)
  · refine (aZ.told T B0 b o cs p v t.data.toList w (by rw [← B.xZ]; exact h) h0).mono ?_
    rintro e w' ⟨rfl, g, h1, h2, rfl⟩
    refine ⟨rfl, aZ.Kept.of_block ?_, Lib.below_freeze (Below.drew (Below.refl B0 w)) (p := ⟨g, 0, none⟩) h1 _⟩
    unfold World.freeze
    split
    · rfl
    · simp [Array.getElem?_modify, h2]
      rfl
def strings_Join.cat : List ByteArray → ByteArray
  | [] => ⟨#[]⟩
  | x :: l => x ++ strings_Join.cat l
theorem strings_Join.yc : ∀ l : List ByteArray, (⟨(Lib.join (l.map (·.data.toList)) (⟨#[]⟩ : ByteArray).data.toList).toArray⟩ : ByteArray) = strings_Join.cat l
  | [] => rfl
  | [x] => by
    rw [List.map_cons, List.map_nil, Lib.join_one]
    refine ByteArray.ext ?_
    simp [strings_Join.cat, ByteArray.data_append]
  | x :: y :: l => by
    have h := strings_Join.yc (y :: l)
    refine ByteArray.ext ?_
    rw [strings_Join.cat, ByteArray.data_append, ← h]
    simp [Lib.join, List.intercalate]
theorem strings_Join.calls (v : Value) (l : List ByteArray) (base : Nat) (ok : Nat → Prop) (w : World) (hr : Kd.R Kd.string 9 w base ok v l) (hl : l.length ≤ 1000000) (hz : (strings_Join.cat l).size ≤ 140737488355328) :
    Calls Try.prog 123 #[v, .string ⟨#[]⟩] w fun e w' => e = .returned (.string (strings_Join.cat l)) ∧ Below w.heap.size w w' := by
  have ho := Kd.sQ hr
  rcases ho.2 with ⟨rfl, h0⟩ | ⟨g, cap, cur, rfl, hg, hh, hc, _, _, ht⟩
  · obtain rfl := List.length_eq_zero_iff.mp h0
    exact (Any.strings_Join_none Gn vk none 0 ⟨#[]⟩ w).mono fun e w' ⟨he, hw⟩ => ⟨he, hw ▸ Below.refl _ _⟩
  · have hlt : g < w.heap.size := (Array.getElem?_eq_some_iff.1 hh).1
    have hcells : ∀ (j : Nat) x, l[j]? = some x → w.cell? ⟨g, 0 + j, none⟩ = some (.string x) := by
      intro j x hx
      have hj : j < l.length := (List.getElem?_eq_some_iff.1 hx).1
      have h := (Kd.KQ ByteArray.empty hr (j : Int) (by omega) (by omega)).1
      rw [Nat.zero_add]
      rw [Int.toNat_natCast] at h
      rw [h]
      unfold oG
      rw [Int.toNat_natCast, List.getD_eq_getElem?_getD, hx]
      rfl
    have hlen : (Lib.join (l.map (·.data.toList)) (⟨#[]⟩ : ByteArray).data.toList).length ≤ 140737488355328 := by
      have h := congrArg ByteArray.size (strings_Join.yc l)
      rw [← h] at hz
      simpa [ByteArray.size] using hz
    refine (Any.strings_Join Gn vk g 0 cap l ⟨#[]⟩ w hcells hlt (by omega) hc hlen).mono fun e w' ⟨he, hw⟩ => ⟨?_, hw⟩
    rw [he, strings_Join.yc]
set_option maxHeartbeats 1000000 in
set_option maxRecDepth 100000 in
theorem qm.any (T : TypeId) (B0 b o : Nat) (cs : Array Value) (p v : Value) (bs : List Value) (w : World) (h : B.uI T 5 B0 b o cs p v bs w) :
    Calls Try.prog 134 #[.pointer (some ⟨b, o, none⟩)] w fun e w' => e = .returned (.int .i64 bs.length) ∧ w = w' := by
  obtain ⟨ao, cap, rfl⟩ : ∃ ao cap, v = .slice ao bs.length cap := by
    rcases h.own.2 with ⟨hv, h0⟩ | ⟨g, cap, cur, hv, _⟩
    · exact ⟨none, 0, by rw [hv, h0]⟩
    · exact ⟨_, _, hv⟩
  have c1 : w.cell? ⟨b, o + 1, none⟩ = some (.slice ao bs.length cap) := by rw [Lib.cell_of_heap h.blk]; exact h.v_
  clear h
  go_enter Try.func134, Try.ntmps134
  go_wp2
  go_ret
  exact ⟨rfl, rfl⟩
end Go.Proofs.Ytdkkgecdhapfhaa.ZQ
namespace Go.Proofs.Ytdkkgecdhapfhaa.ZQ
open Go.RowKit Go.Proofs.YtdkkgecdhapfhaaW.bD Go.Proofs.YtdkkgecdhapfhaaW.dV Go.Proofs.YtdkkgecdhapfhaaW.eF
attribute [local go_sem] jh ji j3 j4 iC iD jk jl
def aC.cs (msg : ByteArray) (i l n : Int) (p v : Value) : Array Value := #[.string msg, .int .i64 i, .int .i64 l, .int .i64 n, p, v]
def aC.Rd (B0 g : Nat) (msg : ByteArray) (i l n : Int) (t : ByteArray) (w : World) : Prop :=
  ∃ p v, B.uI 174 5 B0 g 4 (aC.cs msg i l n p v) p v (Lib.strCells t) w
theorem aC.Rd.cells {B0 g : Nat} {msg : ByteArray} {i l n : Int} {t : ByteArray} {w : World} (h : aC.Rd B0 g msg i l n t w) :
    w.cell? ⟨g, 0, none⟩ = some (.string msg) ∧ w.cell? ⟨g, 1, none⟩ = some (.int .i64 i) ∧ w.cell? ⟨g, 2, none⟩ = some (.int .i64 l) ∧ w.cell? ⟨g, 3, none⟩ = some (.int .i64 n) ∧
    w.frozen? ⟨g, 1, none⟩ = false ∧ w.frozen? ⟨g, 2, none⟩ = false ∧ w.frozen? ⟨g, 3, none⟩ = false := by
  obtain ⟨p, v, h⟩ := h
  exact ⟨by rw [Lib.cell_of_heap h.blk]; rfl, by rw [Lib.cell_of_heap h.blk]; rfl, by rw [Lib.cell_of_heap h.blk]; rfl, by rw [Lib.cell_of_heap h.blk]; rfl, Lib.frozen_of_heap h.blk 1, Lib.frozen_of_heap h.blk 2, Lib.frozen_of_heap h.blk 3⟩
theorem aC.Rd.base {B0 g : Nat} {msg : ByteArray} {i l n : Int} {t : ByteArray} {w : World} (h : aC.Rd B0 g msg i l n t w) : B0 ≤ g ∧ g < w.heap.size := by
  obtain ⟨p, v, h⟩ := h
  exact ⟨h.base, h.lt⟩
theorem aC.Rd.drewN {B0 g : Nat} {msg : ByteArray} {i l n : Int} {t : ByteArray} {w : World} (h : aC.Rd B0 g msg i l n t w) (m : Nat) : aC.Rd B0 g msg i l n t (w.drewN m) := by
  obtain ⟨p, v, h⟩ := h
  exact ⟨p, v, h.drewN m⟩
theorem aC.Rd.set1 {B0 g : Nat} {msg : ByteArray} {i l n : Int} {t : ByteArray} {w : World} (h : aC.Rd B0 g msg i l n t w) (x : Int) : aC.Rd B0 g msg x l n t (w.setCell ⟨g, 1, none⟩ (.int .i64 x)) := by
  obtain ⟨p, v, h⟩ := h
  exact ⟨p, v, h.set 1 _ (by omega) (by omega)⟩
theorem aC.Rd.set2 {B0 g : Nat} {msg : ByteArray} {i l n : Int} {t : ByteArray} {w : World} (h : aC.Rd B0 g msg i l n t w) (x : Int) : aC.Rd B0 g msg i x n t (w.setCell ⟨g, 2, none⟩ (.int .i64 x)) := by
  obtain ⟨p, v, h⟩ := h
  exact ⟨p, v, h.set 2 _ (by omega) (by omega)⟩
theorem aC.Rd.Yc {B0 g : Nat} {msg : ByteArray} {i l n : Int} {t : ByteArray} {w : World} (h : aC.Rd B0 g msg i l n t w) (x : Int) : aC.Rd B0 g msg i l x t (w.setCell ⟨g, 3, none⟩ (.int .i64 x)) := by
  obtain ⟨p, v, h⟩ := h
  exact ⟨p, v, h.set 3 _ (by omega) (by omega)⟩
set_option maxHeartbeats 2000000 in
set_option maxRecDepth 100000 in
theorem aC.cut (B0 g : Nat) (msg : ByteArray) (i l n : Int) (t : ByteArray) (w : World) (h : aC.Rd B0 g msg i l n t w) (hs : msg.size ≤ 140737488355328) (hg : ¬ j5 msg i 2) :
    Calls Try.prog 130 #[.pointer (some ⟨g, 0, none⟩)] w fun e w' => e = .returned (.int .i64 2) ∧ aC.Rd B0 g msg i l n t w' ∧ Below B0 w w' := by
  have hget := get_eq 9 (Nat.le_refl _) msg i 2 (by omega)
  rw [if_neg hg] at hget
  have mI := aj.mk hget
  obtain ⟨c0, c1, c2, c3, f1, f2, f3⟩ := h.cells
  have hR := aj.mk h
  clear hget h hs hg
  go_enter Try.func130, Try.ntmps130
  go_wp2
  go_quiet ((go_at_call 74; exact Calls.quiet_of ((bq.calls 9 msg i 2 _ _ _ mI.out).mono fun _ _ h => ⟨h.1, h.2.out⟩)))
  go_wp2
  go_ret
  exact ⟨rfl, hR.out.drewN _, ah (Below.refl B0 w) _⟩
set_option maxHeartbeats 2000000 in
set_option maxRecDepth 100000 in
theorem aC.name (B0 g : Nat) (msg : ByteArray) (i l n : Int) (t : ByteArray) (w : World) (h : aC.Rd B0 g msg i l n t w) (hs : msg.size ≤ 140737488355328) (hg : j5 msg i 2) (hl : l ≤ iq 2 msg i - 49152) :
    Calls Try.prog 130 #[.pointer (some ⟨g, 0, none⟩)] w fun e w' => e = .returned (.int .i64 3) ∧ aC.Rd B0 g msg i l n t w' ∧ Below B0 w w' := by
  have hget := get_eq 9 (Nat.le_refl _) msg i 2 (by omega)
  rw [if_pos hg] at hget
  have hr := qW 2 msg i
  have mI := aj.mk (show bq.f 9 msg i 2 = some (iq 2 msg i, true) from hget)
  obtain ⟨c0, c1, c2, c3, f1, f2, f3⟩ := h.cells
  have hR := aj.mk h
  generalize iq 2 msg i = q at mI hr hl
  have hb0 : 0 ≤ q := hr.1
  have hb1 : q ≤ 65535 := by have := hr.2; simp at this; omega
  have d1 : decide (l ≤ q - 49152) = true := decide_eq_true hl
  clear hget h hs hg hr hl
  go_enter Try.func130, Try.ntmps130
  go_wp2
  go_quiet ((go_at_call 74; exact Calls.quiet_of ((bq.calls 9 msg i 2 _ _ _ mI.out).mono fun _ _ h => ⟨h.1, h.2.out⟩)))
  go_wp2
  go_ret
  exact ⟨rfl, hR.out.drewN _, ah (Below.refl B0 w) _⟩
set_option maxHeartbeats 2000000 in
set_option maxRecDepth 100000 in
theorem aC.ok (B0 g : Nat) (msg : ByteArray) (i l n : Int) (t : ByteArray) (w : World) (h : aC.Rd B0 g msg i l n t w) (hs : msg.size ≤ 140737488355328) (hg : j5 msg i 2) (hl : iq 2 msg i - 49152 < l) (n' : Int) (hn0 : aj (n' = if n = -1 then i + 2 else n)) :
    Calls Try.prog 130 #[.pointer (some ⟨g, 0, none⟩)] w fun e w' => e = .returned (.int .i64 0) ∧ aC.Rd B0 g msg (iq 2 msg i - 49152) (iq 2 msg i - 49152) n' t w' ∧ Below B0 w w' := by
  have hget := get_eq 9 (Nat.le_refl _) msg i 2 (by omega)
  rw [if_pos hg] at hget
  have hr := qW 2 msg i
  have mI := aj.mk (show bq.f 9 msg i 2 = some (iq 2 msg i, true) from hget)
  obtain ⟨c0, c1, c2, c3, f1, f2, f3⟩ := h.cells
  have hR := aj.mk h
  have hi0 := hg.1
  have hi1 : i ≤ 140737488355328 := by have := hg.2.2.2; omega
  have hB := aj.mk h.base.1
  generalize iq 2 msg i = q at mI hr hl ⊢
  have hb0 : 0 ≤ q := hr.1
  have hb1 : q ≤ 65535 := by have := hr.2; simp at this; omega
  have d1 : decide (l ≤ q - 49152) = false := decide_eq_false (by omega)
  by_cases hn : n = -1
  · subst hn
    have e' := hn0.out
    rw [if_pos rfl] at e'
    subst e'
    clear hn0
    have Jd := aj.mk (((hR.out.Yc (i + 2)).set1 (q - 49152)).set2 (q - 49152))
    have hBl := aj.mk ((((Below.refl B0 w).setCell (p := ⟨g, 3, none⟩) hB.out (.int .i64 (i + 2))).setCell (p := ⟨g, 1, none⟩) hB.out (.int .i64 (q - 49152))).setCell (p := ⟨g, 2, none⟩) hB.out (.int .i64 (q - 49152)))
    clear hget h hs hg hr hl hR
    go_enter Try.func130, Try.ntmps130
    go_wp2
    go_quiet ((go_at_call 74; exact Calls.quiet_of ((bq.calls 9 msg i 2 _ _ _ mI.out).mono fun _ _ h => ⟨h.1, h.2.out⟩)))
    go_wp2
    go_ret
    exact ⟨rfl, Jd.out.drewN _, ah hBl.out _⟩
  · have e' := hn0.out
    have d2 : (n == -1) = false := by simpa using hn
    rw [if_neg hn] at e'
    subst e'
    clear hn0
    have Jd := aj.mk ((hR.out.set1 (q - 49152)).set2 (q - 49152))
    have hBl := aj.mk (((Below.refl B0 w).setCell (p := ⟨g, 1, none⟩) hB.out (.int .i64 (q - 49152))).setCell (p := ⟨g, 2, none⟩) hB.out (.int .i64 (q - 49152)))
    clear hget h hs hg hr hl hR hn
    go_enter Try.func130, Try.ntmps130
    go_wp2
    go_quiet ((go_at_call 74; exact Calls.quiet_of ((bq.calls 9 msg i 2 _ _ _ mI.out).mono fun _ _ h => ⟨h.1, h.2.out⟩)))
    go_wp2
    go_ret
    exact ⟨rfl, Jd.out.drewN _, ah hBl.out _⟩
theorem jK.str (B0 g : Nat) (msg : ByteArray) (i l n : Int) (t : ByteArray) (w : World) (h : aC.Rd B0 g msg i l n t w) (hw : B0 ≤ w.heap.size) :
    Calls Try.prog 128 #[.pointer (some ⟨g, 4, none⟩)] w fun e w' => e = .returned (.string t) ∧ (w'.cell? ⟨g, 3, none⟩ = some (.int .i64 n)) ∧ Below B0 w w' := by
  have hc := h.cells.2.2.2.1
  obtain ⟨p, v, h⟩ := h
  refine (aZ.any _ B0 g 4 _ p v t w h hw).mono ?_
  rintro e w' ⟨rfl, hk, hb⟩
  exact ⟨rfl, by rw [(hk ⟨g, 3, none⟩ rfl).1]; exact hc, hb⟩
set_option maxHeartbeats 4000000 in
set_option maxRecDepth 100000 in
theorem jK.any (B0 g : Nat) (msg : ByteArray) (i l n : Int) (t : ByteArray) (w : World) (h : aC.Rd B0 g msg i l n t w) (hw : B0 ≤ w.heap.size) (ht : t.size ≤ 140737488355328) (hi : 0 ≤ i) (hi2 : i ≤ 140737488355328)
    (n' : Int) (hn0 : aj (n' = if n = -1 then i + 1 else n)) :
    Calls Try.prog 129 #[.pointer (some ⟨g, 0, none⟩)] w fun e w' => e = .returned (.tuple #[.string (t ++ (⟨#[0]⟩ : ByteArray)), .int .i64 n', .int .i64 0]) ∧ Below B0 w w' := by
  obtain ⟨c0, c1, c2, c3, f1, f2, f3⟩ := h.cells
  have hR := aj.mk h
  have hB := aj.mk h.base.1
  have hw' := aj.mk hw
  have ht1 : (t.size + 1 ≤ 9223372036854775807) = True := eq_true (by omega)
  have ht2 : (9223372036854775807 < t.size + 1) = False := eq_false (by omega)
  have ht3 : decide (t.size + 1 ≤ 9223372036854775807) = true := decide_eq_true (by omega)
  by_cases hn : n = -1
  · subst hn
    have e' := hn0.out
    rw [if_pos rfl] at e'
    subst e'
    clear hn0
    have Jd := aj.mk (hR.out.Yc (i + 1))
    have hc3 := Jd.out.cells.2.2.2.1
    have hBl := aj.mk ((Below.refl B0 w).setCell (p := ⟨g, 3, none⟩) hB.out (.int .i64 (i + 1)))
    have hsz := aj.mk (show B0 ≤ (w.setCell ⟨g, 3, none⟩ (.int .i64 (i + 1))).heap.size by have := hBl.out.size; omega)
    clear h hw hR ht hB hw'
    go_enter Try.func129, Try.ntmps129
    go_wp2
    generalize w.setCell ⟨g, 3, none⟩ (.int .i64 (i + 1)) = w1 at *
    clear c0 c1 c2 c3 f1 f2 f3
    go_region_with (go_at_call 128; refine (jK.str B0 g msg i l (i + 1) t _ (by first | exact Jd.out | exact Jd.out.drewN 1 | exact Jd.out.drewN _) (by first | exact hsz.out | (simp; exact hsz.out))).mono ?_; rintro e w' ⟨rfl, hk3, hb⟩; have hb' := aj.mk hb; clear hb)
    all_goals
      go_wp2
      go_ret3
      exact ⟨rfl, by first | exact hBl.out.trans hb'.out | exact (jf hBl.out).trans hb'.out | exact jf (hBl.out.trans hb'.out) | exact hBl.out.trans (jf hb'.out)⟩
  · have e' := hn0.out
    have d2 : (n == -1) = false := by simpa using hn
    rw [if_neg hn] at e'
    subst e'
    clear hn0
    clear h hw ht hB
    go_enter Try.func129, Try.ntmps129
    go_wp2
    clear c0 c1 c2 f1 f2 f3
    go_region_with (go_at_call 128; refine (jK.str B0 g msg i l n' t _ (by first | exact hR.out | exact hR.out.drewN 1 | exact hR.out.drewN _) (by first | exact hw'.out | (simp; exact hw'.out))).mono ?_; rintro e w' ⟨rfl, hk3, hb⟩; have hb' := aj.mk hb; clear hb)
    all_goals
      go_wp2
      go_ret3
      exact ⟨rfl, by first | exact hb'.out | exact (jf (Below.refl B0 w)).trans hb'.out | exact jf hb'.out⟩
set_option maxHeartbeats 4000000 in
set_option maxRecDepth 100000 in
theorem dx.cut (B0 g : Nat) (msg : ByteArray) (i l n z : Int) (t : ByteArray) (w : World) (h : aC.Rd B0 g msg i l n t w) (hs : msg.size ≤ 140737488355328) (hz0 : 0 ≤ z) (hz1 : z ≤ 255) (hg : ¬ gQ msg i (1 + z)) :
    Calls Try.prog 131 #[.pointer (some ⟨g, 0, none⟩), .int .i64 z] w fun e w' => e = .returned (.int .i64 2) ∧ aC.Rd B0 g msg i l n t w' ∧ Below B0 w w' := by
  have hget := tH msg i (1 + z) (by omega)
  rw [if_neg hg] at hget
  have mI := aj.mk hget
  obtain ⟨c0, c1, c2, c3, f1, f2, f3⟩ := h.cells
  have hR := aj.mk h
  clear hget h hs hg
  go_enter Try.func131, Try.ntmps131
  go_wp2
  go_quiet ((go_at_call 97; exact Calls.quiet_of ((eP.calls msg i (1 + z) _ _ _ mI.out).mono fun _ _ h => ⟨h.1, h.2.out⟩)))
  go_wp2
  go_ret
  exact ⟨rfl, hR.out.drewN _, ah (Below.refl B0 w) _⟩
theorem dx.len (B0 g : Nat) (msg : ByteArray) (i l n : Int) (t : ByteArray) (w : World) (h : aC.Rd B0 g msg i l n t w) :
    Calls Try.prog 134 #[.pointer (some ⟨g, 4, none⟩)] w fun e w' => e = .returned (.int .i64 t.size) ∧ w = w' := by
  obtain ⟨p, v, h⟩ := h
  have := qm.any _ B0 g 4 _ p v _ w h
  rw [Lib.strCells_length] at this
  exact this
theorem dx.lies : liesAt Try.prog Try.prog.depth 174 (6 / Try.prog.cellsOf 174) 4 166 1 = true := by kernel_rfl
theorem dx.write (B0 g : Nat) (msg : ByteArray) (i l n : Int) (t s : ByteArray) (w : World) (h : aC.Rd B0 g msg i l n t w) (hlen : t.size + s.size ≤ 140737488355328) (hBw : B0 ≤ w.heap.size) :
    Calls Try.prog 127 #[.pointer (some ⟨g, 4, none⟩), .string s] w fun e w' => e = .returned (.tuple #[.int .i64 s.size, .nilIface]) ∧ aC.Rd B0 g msg i l n (t ++ s) w' ∧ Below B0 w w' := by
  obtain ⟨p, v, h⟩ := h
  refine (gK.any _ B0 g 4 _ p v t s w h dx.lies (by decide) hlen hBw).mono ?_
  rintro e w' ⟨rfl, ⟨v', h'⟩, hb⟩
  exact ⟨rfl, ⟨_, v', h'⟩, hb⟩
set_option maxHeartbeats 4000000 in
set_option maxRecDepth 100000 in
theorem dx.name (B0 g : Nat) (msg : ByteArray) (i l n z : Int) (t : ByteArray) (w : World) (h : aC.Rd B0 g msg i l n t w) (hs : msg.size ≤ 140737488355328) (hz0 : 0 ≤ z) (hz1 : z ≤ 255) (hg : gQ msg i (1 + z)) (ht : t.size ≤ 140737488355328) (hl : 255 ≤ (t.size : Int) + (1 + z)) :
    Calls Try.prog 131 #[.pointer (some ⟨g, 0, none⟩), .int .i64 z] w fun e w' => e = .returned (.int .i64 3) ∧ aC.Rd B0 g msg i l n t w' ∧ Below B0 w w' := by
  have hget := tH msg i (1 + z) (by omega)
  rw [if_pos hg] at hget
  have hsz := B.size_ext hg.1 hg.2.1 hg.2.2
  have mI := aj.mk hget
  obtain ⟨c0, c1, c2, c3, f1, f2, f3⟩ := h.cells
  have hR := aj.mk h
  generalize msg.extract i.toNat (i + (1 + z)).toNat = lb at *
  have hlb : lb.size ≤ 256 := by omega
  have d1 : decide (255 ≤ (t.size : Int) + (lb.size : Int)) = true := decide_eq_true (by omega)
  have d2 : decide (255 ≤ t.size + lb.size) = true := decide_eq_true (by omega)
  clear hget h hs hg hsz hl
  go_enter Try.func131, Try.ntmps131
  go_wp2
  go_quiet ((go_at_call 97; exact Calls.quiet_of ((eP.calls msg i (1 + z) _ _ _ mI.out).mono fun _ _ h => ⟨h.1, h.2.out⟩)))
  go_wp2_with (go_at_call 134; refine (dx.len B0 g msg i l n t _ (hR.out.drewN _)).mono ?_; rintro e w' ⟨rfl, rfl⟩)
  go_ret
  exact ⟨rfl, hR.out.drewN _, ah (Below.refl B0 w) _⟩
set_option maxHeartbeats 4000000 in
set_option maxRecDepth 100000 in
theorem dx.ok (B0 g : Nat) (msg : ByteArray) (i l n z : Int) (t : ByteArray) (w : World) (h : aC.Rd B0 g msg i l n t w) (hw : B0 ≤ w.heap.size) (hs : msg.size ≤ 140737488355328) (hz0 : 0 ≤ z) (hz1 : z ≤ 255) (hg : gQ msg i (1 + z)) (hl : (t.size : Int) + (1 + z) < 255) :
    Calls Try.prog 131 #[.pointer (some ⟨g, 0, none⟩), .int .i64 z] w fun e w' => e = .returned (.int .i64 0) ∧ aC.Rd B0 g msg (i + (1 + z)) l n (t ++ msg.extract i.toNat (i + (1 + z)).toNat) w' ∧ Below B0 w w' := by
  have hget := tH msg i (1 + z) (by omega)
  rw [if_pos hg] at hget
  have hsz := B.size_ext hg.1 hg.2.1 hg.2.2
  have mI := aj.mk hget
  obtain ⟨c0, c1, c2, c3, f1, f2, f3⟩ := h.cells
  have hR := aj.mk h
  have hi0 := hg.1
  have hi1 : i ≤ 140737488355328 := by have := hg.2.2; omega
  have hB := aj.mk h.base.1
  generalize msg.extract i.toNat (i + (1 + z)).toNat = lb at *
  have hlb : lb.size ≤ 256 := by omega
  have htb : t.size ≤ 256 := by omega
  have d1 : decide (255 ≤ (t.size : Int) + (lb.size : Int)) = false := decide_eq_false (by omega)
  have d2 : decide (255 ≤ t.size + lb.size) = false := decide_eq_false (by omega)
  have hsum := aj.mk (show i + (lb.size : Int) = i + (1 + z) by omega)
  have hw' := aj.mk hw
  clear hget h hs hg hsz hl hw
  go_enter Try.func131, Try.ntmps131
  go_wp2
  go_quiet ((go_at_call 97; exact Calls.quiet_of ((eP.calls msg i (1 + z) _ _ _ mI.out).mono fun _ _ h => ⟨h.1, h.2.out⟩)))
  go_wp2_with (first | (go_at_call 134; refine (dx.len B0 g msg i l n t _ (hR.out.drewN _)).mono ?_; rintro e w' ⟨rfl, rfl⟩) | (go_at_call 127; refine (dx.write B0 g msg i l n t lb _ (hR.out.drewN _) (by omega) (by simpa using hw'.out)).mono ?_))
  rintro e w1 ⟨rfl, Jd, hb1⟩
  obtain ⟨e0, e1, e2, e3, g1, g2, g3⟩ := Jd.cells
  have hR2 := aj.mk (Jd.set1 (i + (1 + z)))
  rw [← hsum.out] at hR2
  have hBl := aj.mk ((ah (Below.refl B0 w) _).trans (hb1.setCell (p := ⟨g, 1, none⟩) hB.out (.int .i64 (i + (lb.size : Int)))))
  clear Jd hb1 c0 c1 c2 c3 f1 f2 f3
  go_wp2
  go_ret
  exact ⟨rfl, by rw [← hsum.out]; exact hR2.out, hBl.out⟩
def bF.l : Nat → ByteArray → Int → Int → Int → ByteArray → Option (ByteArray × Int × Int)
  | 0, _, _, _, _, _ => none
  | k + 1, msg, i, least, next, t =>
    if j5 msg i 1 then
      (if bt msg i = 0 then some (t ++ (⟨#[0]⟩ : ByteArray), (if next = -1 then i + 1 else next), 0)
      else if 192 ≤ bt msg i then
        (if j5 msg i 2 then
          (if iq 2 msg i - 49152 ≥ least then some (⟨#[]⟩, 0, 3)
          else bF.l k msg (iq 2 msg i - 49152) (iq 2 msg i - 49152) (if next = -1 then i + 2 else next) t)
        else some (⟨#[]⟩, 0, 2))
      else if 63 < bt msg i then some (⟨#[]⟩, 0, 3)
      else if gQ msg i (1 + bt msg i) then
        (if (t.size : Int) + (1 + bt msg i) ≥ 255 then some (⟨#[]⟩, 0, 3)
        else bF.l k msg (i + (1 + bt msg i)) least next (t ++ msg.extract i.toNat (i + (1 + bt msg i)).toNat))
      else some (⟨#[]⟩, 0, 2))
    else some (⟨#[]⟩, 0, 2)
def bF.f (k : Nat) (a0 : ByteArray) (a1 : Int) : Option (ByteArray × Int × Int) := if a0.size ≤ 140737488355328 then bF.l k a0 a1 a1 (-1) ⟨#[]⟩ else none
theorem bF.xX : ∀ k m i l n t, kM (bF.l k m i l n t) (bF.l (k + 1) m i l n t)
  | 0, _, _, _, _, _ => fun r h => by simp [bF.l] at h
  | k + 1, m, i, l, n, t => by
    have ih := bF.xX k
    rw [bF.l, bF.l]
    repeat' first
      | (with_reducible exact ih _ _ _ _ _)
      | (with_reducible exact kM.refl _)
      | (with_reducible refine kM.ite ?_ ?_)
theorem bF.mono : ∀ a0 a1 k, kM (bF.f k a0 a1) (bF.f (k + 1) a0 a1) := by
  intro a0 a1 k
  unfold bF.f
  exact kM.ite (bF.xX k _ _ _ _ _) (kM.refl _)
theorem bF.adL (msg : ByteArray) (i : Int) (hs : msg.size ≤ 140737488355328) (hg : j5 msg i 1) : bq.f 9 msg i 1 = some (bt msg i, true) := by
  have h := get_eq 9 (Nat.le_refl _) msg i 1 (by omega)
  rw [if_pos hg] at h
  rw [h]
  congr 1
  exact congrArg (·, true) (DI msg i)
theorem bF.start (w : World) (msg : ByteArray) (i : Int) :
    aC.Rd w.heap.size w.heap.size msg i i (-1) ⟨#[]⟩ (w.alloc (.cells #[.string msg, .int .i64 i, .int .i64 i, .int .i64 (-1), .pointer none, .slice none 0 0] 174)) :=
  ⟨.pointer none, .slice none 0 0, Nat.le_refl _, heap_alloc_new w _, rfl, rfl, .inl rfl, World.ownsRow_nil _ _ _ _, by simp [Value.ownBlock]⟩
def bF.St (R : ByteArray × Int × Int) (B0 g : Nat) (msg : ByteArray) (k : Nat) (x : Int) (w : World) : Prop :=
  (x = 0 ∧ ∃ i l n t, aC.Rd B0 g msg i l n t w ∧ bF.l k msg i l n t = some R ∧ t.size ≤ 255) ∨ (x ≠ 0 ∧ R = (⟨#[]⟩, 0, x))
set_option maxHeartbeats 16000000 in
set_option maxRecDepth 100000 in
theorem bF.calls (k : Nat) (a0 : ByteArray) (a1 : Int) (r1 : ByteArray) (r2 r3 : Int) (w : World) (h : bF.f k a0 a1 = some (r1, r2, r3)) :
    Calls Try.prog 125 #[.string a0, .int .i64 a1] w fun e w' => e = .returned (.tuple #[.string r1, .int .i64 r2, .int .i64 r3]) ∧ Below w.heap.size w w' := by
  unfold bF.f at h
  by_cases hs : a0.size ≤ 140737488355328
  · rw [if_pos hs] at h
    have hR := aj.mk (bF.start w a0 a1)
    have hB := aj.mk (ak (Below.refl w.heap.size w) (.cells #[.string a0, .int .i64 a1, .int .i64 a1, .int .i64 (-1), .pointer none, .slice none 0 0] 174))
    have hH := aj.mk h
    have hsz := aj.mk hs
    clear h hs
    go_enter Try.func125, Try.ntmps125
    go_wp2
    go_step3
    go_wp2
    go_step3
    go_wp2
    have hSt := aj.mk (show bF.St (r1, r2, r3) w.heap.size w.heap.size a0 k 0 _ from .inl ⟨rfl, a1, a1, -1, ⟨#[]⟩, hR.out, hH.out, by decide⟩)
    clear hR hH
    generalize w.alloc (.cells #[.string a0, .int .i64 a1, .int .i64 a1, .int .i64 (-1), .pointer none, .slice none 0 0] 174) = w1 at hSt hB ⊢
    generalize hgg : w.heap.size = g at hSt hB ⊢
    have hg' := aj.mk hgg
    clear hgg
    go_loopg [8] k (fun kq v8 wr => ∃ x : Int, v8 = .int .i64 x ∧ aj (bF.St (r1, r2, r3) g g a0 kq x wr) ∧ aj (kq ≤ k) ∧ aj (Below g w wr))
    case atStart => exact ⟨0, rfl, hSt, ⟨Nat.le_refl _⟩, hB⟩
    case round =>
      clear hSt hB
      obtain ⟨x, rfl, HS, HK, HB⟩ := hrel
      rcases HS.out with ⟨hx, i, l, n, t, hR0, hH0, ht0⟩ | ⟨hx, hR⟩
      · subst hx
        clear HS
        cases gk with
        | zero => exact absurd hH0 (by simp [bF.l])
        | succ k2 =>
          have hR := aj.mk hR0
          have m0 := hR0.cells.1
          have m1 := hR0.cells.2.1
          have hsz' := hsz.out
          have hBs := aj.mk (show g ≤ wr.heap.size by have := hR0.base.2; omega)
          have ht := aj.mk ht0
          rw [bF.l] at hH0
          clear hR0 ht0
          by_cases hg : j5 a0 i 1
          · rw [if_pos hg] at hH0
            have hget := aj.mk (bF.adL a0 i hsz' hg)
            have hi0 := hg.1
            have hi1 : i ≤ 140737488355328 := by have := hg.2.2.2; omega
            have hii := aj.mk (And.intro hi0 hi1)
            have hbr := fZ a0 i
            clear hi0 hi1 hsz' hg
            by_cases c1 : bt a0 i = 0
            · rw [if_pos c1] at hH0
              rw [c1] at hget
              simp only [Option.some.injEq, Prod.mk.injEq] at hH0
              obtain ⟨rfl, h2, rfl⟩ := hH0
              have h2' := aj.mk h2.symm
              clear c1 hbr h2
              go_wp2
              go_quiet ((go_at_call 74; exact Calls.quiet_of ((bq.calls 9 a0 i 1 _ _ _ hget.out).mono fun _ _ h => ⟨h.1, h.2.out⟩)))
              go_wp2_with (go_at_call 129; refine (jK.any g g a0 i l n t _ (hR.out.drewN _) (by simpa using hBs.out) (by have := ht.out; omega) hii.out.1 hii.out.2 r2 h2').mono ?_; rintro e w' ⟨rfl, hb⟩)
              (try rw [Exit.noGoto_ret])
              go_ret3
              exact ⟨rfl, by rw [hg'.out]; exact (ah HB.out _).trans hb⟩
            · rw [if_neg c1] at hH0
              have d1 : (bt a0 i == 0) = false := by simpa using c1
              by_cases c2 : 192 ≤ bt a0 i
              · rw [if_pos c2] at hH0
                have d2 : decide (192 ≤ bt a0 i) = true := decide_eq_true c2
                by_cases c3 : j5 a0 i 2
                · rw [if_pos c3] at hH0
                  by_cases c4 : iq 2 a0 i - 49152 ≥ l
                  · rw [if_pos c4] at hH0
                    simp only [Option.some.injEq, Prod.mk.injEq] at hH0
                    obtain ⟨rfl, rfl, rfl⟩ := hH0
                    have hF := fun (W : World) (hW : aC.Rd g g a0 i l n t W) => aC.name g g a0 i l n t W hW hsz.out c3 c4
                    have hF' := aj.mk hF
                    clear hF c1 c2 c3 c4 hbr
                    generalize bt a0 i = c at *
                    go_wp2
                    go_quiet ((go_at_call 74; exact Calls.quiet_of ((bq.calls 9 a0 i 1 _ _ _ hget.out).mono fun _ _ h => ⟨h.1, h.2.out⟩)))
                    go_wp2_with (go_at_call 130; refine (hF'.out _ (hR.out.drewN _)).mono ?_; rintro e w' ⟨rfl, hR', hb⟩)
                    go_roundg k2
                    case measure => have := HK.out; omega
                    case rel => exact ⟨3, rfl, ⟨.inr ⟨by decide, rfl⟩⟩, ⟨by have := HK.out; omega⟩, ⟨(ah HB.out _).trans hb⟩⟩
                  · rw [if_neg c4] at hH0
                    have hF := fun (W : World) (hW : aC.Rd g g a0 i l n t W) => aC.ok g g a0 i l n t W hW hsz.out c3 (by omega) _ ⟨rfl⟩
                    have hF' := aj.mk hF
                    have hH1 := aj.mk hH0
                    clear hF c1 c2 c3 c4 hbr hH0
                    generalize bt a0 i = c at *
                    go_wp2
                    go_quiet ((go_at_call 74; exact Calls.quiet_of ((bq.calls 9 a0 i 1 _ _ _ hget.out).mono fun _ _ h => ⟨h.1, h.2.out⟩)))
                    go_wp2_with (go_at_call 130; refine (hF'.out _ (hR.out.drewN _)).mono ?_; rintro e w' ⟨rfl, hR', hb⟩)
                    go_roundg k2
                    case measure => have := HK.out; omega
                    case rel => exact ⟨0, rfl, ⟨.inl ⟨rfl, _, _, _, _, hR', hH1.out, ht.out⟩⟩, ⟨by have := HK.out; omega⟩, ⟨(ah HB.out _).trans hb⟩⟩
                · rw [if_neg c3] at hH0
                  simp only [Option.some.injEq, Prod.mk.injEq] at hH0
                  obtain ⟨rfl, rfl, rfl⟩ := hH0
                  have hF := fun (W : World) (hW : aC.Rd g g a0 i l n t W) => aC.cut g g a0 i l n t W hW hsz.out c3
                  have hF' := aj.mk hF
                  clear hF c1 c2 c3 hbr
                  generalize bt a0 i = c at *
                  go_wp2
                  go_quiet ((go_at_call 74; exact Calls.quiet_of ((bq.calls 9 a0 i 1 _ _ _ hget.out).mono fun _ _ h => ⟨h.1, h.2.out⟩)))
                  go_wp2_with (go_at_call 130; refine (hF'.out _ (hR.out.drewN _)).mono ?_; rintro e w' ⟨rfl, hR', hb⟩)
                  go_roundg k2
                  case measure => have := HK.out; omega
                  case rel => exact ⟨2, rfl, ⟨.inr ⟨by decide, rfl⟩⟩, ⟨by have := HK.out; omega⟩, ⟨(ah HB.out _).trans hb⟩⟩
              · rw [if_neg c2] at hH0
                have d2 : decide (192 ≤ bt a0 i) = false := decide_eq_false c2
                by_cases c3 : 63 < bt a0 i
                · rw [if_pos c3] at hH0
                  have d3 : decide (63 < bt a0 i) = true := decide_eq_true c3
                  simp only [Option.some.injEq, Prod.mk.injEq] at hH0
                  obtain ⟨rfl, rfl, rfl⟩ := hH0
                  clear c1 c2 c3 hbr
                  generalize bt a0 i = c at *
                  go_wp2
                  go_quiet ((go_at_call 74; exact Calls.quiet_of ((bq.calls 9 a0 i 1 _ _ _ hget.out).mono fun _ _ h => ⟨h.1, h.2.out⟩)))
                  go_wp2
                  go_roundg k2
                  case measure => have := HK.out; omega
                  case rel => exact ⟨3, rfl, ⟨.inr ⟨by decide, rfl⟩⟩, ⟨by have := HK.out; omega⟩, ⟨ah HB.out _⟩⟩
                · rw [if_neg c3] at hH0
                  have d3 : decide (63 < bt a0 i) = false := decide_eq_false c3
                  by_cases c4 : gQ a0 i (1 + bt a0 i)
                  · rw [if_pos c4] at hH0
                    by_cases c5 : (t.size : Int) + (1 + bt a0 i) ≥ 255
                    · rw [if_pos c5] at hH0
                      simp only [Option.some.injEq, Prod.mk.injEq] at hH0
                      obtain ⟨rfl, rfl, rfl⟩ := hH0
                      have hF := fun (W : World) (hW : aC.Rd g g a0 i l n t W) => dx.name g g a0 i l n (bt a0 i) t W hW hsz.out hbr.1 hbr.2 c4 (by have := ht.out; omega) c5
                      have hF' := aj.mk hF
                      clear hF c1 c2 c3 c4 c5 hbr
                      generalize bt a0 i = c at *
                      go_wp2
                      go_quiet ((go_at_call 74; exact Calls.quiet_of ((bq.calls 9 a0 i 1 _ _ _ hget.out).mono fun _ _ h => ⟨h.1, h.2.out⟩)))
                      go_wp2_with (go_at_call 131; refine (hF'.out _ (hR.out.drewN _)).mono ?_; rintro e w' ⟨rfl, hR', hb⟩)
                      go_roundg k2
                      case measure => have := HK.out; omega
                      case rel => exact ⟨3, rfl, ⟨.inr ⟨by decide, rfl⟩⟩, ⟨by have := HK.out; omega⟩, ⟨(ah HB.out _).trans hb⟩⟩
                    · rw [if_neg c5] at hH0
                      have hF := fun (W : World) (hw : g ≤ W.heap.size) (hW : aC.Rd g g a0 i l n t W) => dx.ok g g a0 i l n (bt a0 i) t W hW hw hsz.out hbr.1 hbr.2 c4 (by omega)
                      have hF' := aj.mk hF
                      have hH1 := aj.mk hH0
                      have hz := B.size_ext c4.1 c4.2.1 c4.2.2
                      have ht2 := aj.mk (show (t ++ a0.extract i.toNat (i + (1 + bt a0 i)).toNat).size ≤ 255 by rw [ByteArray.size_append]; omega)
                      clear hF c1 c2 c3 c4 c5 hbr hH0 hz
                      generalize bt a0 i = c at *
                      go_wp2
                      go_quiet ((go_at_call 74; exact Calls.quiet_of ((bq.calls 9 a0 i 1 _ _ _ hget.out).mono fun _ _ h => ⟨h.1, h.2.out⟩)))
                      go_wp2_with (go_at_call 131; refine (hF'.out _ (by simpa using hBs.out) (hR.out.drewN _)).mono ?_; rintro e w' ⟨rfl, hR', hb⟩)
                      go_roundg k2
                      case measure => have := HK.out; omega
                      case rel => exact ⟨0, rfl, ⟨.inl ⟨rfl, _, _, _, _, hR', hH1.out, ht2.out⟩⟩, ⟨by have := HK.out; omega⟩, ⟨(ah HB.out _).trans hb⟩⟩
                  · rw [if_neg c4] at hH0
                    simp only [Option.some.injEq, Prod.mk.injEq] at hH0
                    obtain ⟨rfl, rfl, rfl⟩ := hH0
                    have hF := fun (W : World) (hW : aC.Rd g g a0 i l n t W) => dx.cut g g a0 i l n (bt a0 i) t W hW hsz.out hbr.1 hbr.2 c4
                    have hF' := aj.mk hF
                    clear hF c1 c2 c3 c4 hbr
                    generalize bt a0 i = c at *
                    go_wp2
                    go_quiet ((go_at_call 74; exact Calls.quiet_of ((bq.calls 9 a0 i 1 _ _ _ hget.out).mono fun _ _ h => ⟨h.1, h.2.out⟩)))
                    go_wp2_with (go_at_call 131; refine (hF'.out _ (hR.out.drewN _)).mono ?_; rintro e w' ⟨rfl, hR', hb⟩)
                    go_roundg k2
                    case measure => have := HK.out; omega
                    case rel => exact ⟨2, rfl, ⟨.inr ⟨by decide, rfl⟩⟩, ⟨by have := HK.out; omega⟩, ⟨(ah HB.out _).trans hb⟩⟩
          · rw [if_neg hg] at hH0
            have h := get_eq 9 (Nat.le_refl _) a0 i 1 (by omega)
            rw [if_neg hg] at h
            have hget := aj.mk h
            simp only [Option.some.injEq, Prod.mk.injEq] at hH0
            obtain ⟨rfl, rfl, rfl⟩ := hH0
            clear hg h hsz'
            go_wp2
            go_quiet ((go_at_call 74; exact Calls.quiet_of ((bq.calls 9 a0 i 1 _ _ _ hget.out).mono fun _ _ h => ⟨h.1, h.2.out⟩)))
            go_wp2
            (try rw [Exit.noGoto_ret])
            go_ret3
            exact ⟨rfl, by rw [hg'.out]; exact ah HB.out _⟩
      · simp only [Prod.mk.injEq] at hR
        obtain ⟨rfl, rfl, rfl⟩ := hR
        have d1 : (r3 == 0) = false := by simpa using hx
        clear HS hx
        go_wp2
        (try rw [Exit.noGoto_ret])
        go_ret3
        exact ⟨rfl, by rw [hg'.out]; exact HB.out⟩
  · rw [if_neg hs] at h
    exact absurd h (by simp)
end Go.Proofs.Ytdkkgecdhapfhaa.ZQ
namespace Go.Proofs.Ytdkkgecdhapfhaa.ZQ
open Go.RowKit Go.Proofs.YtdkkgecdhapfhaaW.bD Go.Proofs.YtdkkgecdhapfhaaW.dV Go.Proofs.YtdkkgecdhapfhaaW.eF
attribute [local go_sem] jh ji j3 j4 iC iD jk jl
def aT.f (a0 : Int) : Option (ByteArray × Int × Int) := some ((⟨#[]⟩ : ByteArray), 0, a0)
set_option maxHeartbeats 8000000 in
set_option maxRecDepth 100000 in
theorem aT.calls (a0 : Int) (r1 : ByteArray) (r2 : Int) (r3 : Int) (w : World) (h : aT.f a0 = some (r1, r2, r3)) :
    Calls Try.prog 124 #[.int .i64 a0] w fun e w' => e = .returned (.tuple #[.string r1, .int .i64 r2, .int .i64 r3]) ∧ aY w w' := by
  have H : (some ((⟨#[]⟩ : ByteArray), 0, a0)) = some (r1, r2, r3) := h
  clear h
  simp only [Option.some.injEq, Prod.mk.injEq] at H
  obtain ⟨rfl, rfl, rfl⟩ := H
  go_enter Try.func124, Try.ntmps124
  go_wp2
  go_ret3
  exact ⟨by first | rfl | (simp; done) | (simp [*]; done), by repeat (first | exact aY.refl _ | apply aY.step)⟩
def aU.l0 : Nat → ByteArray → Int → ByteArray → Int → Int → Option (ByteArray × Int × Int)
  | 0, _, _, _, _, _ => none
  | k + 1, x0, x1, x7, x8, x9 => (av.f k x0 x1 1).bind fun zP => (if zP.2 = true then (if zP.1 = 0 then (if x8 < 0 then (if x7.size + 1 ≤ 9223372036854775807 then (some (x7 ++ (⟨#[0]⟩ : ByteArray), wrap64 (x1 + 1), 0)) else (none)) else (if x7.size + 1 ≤ 9223372036854775807 then (some (x7 ++ (⟨#[0]⟩ : ByteArray), x8, 0)) else (none))) else (if zP.1 ≥ 192 then ((av.f k x0 x1 2).bind fun jQ => (if jQ.2 = true then (if (wrap64 (jQ.1 - 49152)) ≥ x9 then ((aT.f 3).bind fun j6 => (some (j6.1, j6.2.1, j6.2.2))) else (if x8 < 0 then (aU.l0 k x0 (wrap64 (jQ.1 - 49152)) x7 (wrap64 (x1 + 2)) (wrap64 (jQ.1 - 49152))) else (aU.l0 k x0 (wrap64 (jQ.1 - 49152)) x7 x8 (wrap64 (jQ.1 - 49152))))) else ((aT.f 2).bind fun kg => (some (kg.1, kg.2.1, kg.2.2))))) else (if zP.1 > 63 then ((aT.f 3).bind fun oO => (some (oO.1, oO.2.1, oO.2.2))) else ((bC.f x0 x1 (wrap64 (zP.1 + 1))).bind fun mJ => (if mJ.2 = true then (if x7.size + mJ.1.size ≤ 9223372036854775807 then (if (wrap64 (((x7 ++ mJ.1).size : Int) + 1)) > 255 then ((aT.f 3).bind fun ko => (some (ko.1, ko.2.1, ko.2.2))) else (aU.l0 k x0 (wrap64 ((wrap64 (x1 + zP.1)) + 1)) (x7 ++ mJ.1) x8 x9)) else (none)) else ((aT.f 2).bind fun kr => (some (kr.1, kr.2.1, kr.2.2)))))))) else ((aT.f 2).bind fun oP => (some (oP.1, oP.2.1, oP.2.2))))
def aU.f (k : Nat) (a0 : ByteArray) (a1 : Int) : Option (ByteArray × Int × Int) := aU.l0 k a0 a1 (⟨#[]⟩ : ByteArray) (-1) a1
set_option maxHeartbeats 8000000 in
set_option maxRecDepth 100000 in
theorem aU.calls (k : Nat) (a0 : ByteArray) (a1 : Int) (r1 : ByteArray) (r2 : Int) (r3 : Int) (w : World) (h : aU.f k a0 a1 = some (r1, r2, r3)) :
    Calls Try.prog 118 #[.string a0, .int .i64 a1] w fun e w' => e = .returned (.tuple #[.string r1, .int .i64 r2, .int .i64 r3]) ∧ aY w w' := by
  have H : (aU.l0 k a0 a1 (⟨#[]⟩ : ByteArray) (-1) a1) = some (r1, r2, r3) := h
  clear h
  have H' := aj.mk H
  clear H
  go_enter Try.func118, Try.ntmps118
  go_wp2
  go_loopg [1, 7, 8, 9] k (fun kq v1 v7 v8 v9 w' => ∃ (dQ : Int) (dJ : ByteArray) (gF : Int) (iG : Int), v1 = .int .i64 dQ ∧ v7 = .string dJ ∧ v8 = .int .i64 gF ∧ v9 = .int .i64 iG ∧ aj (aU.l0 kq a0 dQ dJ gF iG = some (r1, r2, r3)) ∧ aj (kq ≤ k) ∧ aY w w')
  case atStart => exact ⟨(a1), ((⟨#[]⟩ : ByteArray)), ((-1)), (a1), (by first | rfl | (simp; done) | (simp [*]; done) | (simp [B.aV]; done) | (simp [B.aW]; done)), (by first | rfl | (simp; done) | (simp [*]; done) | (simp [B.aV]; done) | (simp [B.aW]; done)), (by first | rfl | (simp; done) | (simp [*]; done) | (simp [B.aV]; done) | (simp [B.aW]; done)), (by first | rfl | (simp; done) | (simp [*]; done) | (simp [B.aV]; done) | (simp [B.aW]; done)), H', ⟨Nat.le_refl _⟩, by repeat (first | exact aY.refl _ | apply aY.step)⟩
  case round =>
    clear H'
    try clear c1
    try clear p2
    obtain ⟨dQ, dJ, gF, iG, rfl, rfl, rfl, rfl, HA, sW, ⟨m1, rfl⟩⟩ := hrel
    cases gk with
    | zero => exact absurd HA.out (by simp [aU.l0])
    | succ k1 =>
      have H := HA.out
      clear HA
      simp only [aU.l0] at H
      replace H := zbm H
      obtain ⟨⟨iE, Yd⟩, QH, H⟩ := H
      replace H : (if Yd = true then (if iE = 0 then (if gF < 0 then (if dJ.size + 1 ≤ 9223372036854775807 then (some (dJ ++ (⟨#[0]⟩ : ByteArray), wrap64 (dQ + 1), 0)) else (none)) else (if dJ.size + 1 ≤ 9223372036854775807 then (some (dJ ++ (⟨#[0]⟩ : ByteArray), gF, 0)) else (none))) else (if iE ≥ 192 then ((av.f k1 a0 dQ 2).bind fun jQ => (if jQ.2 = true then (if (wrap64 (jQ.1 - 49152)) ≥ iG then ((aT.f 3).bind fun j6 => (some (j6.1, j6.2.1, j6.2.2))) else (if gF < 0 then (aU.l0 k1 a0 (wrap64 (jQ.1 - 49152)) dJ (wrap64 (dQ + 2)) (wrap64 (jQ.1 - 49152))) else (aU.l0 k1 a0 (wrap64 (jQ.1 - 49152)) dJ gF (wrap64 (jQ.1 - 49152))))) else ((aT.f 2).bind fun kg => (some (kg.1, kg.2.1, kg.2.2))))) else (if iE > 63 then ((aT.f 3).bind fun oO => (some (oO.1, oO.2.1, oO.2.2))) else ((bC.f a0 dQ (wrap64 (iE + 1))).bind fun mJ => (if mJ.2 = true then (if dJ.size + mJ.1.size ≤ 9223372036854775807 then (if (wrap64 (((dJ ++ mJ.1).size : Int) + 1)) > 255 then ((aT.f 3).bind fun ko => (some (ko.1, ko.2.1, ko.2.2))) else (aU.l0 k1 a0 (wrap64 ((wrap64 (dQ + iE)) + 1)) (dJ ++ mJ.1) gF iG)) else (none)) else ((aT.f 2).bind fun kr => (some (kr.1, kr.2.1, kr.2.2)))))))) else ((aT.f 2).bind fun oP => (some (oP.1, oP.2.1, oP.2.2)))) = some (r1, r2, r3) := H
      have A3 := aj.mk QH
      clear QH
      by_cases c4 : Yd = true
      · subst c4
        have H1 : (if iE = 0 then (if gF < 0 then (if dJ.size + 1 ≤ 9223372036854775807 then (some (dJ ++ (⟨#[0]⟩ : ByteArray), wrap64 (dQ + 1), 0)) else (none)) else (if dJ.size + 1 ≤ 9223372036854775807 then (some (dJ ++ (⟨#[0]⟩ : ByteArray), gF, 0)) else (none))) else (if iE ≥ 192 then ((av.f k1 a0 dQ 2).bind fun jQ => (if jQ.2 = true then (if (wrap64 (jQ.1 - 49152)) ≥ iG then ((aT.f 3).bind fun j6 => (some (j6.1, j6.2.1, j6.2.2))) else (if gF < 0 then (aU.l0 k1 a0 (wrap64 (jQ.1 - 49152)) dJ (wrap64 (dQ + 2)) (wrap64 (jQ.1 - 49152))) else (aU.l0 k1 a0 (wrap64 (jQ.1 - 49152)) dJ gF (wrap64 (jQ.1 - 49152))))) else ((aT.f 2).bind fun kg => (some (kg.1, kg.2.1, kg.2.2))))) else (if iE > 63 then ((aT.f 3).bind fun oO => (some (oO.1, oO.2.1, oO.2.2))) else ((bC.f a0 dQ (wrap64 (iE + 1))).bind fun mJ => (if mJ.2 = true then (if dJ.size + mJ.1.size ≤ 9223372036854775807 then (if (wrap64 (((dJ ++ mJ.1).size : Int) + 1)) > 255 then ((aT.f 3).bind fun ko => (some (ko.1, ko.2.1, ko.2.2))) else (aU.l0 k1 a0 (wrap64 ((wrap64 (dQ + iE)) + 1)) (dJ ++ mJ.1) gF iG)) else (none)) else ((aT.f 2).bind fun kr => (some (kr.1, kr.2.1, kr.2.2)))))))) = some (r1, r2, r3) := by rw [if_pos rfl] at H; exact H
        clear H
        have H := H1
        clear H1
        by_cases c5 : iE = 0
        · rw [if_pos c5] at H
          have oM : (iE == 0) = true := beq_iff_eq.mpr c5
          have uJ : (iE != 0) = false := bne_eq_false_iff_eq.mpr c5
          clear c5
          by_cases c6 : gF < 0
          · rw [if_pos c6] at H
            have yY : decide (gF < 0) = true := decide_eq_true c6
            clear c6
            by_cases c7 : dJ.size + 1 ≤ 9223372036854775807
            · rw [if_pos c7] at H
              have tJ := eq_true c7
              have Iy : decide (dJ.size + 1 ≤ 9223372036854775807) = true := decide_eq_true c7
              try have N8 : (9223372036854775807 < dJ.size + 1) = False := eq_false (Nat.not_lt.2 c7)
              simp only [Option.some.injEq, Prod.mk.injEq] at H
              obtain ⟨rfl, rfl, rfl⟩ := H
              go_wp2_with (first | ((with_reducible refine aQ (f := 75) rfl ?_); refine bP (some 20) rfl rfl Try.func75 (by kernel_rfl) rfl #[.string a0, .int .i64 dQ, .int .i64 1] rfl (by (try simp only [List.map_toArray, List.map_cons, List.map_nil]); first | done | rfl | (simp only [List.length_drop, List.length_take]; rfl) | (simp only [ByteArray.size_append, Int.natCast_add]; rfl) | (rw [B.dO] <;> first | rfl | omega | (simp only [decide_eq_false_iff_not, decide_eq_true_eq, Int.not_lt, Nat.not_lt, gt_iff_lt] at * <;> omega))) ?_; (with_reducible refine (av.calls k1 a0 dQ 1 iE true _ A3.out).mono ?_); rintro e w' ⟨rfl, ⟨nd, rfl⟩⟩; refine ⟨_, rfl, ?_⟩))
              go_ret3
              exact ⟨by first | rfl | (simp; done) | (simp [*]; done), by repeat (first | exact aY.refl _ | apply aY.step)⟩
            · rw [if_neg c7] at H
              exact absurd H (by simp)
          · rw [if_neg c6] at H
            have yY : decide (gF < 0) = false := decide_eq_false c6
            clear c6
            by_cases c8 : dJ.size + 1 ≤ 9223372036854775807
            · rw [if_pos c8] at H
              have qU := eq_true c8
              have qV : decide (dJ.size + 1 ≤ 9223372036854775807) = true := decide_eq_true c8
              try have Lc : (9223372036854775807 < dJ.size + 1) = False := eq_false (Nat.not_lt.2 c8)
              simp only [Option.some.injEq, Prod.mk.injEq] at H
              obtain ⟨rfl, rfl, rfl⟩ := H
              go_wp2_with (first | ((with_reducible refine aQ (f := 75) rfl ?_); refine bP (some 20) rfl rfl Try.func75 (by kernel_rfl) rfl #[.string a0, .int .i64 dQ, .int .i64 1] rfl (by (try simp only [List.map_toArray, List.map_cons, List.map_nil]); first | done | rfl | (simp only [List.length_drop, List.length_take]; rfl) | (simp only [ByteArray.size_append, Int.natCast_add]; rfl) | (rw [B.dO] <;> first | rfl | omega | (simp only [decide_eq_false_iff_not, decide_eq_true_eq, Int.not_lt, Nat.not_lt, gt_iff_lt] at * <;> omega))) ?_; (with_reducible refine (av.calls k1 a0 dQ 1 iE true _ A3.out).mono ?_); rintro e w' ⟨rfl, ⟨nd, rfl⟩⟩; refine ⟨_, rfl, ?_⟩))
              go_ret3
              exact ⟨by first | rfl | (simp; done) | (simp [*]; done), by repeat (first | exact aY.refl _ | apply aY.step)⟩
            · rw [if_neg c8] at H
              exact absurd H (by simp)
        · rw [if_neg c5] at H
          have oM : (iE == 0) = false := beq_eq_false_iff_ne.mpr c5
          have uJ : (iE != 0) = true := bne_iff_ne.mpr c5
          by_cases c9 : iE ≥ 192
          · rw [if_pos c9] at H
            have sZ : decide (192 ≤ iE) = true := decide_eq_true c9
            clear c9
            replace H := zbm H
            obtain ⟨⟨t141, Ye⟩, Lj, H⟩ := H
            replace H : (if Ye = true then (if (wrap64 (t141 - 49152)) ≥ iG then ((aT.f 3).bind fun j6 => (some (j6.1, j6.2.1, j6.2.2))) else (if gF < 0 then (aU.l0 k1 a0 (wrap64 (t141 - 49152)) dJ (wrap64 (dQ + 2)) (wrap64 (t141 - 49152))) else (aU.l0 k1 a0 (wrap64 (t141 - 49152)) dJ gF (wrap64 (t141 - 49152))))) else ((aT.f 2).bind fun kg => (some (kg.1, kg.2.1, kg.2.2)))) = some (r1, r2, r3) := H
            have QI := aj.mk Lj
            clear Lj
            by_cases c11 : Ye = true
            · subst c11
              have H1 : (if (wrap64 (t141 - 49152)) ≥ iG then ((aT.f 3).bind fun j6 => (some (j6.1, j6.2.1, j6.2.2))) else (if gF < 0 then (aU.l0 k1 a0 (wrap64 (t141 - 49152)) dJ (wrap64 (dQ + 2)) (wrap64 (t141 - 49152))) else (aU.l0 k1 a0 (wrap64 (t141 - 49152)) dJ gF (wrap64 (t141 - 49152))))) = some (r1, r2, r3) := by rw [if_pos rfl] at H; exact H
              clear H
              have H := H1
              clear H1
              by_cases c12 : (wrap64 (t141 - 49152)) ≥ iG
              · rw [if_pos c12] at H
                have tq : decide (iG ≤ (wrap64 (t141 - 49152))) = true := decide_eq_true c12
                (try (have tu : decide (iG ≤ ((t141 - 49152))) = true := by have h_ : decide (iG ≤ (wrap64 (t141 - 49152))) = true := decide_eq_true c12; rw [B.dO (by omega) (by omega)] at h_; exact h_))
                clear c12
                replace H := zbm H
                obtain ⟨⟨t146, Yf, t148⟩, Yg, H⟩ := H
                replace H : (some (t146, Yf, t148)) = some (r1, r2, r3) := H
                have A13 := aj.mk Yg
                clear Yg
                simp only [Option.some.injEq, Prod.mk.injEq] at H
                obtain ⟨rfl, rfl, rfl⟩ := H
                go_wp2_with (first | ((with_reducible refine aQ (f := 75) rfl ?_); refine bP (some 20) rfl rfl Try.func75 (by kernel_rfl) rfl #[.string a0, .int .i64 dQ, .int .i64 1] rfl (by (try simp only [List.map_toArray, List.map_cons, List.map_nil]); first | done | rfl | (simp only [List.length_drop, List.length_take]; rfl) | (simp only [ByteArray.size_append, Int.natCast_add]; rfl) | (rw [B.dO] <;> first | rfl | omega | (simp only [decide_eq_false_iff_not, decide_eq_true_eq, Int.not_lt, Nat.not_lt, gt_iff_lt] at * <;> omega))) ?_; (with_reducible refine (av.calls k1 a0 dQ 1 iE true _ A3.out).mono ?_); rintro e w' ⟨rfl, ⟨nd, rfl⟩⟩; refine ⟨_, rfl, ?_⟩) | ((with_reducible refine aQ (f := 75) rfl ?_); refine bP (some 43) rfl rfl Try.func75 (by kernel_rfl) rfl #[.string a0, .int .i64 dQ, .int .i64 2] rfl (by (try simp only [List.map_toArray, List.map_cons, List.map_nil]); first | done | rfl | (simp only [List.length_drop, List.length_take]; rfl) | (simp only [ByteArray.size_append, Int.natCast_add]; rfl) | (rw [B.dO] <;> first | rfl | omega | (simp only [decide_eq_false_iff_not, decide_eq_true_eq, Int.not_lt, Nat.not_lt, gt_iff_lt] at * <;> omega))) ?_; (with_reducible refine (av.calls k1 a0 dQ 2 t141 true _ QI.out).mono ?_); rintro e w' ⟨rfl, ⟨nd, rfl⟩⟩; refine ⟨_, rfl, ?_⟩) | ((with_reducible refine aQ (f := 124) rfl ?_); refine bP (some 56) rfl rfl Try.func124 (by kernel_rfl) rfl #[.int .i64 3] rfl (by (try simp only [List.map_toArray, List.map_cons, List.map_nil]); first | done | rfl | (simp only [List.length_drop, List.length_take]; rfl) | (simp only [ByteArray.size_append, Int.natCast_add]; rfl) | (rw [B.dO] <;> first | rfl | omega | (simp only [decide_eq_false_iff_not, decide_eq_true_eq, Int.not_lt, Nat.not_lt, gt_iff_lt] at * <;> omega))) ?_; (with_reducible refine (aT.calls 3 t146 Yf t148 _ A13.out).mono ?_); rintro e w' ⟨rfl, ⟨nd, rfl⟩⟩; refine ⟨_, rfl, ?_⟩))
                go_ret3
                exact ⟨by first | rfl | (simp; done) | (simp [*]; done), by repeat (first | exact aY.refl _ | apply aY.step)⟩
              · rw [if_neg c12] at H
                have tq : decide (iG ≤ (wrap64 (t141 - 49152))) = false := decide_eq_false c12
                (try (have tu : decide (iG ≤ ((t141 - 49152))) = false := by have h_ : decide (iG ≤ (wrap64 (t141 - 49152))) = false := decide_eq_false c12; rw [B.dO (by omega) (by omega)] at h_; exact h_))
                clear c12
                by_cases c14 : gF < 0
                · rw [if_pos c14] at H
                  have zO : decide (gF < 0) = true := decide_eq_true c14
                  clear c14
                  have H' := aj.mk H
                  clear H
                  go_wp2_with (first | ((with_reducible refine aQ (f := 75) rfl ?_); refine bP (some 20) rfl rfl Try.func75 (by kernel_rfl) rfl #[.string a0, .int .i64 dQ, .int .i64 1] rfl (by (try simp only [List.map_toArray, List.map_cons, List.map_nil]); first | done | rfl | (simp only [List.length_drop, List.length_take]; rfl) | (simp only [ByteArray.size_append, Int.natCast_add]; rfl) | (rw [B.dO] <;> first | rfl | omega | (simp only [decide_eq_false_iff_not, decide_eq_true_eq, Int.not_lt, Nat.not_lt, gt_iff_lt] at * <;> omega))) ?_; (with_reducible refine (av.calls k1 a0 dQ 1 iE true _ A3.out).mono ?_); rintro e w' ⟨rfl, ⟨nd, rfl⟩⟩; refine ⟨_, rfl, ?_⟩) | ((with_reducible refine aQ (f := 75) rfl ?_); refine bP (some 43) rfl rfl Try.func75 (by kernel_rfl) rfl #[.string a0, .int .i64 dQ, .int .i64 2] rfl (by (try simp only [List.map_toArray, List.map_cons, List.map_nil]); first | done | rfl | (simp only [List.length_drop, List.length_take]; rfl) | (simp only [ByteArray.size_append, Int.natCast_add]; rfl) | (rw [B.dO] <;> first | rfl | omega | (simp only [decide_eq_false_iff_not, decide_eq_true_eq, Int.not_lt, Nat.not_lt, gt_iff_lt] at * <;> omega))) ?_; (with_reducible refine (av.calls k1 a0 dQ 2 t141 true _ QI.out).mono ?_); rintro e w' ⟨rfl, ⟨nd, rfl⟩⟩; refine ⟨_, rfl, ?_⟩))
                  go_roundg k1
                  case measure => have := sW.out; omega
                  case rel => exact ⟨(wrap64 (t141 - 49152)), (dJ), (wrap64 (dQ + 2)), (wrap64 (t141 - 49152)), (by first | rfl | (simp; done) | (simp [*]; done) | (simp [B.aV]; done) | (simp [B.aW]; done)), (by first | rfl | (simp; done) | (simp [*]; done) | (simp [B.aV]; done) | (simp [B.aW]; done)), (by first | rfl | (simp; done) | (simp [*]; done) | (simp [B.aV]; done) | (simp [B.aW]; done)), (by first | rfl | (simp; done) | (simp [*]; done) | (simp [B.aV]; done) | (simp [B.aW]; done)), H', ⟨by have := sW.out; omega⟩, by repeat (first | exact aY.refl _ | apply aY.step)⟩
                · rw [if_neg c14] at H
                  have zO : decide (gF < 0) = false := decide_eq_false c14
                  clear c14
                  have H' := aj.mk H
                  clear H
                  go_wp2_with (first | ((with_reducible refine aQ (f := 75) rfl ?_); refine bP (some 20) rfl rfl Try.func75 (by kernel_rfl) rfl #[.string a0, .int .i64 dQ, .int .i64 1] rfl (by (try simp only [List.map_toArray, List.map_cons, List.map_nil]); first | done | rfl | (simp only [List.length_drop, List.length_take]; rfl) | (simp only [ByteArray.size_append, Int.natCast_add]; rfl) | (rw [B.dO] <;> first | rfl | omega | (simp only [decide_eq_false_iff_not, decide_eq_true_eq, Int.not_lt, Nat.not_lt, gt_iff_lt] at * <;> omega))) ?_; (with_reducible refine (av.calls k1 a0 dQ 1 iE true _ A3.out).mono ?_); rintro e w' ⟨rfl, ⟨nd, rfl⟩⟩; refine ⟨_, rfl, ?_⟩) | ((with_reducible refine aQ (f := 75) rfl ?_); refine bP (some 43) rfl rfl Try.func75 (by kernel_rfl) rfl #[.string a0, .int .i64 dQ, .int .i64 2] rfl (by (try simp only [List.map_toArray, List.map_cons, List.map_nil]); first | done | rfl | (simp only [List.length_drop, List.length_take]; rfl) | (simp only [ByteArray.size_append, Int.natCast_add]; rfl) | (rw [B.dO] <;> first | rfl | omega | (simp only [decide_eq_false_iff_not, decide_eq_true_eq, Int.not_lt, Nat.not_lt, gt_iff_lt] at * <;> omega))) ?_; (with_reducible refine (av.calls k1 a0 dQ 2 t141 true _ QI.out).mono ?_); rintro e w' ⟨rfl, ⟨nd, rfl⟩⟩; refine ⟨_, rfl, ?_⟩))
                  go_roundg k1
                  case measure => have := sW.out; omega
                  case rel => exact ⟨(wrap64 (t141 - 49152)), (dJ), (gF), (wrap64 (t141 - 49152)), (by first | rfl | (simp; done) | (simp [*]; done) | (simp [B.aV]; done) | (simp [B.aW]; done)), (by first | rfl | (simp; done) | (simp [*]; done) | (simp [B.aV]; done) | (simp [B.aW]; done)), (by first | rfl | (simp; done) | (simp [*]; done) | (simp [B.aV]; done) | (simp [B.aW]; done)), (by first | rfl | (simp; done) | (simp [*]; done) | (simp [B.aV]; done) | (simp [B.aW]; done)), H', ⟨by have := sW.out; omega⟩, by repeat (first | exact aY.refl _ | apply aY.step)⟩
            · replace c11 := Bool.eq_false_iff.mpr c11
              subst c11
              have H1 : ((aT.f 2).bind fun kg => (some (kg.1, kg.2.1, kg.2.2))) = some (r1, r2, r3) := by rw [if_neg (show ¬ (false = true) by decide)] at H; exact H
              clear H
              have H := H1
              clear H1
              replace H := zbm H
              obtain ⟨⟨t143, Yh, t145⟩, Yi, H⟩ := H
              replace H : (some (t143, Yh, t145)) = some (r1, r2, r3) := H
              have A15 := aj.mk Yi
              clear Yi
              simp only [Option.some.injEq, Prod.mk.injEq] at H
              obtain ⟨rfl, rfl, rfl⟩ := H
              go_wp2_with (first | ((with_reducible refine aQ (f := 75) rfl ?_); refine bP (some 20) rfl rfl Try.func75 (by kernel_rfl) rfl #[.string a0, .int .i64 dQ, .int .i64 1] rfl (by (try simp only [List.map_toArray, List.map_cons, List.map_nil]); first | done | rfl | (simp only [List.length_drop, List.length_take]; rfl) | (simp only [ByteArray.size_append, Int.natCast_add]; rfl) | (rw [B.dO] <;> first | rfl | omega | (simp only [decide_eq_false_iff_not, decide_eq_true_eq, Int.not_lt, Nat.not_lt, gt_iff_lt] at * <;> omega))) ?_; (with_reducible refine (av.calls k1 a0 dQ 1 iE true _ A3.out).mono ?_); rintro e w' ⟨rfl, ⟨nd, rfl⟩⟩; refine ⟨_, rfl, ?_⟩) | ((with_reducible refine aQ (f := 75) rfl ?_); refine bP (some 43) rfl rfl Try.func75 (by kernel_rfl) rfl #[.string a0, .int .i64 dQ, .int .i64 2] rfl (by (try simp only [List.map_toArray, List.map_cons, List.map_nil]); first | done | rfl | (simp only [List.length_drop, List.length_take]; rfl) | (simp only [ByteArray.size_append, Int.natCast_add]; rfl) | (rw [B.dO] <;> first | rfl | omega | (simp only [decide_eq_false_iff_not, decide_eq_true_eq, Int.not_lt, Nat.not_lt, gt_iff_lt] at * <;> omega))) ?_; (with_reducible refine (av.calls k1 a0 dQ 2 t141 false _ QI.out).mono ?_); rintro e w' ⟨rfl, ⟨nd, rfl⟩⟩; refine ⟨_, rfl, ?_⟩) | ((with_reducible refine aQ (f := 124) rfl ?_); refine bP (some 48) rfl rfl Try.func124 (by kernel_rfl) rfl #[.int .i64 2] rfl (by (try simp only [List.map_toArray, List.map_cons, List.map_nil]); first | done | rfl | (simp only [List.length_drop, List.length_take]; rfl) | (simp only [ByteArray.size_append, Int.natCast_add]; rfl) | (rw [B.dO] <;> first | rfl | omega | (simp only [decide_eq_false_iff_not, decide_eq_true_eq, Int.not_lt, Nat.not_lt, gt_iff_lt] at * <;> omega))) ?_; (with_reducible refine (aT.calls 2 t143 Yh t145 _ A15.out).mono ?_); rintro e w' ⟨rfl, ⟨nd, rfl⟩⟩; refine ⟨_, rfl, ?_⟩))
              go_ret3
              exact ⟨by first | rfl | (simp; done) | (simp [*]; done), by repeat (first | exact aY.refl _ | apply aY.step)⟩
          · rw [if_neg c9] at H
            have sZ : decide (192 ≤ iE) = false := decide_eq_false c9
            clear c9
            by_cases c16 : iE > 63
            · rw [if_pos c16] at H
              have Gh : decide (63 < iE) = true := decide_eq_true c16
              clear c16
              replace H := zbm H
              obtain ⟨⟨Yj, Yk, Yl⟩, Ym, H⟩ := H
              replace H : (some (Yj, Yk, Yl)) = some (r1, r2, r3) := H
              have A17 := aj.mk Ym
              clear Ym
              simp only [Option.some.injEq, Prod.mk.injEq] at H
              obtain ⟨rfl, rfl, rfl⟩ := H
              go_wp2_with (first | ((with_reducible refine aQ (f := 75) rfl ?_); refine bP (some 20) rfl rfl Try.func75 (by kernel_rfl) rfl #[.string a0, .int .i64 dQ, .int .i64 1] rfl (by (try simp only [List.map_toArray, List.map_cons, List.map_nil]); first | done | rfl | (simp only [List.length_drop, List.length_take]; rfl) | (simp only [ByteArray.size_append, Int.natCast_add]; rfl) | (rw [B.dO] <;> first | rfl | omega | (simp only [decide_eq_false_iff_not, decide_eq_true_eq, Int.not_lt, Nat.not_lt, gt_iff_lt] at * <;> omega))) ?_; (with_reducible refine (av.calls k1 a0 dQ 1 iE true _ A3.out).mono ?_); rintro e w' ⟨rfl, ⟨nd, rfl⟩⟩; refine ⟨_, rfl, ?_⟩) | ((with_reducible refine aQ (f := 124) rfl ?_); refine bP (some 69) rfl rfl Try.func124 (by kernel_rfl) rfl #[.int .i64 3] rfl (by (try simp only [List.map_toArray, List.map_cons, List.map_nil]); first | done | rfl | (simp only [List.length_drop, List.length_take]; rfl) | (simp only [ByteArray.size_append, Int.natCast_add]; rfl) | (rw [B.dO] <;> first | rfl | omega | (simp only [decide_eq_false_iff_not, decide_eq_true_eq, Int.not_lt, Nat.not_lt, gt_iff_lt] at * <;> omega))) ?_; (with_reducible refine (aT.calls 3 Yj Yk Yl _ A17.out).mono ?_); rintro e w' ⟨rfl, ⟨nd, rfl⟩⟩; refine ⟨_, rfl, ?_⟩))
              go_ret3
              exact ⟨by first | rfl | (simp; done) | (simp [*]; done), by repeat (first | exact aY.refl _ | apply aY.step)⟩
            · rw [if_neg c16] at H
              have Gh : decide (63 < iE) = false := decide_eq_false c16
              clear c16
              replace H := zbm H
              obtain ⟨⟨t152, Yn⟩, Ll, H⟩ := H
              replace H : (if Yn = true then (if dJ.size + t152.size ≤ 9223372036854775807 then (if (wrap64 (((dJ ++ t152).size : Int) + 1)) > 255 then ((aT.f 3).bind fun ko => (some (ko.1, ko.2.1, ko.2.2))) else (aU.l0 k1 a0 (wrap64 ((wrap64 (dQ + iE)) + 1)) (dJ ++ t152) gF iG)) else (none)) else ((aT.f 2).bind fun kr => (some (kr.1, kr.2.1, kr.2.2)))) = some (r1, r2, r3) := H
              have TQ := aj.mk Ll
              clear Ll
              by_cases c19 : Yn = true
              · subst c19
                have H1 : (if dJ.size + t152.size ≤ 9223372036854775807 then (if (wrap64 (((dJ ++ t152).size : Int) + 1)) > 255 then ((aT.f 3).bind fun ko => (some (ko.1, ko.2.1, ko.2.2))) else (aU.l0 k1 a0 (wrap64 ((wrap64 (dQ + iE)) + 1)) (dJ ++ t152) gF iG)) else (none)) = some (r1, r2, r3) := by rw [if_pos rfl] at H; exact H
                clear H
                have H := H1
                clear H1
                by_cases c20 : dJ.size + t152.size ≤ 9223372036854775807
                · rw [if_pos c20] at H
                  have Lm := eq_true c20
                  have Yo : decide (dJ.size + t152.size ≤ 9223372036854775807) = true := decide_eq_true c20
                  try have ae3 : (9223372036854775807 < dJ.size + t152.size) = False := eq_false (Nat.not_lt.2 c20)
                  by_cases c21 : (wrap64 (((dJ ++ t152).size : Int) + 1)) > 255
                  · rw [if_pos c21] at H
                    have QJ : decide (255 < (wrap64 (((dJ ++ t152).size : Int) + 1))) = true := decide_eq_true c21
                    (try (have QK : decide (255 < (wrap64 (((dJ.size : Int) + (t152.size : Int)) + 1))) = true := by have h_ : decide (255 < (wrap64 (((dJ ++ t152).size : Int) + 1))) = true := decide_eq_true c21; rw [show ((dJ ++ t152).size : Int) = ((dJ.size : Int) + (t152.size : Int)) from by (simp only [ByteArray.size_append, Int.natCast_add]; first | done | rfl)] at h_; (first | exact h_ | (simp only [Int.add_sub_cancel] at h_; exact h_))))
                    (try (have Yp : decide (255 < ((((dJ ++ t152).size : Int) + 1))) = true := by have h_ : decide (255 < (wrap64 (((dJ ++ t152).size : Int) + 1))) = true := decide_eq_true c21; rw [B.dO (by omega) (by omega)] at h_; exact h_))
                    (try (have Yq : decide (255 < ((((dJ.size : Int) + (t152.size : Int)) + 1))) = true := by have h_ : decide (255 < (wrap64 (((dJ.size : Int) + (t152.size : Int)) + 1))) = true := by have h_ : decide (255 < (wrap64 (((dJ ++ t152).size : Int) + 1))) = true := decide_eq_true c21; rw [show ((dJ ++ t152).size : Int) = ((dJ.size : Int) + (t152.size : Int)) from by (simp only [ByteArray.size_append, Int.natCast_add]; first | done | rfl)] at h_; (first | exact h_ | (simp only [Int.add_sub_cancel] at h_; exact h_)); rw [B.dO (by omega) (by omega)] at h_; exact h_))
                    clear c21
                    replace H := zbm H
                    obtain ⟨⟨t154, Yr, t156⟩, Yt, H⟩ := H
                    replace H : (some (t154, Yr, t156)) = some (r1, r2, r3) := H
                    have A22 := aj.mk Yt
                    clear Yt
                    simp only [Option.some.injEq, Prod.mk.injEq] at H
                    obtain ⟨rfl, rfl, rfl⟩ := H
                    go_wp2_with (first | ((with_reducible refine aQ (f := 75) rfl ?_); refine bP (some 20) rfl rfl Try.func75 (by kernel_rfl) rfl #[.string a0, .int .i64 dQ, .int .i64 1] rfl (by (try simp only [List.map_toArray, List.map_cons, List.map_nil]); first | done | rfl | (simp only [List.length_drop, List.length_take]; rfl) | (simp only [ByteArray.size_append, Int.natCast_add]; rfl) | (rw [B.dO] <;> first | rfl | omega | (simp only [decide_eq_false_iff_not, decide_eq_true_eq, Int.not_lt, Nat.not_lt, gt_iff_lt] at * <;> omega))) ?_; (with_reducible refine (av.calls k1 a0 dQ 1 iE true _ A3.out).mono ?_); rintro e w' ⟨rfl, ⟨nd, rfl⟩⟩; refine ⟨_, rfl, ?_⟩) | ((with_reducible refine aQ (f := 99) rfl ?_); refine bP (some 78) rfl rfl Try.func99 (by kernel_rfl) rfl #[.string a0, .int .i64 dQ, .int .i64 (wrap64 (iE + 1))] rfl (by (try simp only [List.map_toArray, List.map_cons, List.map_nil]); first | done | rfl | (simp only [List.length_drop, List.length_take]; rfl) | (simp only [ByteArray.size_append, Int.natCast_add]; rfl) | (rw [B.dO] <;> first | rfl | omega | (simp only [decide_eq_false_iff_not, decide_eq_true_eq, Int.not_lt, Nat.not_lt, gt_iff_lt] at * <;> omega))) ?_; (with_reducible refine (bC.calls a0 dQ (wrap64 (iE + 1)) t152 true _ TQ.out).mono ?_); rintro e w' ⟨rfl, ⟨nd, rfl⟩⟩; refine ⟨_, rfl, ?_⟩) | ((with_reducible refine aQ (f := 124) rfl ?_); refine bP (some 94) rfl rfl Try.func124 (by kernel_rfl) rfl #[.int .i64 3] rfl (by (try simp only [List.map_toArray, List.map_cons, List.map_nil]); first | done | rfl | (simp only [List.length_drop, List.length_take]; rfl) | (simp only [ByteArray.size_append, Int.natCast_add]; rfl) | (rw [B.dO] <;> first | rfl | omega | (simp only [decide_eq_false_iff_not, decide_eq_true_eq, Int.not_lt, Nat.not_lt, gt_iff_lt] at * <;> omega))) ?_; (with_reducible refine (aT.calls 3 t154 Yr t156 _ A22.out).mono ?_); rintro e w' ⟨rfl, ⟨nd, rfl⟩⟩; refine ⟨_, rfl, ?_⟩))
                    go_ret3
                    exact ⟨by first | rfl | (simp; done) | (simp [*]; done), by repeat (first | exact aY.refl _ | apply aY.step)⟩
                  · rw [if_neg c21] at H
                    have QJ : decide (255 < (wrap64 (((dJ ++ t152).size : Int) + 1))) = false := decide_eq_false c21
                    (try (have QK : decide (255 < (wrap64 (((dJ.size : Int) + (t152.size : Int)) + 1))) = false := by have h_ : decide (255 < (wrap64 (((dJ ++ t152).size : Int) + 1))) = false := decide_eq_false c21; rw [show ((dJ ++ t152).size : Int) = ((dJ.size : Int) + (t152.size : Int)) from by (simp only [ByteArray.size_append, Int.natCast_add]; first | done | rfl)] at h_; (first | exact h_ | (simp only [Int.add_sub_cancel] at h_; exact h_))))
                    (try (have Yp : decide (255 < ((((dJ ++ t152).size : Int) + 1))) = false := by have h_ : decide (255 < (wrap64 (((dJ ++ t152).size : Int) + 1))) = false := decide_eq_false c21; rw [B.dO (by omega) (by omega)] at h_; exact h_))
                    (try (have Yq : decide (255 < ((((dJ.size : Int) + (t152.size : Int)) + 1))) = false := by have h_ : decide (255 < (wrap64 (((dJ.size : Int) + (t152.size : Int)) + 1))) = false := by have h_ : decide (255 < (wrap64 (((dJ ++ t152).size : Int) + 1))) = false := decide_eq_false c21; rw [show ((dJ ++ t152).size : Int) = ((dJ.size : Int) + (t152.size : Int)) from by (simp only [ByteArray.size_append, Int.natCast_add]; first | done | rfl)] at h_; (first | exact h_ | (simp only [Int.add_sub_cancel] at h_; exact h_)); rw [B.dO (by omega) (by omega)] at h_; exact h_))
                    clear c21
                    have H' := aj.mk H
                    clear H
                    go_wp2_with (first | ((with_reducible refine aQ (f := 75) rfl ?_); refine bP (some 20) rfl rfl Try.func75 (by kernel_rfl) rfl #[.string a0, .int .i64 dQ, .int .i64 1] rfl (by (try simp only [List.map_toArray, List.map_cons, List.map_nil]); first | done | rfl | (simp only [List.length_drop, List.length_take]; rfl) | (simp only [ByteArray.size_append, Int.natCast_add]; rfl) | (rw [B.dO] <;> first | rfl | omega | (simp only [decide_eq_false_iff_not, decide_eq_true_eq, Int.not_lt, Nat.not_lt, gt_iff_lt] at * <;> omega))) ?_; (with_reducible refine (av.calls k1 a0 dQ 1 iE true _ A3.out).mono ?_); rintro e w' ⟨rfl, ⟨nd, rfl⟩⟩; refine ⟨_, rfl, ?_⟩) | ((with_reducible refine aQ (f := 99) rfl ?_); refine bP (some 78) rfl rfl Try.func99 (by kernel_rfl) rfl #[.string a0, .int .i64 dQ, .int .i64 (wrap64 (iE + 1))] rfl (by (try simp only [List.map_toArray, List.map_cons, List.map_nil]); first | done | rfl | (simp only [List.length_drop, List.length_take]; rfl) | (simp only [ByteArray.size_append, Int.natCast_add]; rfl) | (rw [B.dO] <;> first | rfl | omega | (simp only [decide_eq_false_iff_not, decide_eq_true_eq, Int.not_lt, Nat.not_lt, gt_iff_lt] at * <;> omega))) ?_; (with_reducible refine (bC.calls a0 dQ (wrap64 (iE + 1)) t152 true _ TQ.out).mono ?_); rintro e w' ⟨rfl, ⟨nd, rfl⟩⟩; refine ⟨_, rfl, ?_⟩))
                    go_roundg k1
                    case measure => have := sW.out; omega
                    case rel => exact ⟨(wrap64 ((wrap64 (dQ + iE)) + 1)), (dJ ++ t152), (gF), (iG), (by first | rfl | (simp; done) | (simp [*]; done) | (simp [B.aV]; done) | (simp [B.aW]; done)), (by first | rfl | (simp; done) | (simp [*]; done) | (simp [B.aV]; done) | (simp [B.aW]; done)), (by first | rfl | (simp; done) | (simp [*]; done) | (simp [B.aV]; done) | (simp [B.aW]; done)), (by first | rfl | (simp; done) | (simp [*]; done) | (simp [B.aV]; done) | (simp [B.aW]; done)), H', ⟨by have := sW.out; omega⟩, by repeat (first | exact aY.refl _ | apply aY.step)⟩
                · rw [if_neg c20] at H
                  exact absurd H (by simp)
              · replace c19 := Bool.eq_false_iff.mpr c19
                subst c19
                have H1 : ((aT.f 2).bind fun kr => (some (kr.1, kr.2.1, kr.2.2))) = some (r1, r2, r3) := by rw [if_neg (show ¬ (false = true) by decide)] at H; exact H
                clear H
                have H := H1
                clear H1
                replace H := zbm H
                obtain ⟨⟨t157, Yu, t159⟩, Yv, H⟩ := H
                replace H : (some (t157, Yu, t159)) = some (r1, r2, r3) := H
                have A23 := aj.mk Yv
                clear Yv
                simp only [Option.some.injEq, Prod.mk.injEq] at H
                obtain ⟨rfl, rfl, rfl⟩ := H
                go_wp2_with (first | ((with_reducible refine aQ (f := 75) rfl ?_); refine bP (some 20) rfl rfl Try.func75 (by kernel_rfl) rfl #[.string a0, .int .i64 dQ, .int .i64 1] rfl (by (try simp only [List.map_toArray, List.map_cons, List.map_nil]); first | done | rfl | (simp only [List.length_drop, List.length_take]; rfl) | (simp only [ByteArray.size_append, Int.natCast_add]; rfl) | (rw [B.dO] <;> first | rfl | omega | (simp only [decide_eq_false_iff_not, decide_eq_true_eq, Int.not_lt, Nat.not_lt, gt_iff_lt] at * <;> omega))) ?_; (with_reducible refine (av.calls k1 a0 dQ 1 iE true _ A3.out).mono ?_); rintro e w' ⟨rfl, ⟨nd, rfl⟩⟩; refine ⟨_, rfl, ?_⟩) | ((with_reducible refine aQ (f := 99) rfl ?_); refine bP (some 78) rfl rfl Try.func99 (by kernel_rfl) rfl #[.string a0, .int .i64 dQ, .int .i64 (wrap64 (iE + 1))] rfl (by (try simp only [List.map_toArray, List.map_cons, List.map_nil]); first | done | rfl | (simp only [List.length_drop, List.length_take]; rfl) | (simp only [ByteArray.size_append, Int.natCast_add]; rfl) | (rw [B.dO] <;> first | rfl | omega | (simp only [decide_eq_false_iff_not, decide_eq_true_eq, Int.not_lt, Nat.not_lt, gt_iff_lt] at * <;> omega))) ?_; (with_reducible refine (bC.calls a0 dQ (wrap64 (iE + 1)) t152 false _ TQ.out).mono ?_); rintro e w' ⟨rfl, ⟨nd, rfl⟩⟩; refine ⟨_, rfl, ?_⟩) | ((with_reducible refine aQ (f := 124) rfl ?_); refine bP (some 83) rfl rfl Try.func124 (by kernel_rfl) rfl #[.int .i64 2] rfl (by (try simp only [List.map_toArray, List.map_cons, List.map_nil]); first | done | rfl | (simp only [List.length_drop, List.length_take]; rfl) | (simp only [ByteArray.size_append, Int.natCast_add]; rfl) | (rw [B.dO] <;> first | rfl | omega | (simp only [decide_eq_false_iff_not, decide_eq_true_eq, Int.not_lt, Nat.not_lt, gt_iff_lt] at * <;> omega))) ?_; (with_reducible refine (aT.calls 2 t157 Yu t159 _ A23.out).mono ?_); rintro e w' ⟨rfl, ⟨nd, rfl⟩⟩; refine ⟨_, rfl, ?_⟩))
                go_ret3
                exact ⟨by first | rfl | (simp; done) | (simp [*]; done), by repeat (first | exact aY.refl _ | apply aY.step)⟩
      · replace c4 := Bool.eq_false_iff.mpr c4
        subst c4
        have H1 : ((aT.f 2).bind fun oP => (some (oP.1, oP.2.1, oP.2.2))) = some (r1, r2, r3) := by rw [if_neg (show ¬ (false = true) by decide)] at H; exact H
        clear H
        have H := H1
        clear H1
        replace H := zbm H
        obtain ⟨⟨t138, t139, Yw⟩, Yx, H⟩ := H
        replace H : (some (t138, t139, Yw)) = some (r1, r2, r3) := H
        have A24 := aj.mk Yx
        clear Yx
        simp only [Option.some.injEq, Prod.mk.injEq] at H
        obtain ⟨rfl, rfl, rfl⟩ := H
        go_wp2_with (first | ((with_reducible refine aQ (f := 75) rfl ?_); refine bP (some 20) rfl rfl Try.func75 (by kernel_rfl) rfl #[.string a0, .int .i64 dQ, .int .i64 1] rfl (by (try simp only [List.map_toArray, List.map_cons, List.map_nil]); first | done | rfl | (simp only [List.length_drop, List.length_take]; rfl) | (simp only [ByteArray.size_append, Int.natCast_add]; rfl) | (rw [B.dO] <;> first | rfl | omega | (simp only [decide_eq_false_iff_not, decide_eq_true_eq, Int.not_lt, Nat.not_lt, gt_iff_lt] at * <;> omega))) ?_; (with_reducible refine (av.calls k1 a0 dQ 1 iE false _ A3.out).mono ?_); rintro e w' ⟨rfl, ⟨nd, rfl⟩⟩; refine ⟨_, rfl, ?_⟩) | ((with_reducible refine aQ (f := 124) rfl ?_); refine bP (some 25) rfl rfl Try.func124 (by kernel_rfl) rfl #[.int .i64 2] rfl (by (try simp only [List.map_toArray, List.map_cons, List.map_nil]); first | done | rfl | (simp only [List.length_drop, List.length_take]; rfl) | (simp only [ByteArray.size_append, Int.natCast_add]; rfl) | (rw [B.dO] <;> first | rfl | omega | (simp only [decide_eq_false_iff_not, decide_eq_true_eq, Int.not_lt, Nat.not_lt, gt_iff_lt] at * <;> omega))) ?_; (with_reducible refine (aT.calls 2 t138 t139 Yw _ A24.out).mono ?_); rintro e w' ⟨rfl, ⟨nd, rfl⟩⟩; refine ⟨_, rfl, ?_⟩))
        go_ret3
        exact ⟨by first | rfl | (simp; done) | (simp [*]; done), by repeat (first | exact aY.refl _ | apply aY.step)⟩
end Go.Proofs.Ytdkkgecdhapfhaa.ZQ
namespace Go.Proofs.Ytdkkgecdhapfhaa.ZQ
open Go.RowKit Go.Proofs.YtdkkgecdhapfhaaW.bD Go.Proofs.YtdkkgecdhapfhaaW.dV Go.Proofs.YtdkkgecdhapfhaaW.eF Go.Proofs.Ytdkkgecdhapfhaa.B
theorem Gp {msg : ByteArray} {i : Int} (h : 192 ≤ bt msg i) : 49152 ≤ iq 2 msg i ∧ iq 2 msg i ≤ 65535 := by
  have h1 := fZ msg i
  have h2 := fZ msg (i + 1)
  simp [iq]
  omega
theorem adM (a b : Nat) (c : Int) (h : (b : Int) = 1 + c) (ha : a ≤ 254) (hb : c ≤ 63) (h0 : 0 ≤ c) : wrap64 (((a + b : Nat) : Int) + 1) = a + (1 + c) + 1 := by
  rw [dO (by omega) (by omega)]; omega
set_option maxHeartbeats 4000000 in
theorem IC (d : Nat) : ∀ (k : Nat) (msg : ByteArray) (i l n : Int) (t : ByteArray), l.toNat + (255 - t.size) < d → d + 10 ≤ k → msg.size ≤ 100000 → t.size ≤ 254 → (n = -1 ∨ 0 ≤ n) →
    ∃ R, bF.l k msg i l n t = some R ∧ aU.l0 k msg i t n l = some R := by
  induction d with
  | zero => intro k msg i l n t h; omega
  | succ d ih =>
    intro k msg i l n t hd hk hm ht hn
    obtain ⟨k, rfl⟩ : ∃ m, k = m + 1 := ⟨k - 1, by omega⟩
    rw [bF.l, aU.l0, xY k (by omega) msg i 1 (by omega), xY k (by omega) msg i 2 (by omega)]
    simp only [Option.bind_some]
    by_cases g1 : j5 msg i 1
    · have hr := fZ msg i
      have e1 : iq (1 : Int).toNat msg i = bt msg i := DI msg i
      have hi0 := g1.1
      have hi1 := g1.2.2.2
      simp only [if_pos g1, e1, if_true]
      by_cases c0 : bt msg i = 0
      · simp only [if_pos c0]
        have z : t.size + 1 ≤ 9223372036854775807 := by omega
        simp only [if_pos z]
        rw [dO (n := i + 1) (by omega) (by omega)]
        rcases hn with rfl | hn
        · rw [if_pos (show (-1 : Int) < 0 by omega), if_pos rfl]; exact ⟨_, rfl, rfl⟩
        · rw [if_neg (show ¬ n < 0 by omega), if_neg (show ¬ n = -1 by omega)]; exact ⟨_, rfl, rfl⟩
      · simp only [if_neg c0]
        by_cases c1 : 192 ≤ bt msg i
        · have hg := Gp c1
          simp only [if_pos c1, if_pos (show bt msg i ≥ 192 from c1)]
          by_cases g2 : j5 msg i 2
          · have e2 : iq (2 : Int).toNat msg i = iq 2 msg i := rfl
            have hi2 := g2.2.2.2
            simp only [if_pos g2, e2, if_true]
            rw [dO (n := iq 2 msg i - 49152) (by omega) (by omega), dO (n := i + 2) (by omega) (by omega)]
            by_cases c2 : iq 2 msg i - 49152 ≥ l
            · rw [if_pos c2, if_pos c2]
              exact ⟨_, rfl, rfl⟩
            · rw [if_neg c2, if_neg c2]
              rcases hn with rfl | hn
              · rw [if_pos (show (-1 : Int) < 0 by omega), if_pos rfl]
                exact ih k msg _ _ _ t (by omega) (by omega) hm ht (.inr (by omega))
              · rw [if_neg (show ¬ n < 0 by omega), if_neg (show ¬ n = -1 by omega)]
                exact ih k msg _ _ _ t (by omega) (by omega) hm ht (.inr hn)
          · simp only [if_neg g2, Bool.false_eq_true, if_false]
            exact ⟨_, rfl, rfl⟩
        · simp only [if_neg c1, if_neg (show ¬ bt msg i ≥ 192 from c1)]
          by_cases c2 : 63 < bt msg i
          · rw [if_pos c2, if_pos (show bt msg i > 63 from c2)]
            exact ⟨_, rfl, rfl⟩
          · rw [if_neg c2, if_neg (show ¬ bt msg i > 63 from c2), dO (n := bt msg i + 1) (by omega) (by omega), oN msg i _ (by omega), show bt msg i + 1 = 1 + bt msg i from by omega]
            simp only [Option.bind_some]
            by_cases g3 : gQ msg i (1 + bt msg i)
            · have hz := size_ext g3.1 g3.2.1 g3.2.2
              simp only [if_pos g3, if_true]
              have hsz : t.size + (msg.extract i.toNat (i + (1 + bt msg i)).toNat).size ≤ 9223372036854775807 := by omega
              rw [if_pos hsz, ByteArray.size_append, adM _ _ _ hz ht (by omega) (by omega)]
              clear hsz
              by_cases c3 : (t.size : Int) + (1 + bt msg i) ≥ 255
              · rw [if_pos c3, if_pos (show (t.size : Int) + (1 + bt msg i) + 1 > 255 by omega)]
                exact ⟨_, rfl, rfl⟩
              · have hb := g3.2.2
                rw [if_neg c3, if_neg (show ¬ (t.size : Int) + (1 + bt msg i) + 1 > 255 by omega), dO (n := i + bt msg i) (by omega) (by omega), dO (n := i + bt msg i + 1) (by omega) (by omega), show i + bt msg i + 1 = i + (1 + bt msg i) from by omega]
                exact ih k msg _ _ _ _ (by rw [ByteArray.size_append]; omega) (by omega) hm (by rw [ByteArray.size_append]; omega) hn
            · simp only [if_neg g3, Bool.false_eq_true, if_false]
              exact ⟨_, rfl, rfl⟩
    · simp only [if_neg g1, Bool.false_eq_true, if_false]
      exact ⟨_, rfl, rfl⟩
theorem DJ {k k' : Nat} (hk : k ≤ k') {msg : ByteArray} {i : Int} {R : ByteArray × Int × Int} (h : bF.f k msg i = some R) : bF.f k' msg i = some R := uE (fun k => bF.mono msg i k) hk h
def rounds (i : Int) : Nat := i.toNat + 300
theorem zQ (k : Nat) (msg : ByteArray) (i : Int) (hm : msg.size ≤ 100000) (hk : rounds i ≤ k) : ∃ R, bF.f k msg i = some R ∧ aU.f k msg i = some R := by
  unfold rounds at hk
  obtain ⟨R, h1, h2⟩ := IC (i.toNat + 256) k msg i i (-1) ⟨#[]⟩ (by rw [Dp]; omega) (by omega) hm (by decide) (.inl rfl)
  refine ⟨R, ?_, h2⟩
  unfold bF.f
  rw [if_pos (by omega)]
  exact h1
def pre (t : ByteArray) : Prop := ∃ ls, t = yX ls ∧ ∀ x ∈ ls, Ij x
theorem pre_nil : pre ⟨#[]⟩ := ⟨[], rfl, by simp⟩
theorem Lp {t x : ByteArray} (h : pre t) (hx : Ij x) : pre (t ++ (sg x.size ++ x)) := by
  obtain ⟨ls, rfl, hok⟩ := h
  refine ⟨ls ++ [x], ?_, ?_⟩
  · rw [Dt]; simp only [yX]; rw [append_empty]
  · intro y hy
    rcases List.mem_append.mp hy with hy | hy
    · exact hok y hy
    · rw [List.mem_singleton] at hy; subst hy; exact hx
theorem IE {msg : ByteArray} {i : Int} (h : gQ msg i (1 + bt msg i)) (h1 : 1 ≤ bt msg i) (h2 : bt msg i ≤ 63) : ∃ x, Ij x ∧ msg.extract i.toNat (i + (1 + bt msg i)).toNat = sg x.size ++ x := by
  obtain ⟨g0, g1, g2⟩ := h
  have hz := size_ext g0 g1 g2
  refine ⟨msg.extract (i.toNat + 1) (i + (1 + bt msg i)).toNat, ?_, ?_⟩
  · unfold Ij; rw [ByteArray.size_extract]; omega
  · have e : (msg.extract (i.toNat + 1) (i + (1 + bt msg i)).toNat).size = (bt msg i).toNat := by rw [ByteArray.size_extract]; omega
    rw [e]
    have h3 : msg.extract i.toNat (i.toNat + 1) = sg ((bt msg i).toNat : Nat) := by
      refine EP (by rw [pI, ByteArray.size_extract]; omega) fun j j0 j1 => ?_
      rw [ByteArray.size_extract] at j1
      have : j = 0 := by omega
      subst this
      rw [lZ (by omega) (by rw [ByteArray.size_extract]; omega), KZ _ (by omega)]
      rw [show ((i.toNat : Nat) : Int) + 0 = i from by omega]
      omega
    rw [← h3, ByteArray.extract_append_extract]
    congr 1 <;> omega
theorem IG (k : Nat) : ∀ (msg : ByteArray) (a i l n : Int) (t : ByteArray) (R : ByteArray × Int × Int), 0 ≤ a → pre t → t.size ≤ 254 → ((n = -1 ∧ a ≤ i) ∨ (a < n ∧ n ≤ (msg.size : Int))) → bF.l k msg i l n t = some R →
    (R.2.2 = 0 ∧ jB R.1 = true ∧ a < R.2.1 ∧ R.2.1 ≤ (msg.size : Int)) ∨ ((R.2.2 = 2 ∨ R.2.2 = 3) ∧ R.1 = ⟨#[]⟩ ∧ R.2.1 = 0) := by
  induction k with
  | zero => intro msg a i l n t R _ _ _ _ h; simp [bF.l] at h
  | succ k ih =>
    intro msg a i l n t R ha hp ht hn h
    rw [bF.l] at h
    by_cases g1 : j5 msg i 1
    · have hr := fZ msg i
      have hi0 := g1.1
      have hi1 := g1.2.2.2
      rw [if_pos g1] at h
      by_cases c0 : bt msg i = 0
      · rw [if_pos c0] at h
        cases h
        left
        refine ⟨rfl, ?_, ?_⟩
        · obtain ⟨ls, rfl, hok⟩ := hp
          exact Gb.mpr ⟨ls, rfl, hok, by rw [ByteArray.size_append]; show _ + root.size ≤ 255; rw [kJ]; omega⟩
        · rcases hn with ⟨rfl, hn⟩ | hn
          · rw [if_pos rfl]; exact ⟨(by show a < i + 1; omega), (by show i + 1 ≤ (msg.size : Int); omega)⟩
          · rw [if_neg (by omega)]; exact hn
      · rw [if_neg c0] at h
        by_cases c1 : 192 ≤ bt msg i
        · rw [if_pos c1] at h
          have hg := Gp c1
          by_cases g2 : j5 msg i 2
          · rw [if_pos g2] at h
            have hi2 := g2.2.2.2
            by_cases c2 : iq 2 msg i - 49152 ≥ l
            · rw [if_pos c2] at h
              cases h; right; exact ⟨.inr rfl, rfl, rfl⟩
            · rw [if_neg c2] at h
              rcases hn with ⟨rfl, hn⟩ | hn
              · rw [if_pos rfl] at h
                exact ih msg a _ _ _ t R ha hp ht (.inr ⟨by omega, by omega⟩) h
              · rw [if_neg (by omega)] at h
                exact ih msg a _ _ _ t R ha hp ht (.inr hn) h
          · rw [if_neg g2] at h
            cases h; right; exact ⟨.inl rfl, rfl, rfl⟩
        · rw [if_neg c1] at h
          by_cases c2 : 63 < bt msg i
          · rw [if_pos c2] at h
            cases h; right; exact ⟨.inr rfl, rfl, rfl⟩
          · rw [if_neg c2] at h
            by_cases g3 : gQ msg i (1 + bt msg i)
            · rw [if_pos g3] at h
              by_cases c3 : (t.size : Int) + (1 + bt msg i) ≥ 255
              · rw [if_pos c3] at h
                cases h; right; exact ⟨.inr rfl, rfl, rfl⟩
              · rw [if_neg c3] at h
                have hz := size_ext g3.1 g3.2.1 g3.2.2
                obtain ⟨x, hx, hxe⟩ := IE g3 (by omega) (by omega)
                refine ih msg a _ _ _ _ R ha ?_ (by rw [ByteArray.size_append]; omega) ?_ h
                · rw [hxe]; exact Lp hp hx
                · rcases hn with ⟨rfl, hn⟩ | hn
                  · exact .inl ⟨rfl, by omega⟩
                  · exact .inr hn
            · rw [if_neg g3] at h
              cases h; right; exact ⟨.inl rfl, rfl, rfl⟩
    · rw [if_neg g1] at h
      cases h; right; exact ⟨.inl rfl, rfl, rfl⟩
theorem TR {k : Nat} {msg : ByteArray} {i : Int} {R : ByteArray × Int × Int} (hm : msg.size ≤ 100000) : bF.f k msg i = some R ↔ bF.l k msg i i (-1) ⟨#[]⟩ = some R := by
  unfold bF.f; rw [if_pos (by omega)]
theorem EZ {k : Nat} {msg : ByteArray} {i : Int} {R : ByteArray × Int × Int} (hm : msg.size ≤ 100000) (h : bF.f k msg i = some R) :
    (R.2.2 = 0 ∧ jB R.1 = true ∧ 0 ≤ i ∧ i < R.2.1 ∧ R.2.1 ≤ (msg.size : Int)) ∨ ((R.2.2 = 2 ∨ R.2.2 = 3) ∧ R.1 = ⟨#[]⟩ ∧ R.2.1 = 0) := by
  rw [TR hm] at h
  by_cases h0 : 0 ≤ i
  · rcases IG k msg i i i (-1) ⟨#[]⟩ R h0 pre_nil (by decide) (.inl ⟨rfl, Int.le_refl _⟩) h with ⟨h1, h2, h3, h4⟩ | h1
    · exact .inl ⟨h1, h2, h0, h3, h4⟩
    · exact .inr h1
  · cases k with
    | zero => simp [bF.l] at h
    | succ k =>
      rw [bF.l, if_neg (fun g => h0 g.1)] at h
      cases h; right; exact ⟨.inl rfl, rfl, rfl⟩
end Go.Proofs.Ytdkkgecdhapfhaa.ZQ
namespace Go.Proofs.Ytdkkgecdhapfhaa.ZQ
open Go.RowKit Go.Proofs.YtdkkgecdhapfhaaW.bD Go.Proofs.YtdkkgecdhapfhaaW.dV Go.Proofs.YtdkkgecdhapfhaaW.eF Go.Proofs.Ytdkkgecdhapfhaa.B
def plL : List ByteArray → Int → ByteArray → Int
  | [], _, _ => -1
  | x :: m, o, r => if same (enc (x :: m)) r then o else plL m (o + 1 + x.size) r
def wrL (m : List ByteArray) (a : Int) : List ByteArray → ByteArray → ByteArray
  | [], p => p ++ root
  | x :: l, p => if 0 ≤ plL m 0 (enc (x :: l)) then p ++ adI (49152 + a + plL m 0 (enc (x :: l))) 2 else wrL m a l (p ++ (sg x.size ++ x))
def wr (base : ByteArray) (a : Int) (n : ByteArray) : ByteArray := match uG base, uG n with
  | some m, some ls => if 0 ≤ a ∧ a ≤ 16000 then wrL m a ls ⟨#[]⟩ else ⟨#[]⟩
  | _, _ => ⟨#[]⟩
theorem zR (a : ByteArray) : (nW a).size = a.size := by unfold nW; rw [strOfNums_size, List.length_map, numsOf_length]
end Go.Proofs.Ytdkkgecdhapfhaa.ZQ
namespace Go.Proofs.Ytdkkgecdhapfhaa.Mi
open Go Go.Proofs.YtdkkgecdhapfhaaW.bD
def ents : Nat → List (Int × Value) → List MapEntry
  | _, [] => []
  | i, (k, v) :: l => { key := .int .i64 k, val := v, born := i } :: ents (i + 1) l
def rP (k : Int) : List (Int × Value) → Option Value
  | [] => none
  | (k', v) :: l => if k = k' then some v else rP k l
theorem nQ (k : Int) : ∀ (l : List (Int × Value)) (i j : Nat), ∃ r, Instr.findNow (.int .i64) (.int .i64 k) (ents i l) j = some r ∧ r.map (·.2) = rP k l
  | [], i, j => ⟨none, rfl, rfl⟩
  | (k', v) :: l, i, j => by
    obtain ⟨r, h1, h2⟩ := nQ k l (i + 1) (j + 1)
    unfold ents rP Instr.findNow
    by_cases h : k = k'
    · subst h
      exact ⟨some (j, v), by simp [Instr.sameNow], by simp⟩
    · have hb : (k == k') = false := by simpa using h
      exact ⟨r, by simp [Instr.sameNow, hb, h1], by simp [h, h2]⟩
theorem zS (k : Int) (v : Value) : ∀ (l : List (Int × Value)) (i : Nat), ents i (l ++ [(k, v)]) = ents i l ++ [{ key := .int .i64 k, val := v, born := i + l.length }]
  | [], i => rfl
  | (k', v') :: l, i => by
    simp only [List.cons_append, ents, zS k v l (i + 1), List.length_cons]
    rw [show i + 1 + l.length = i + (l.length + 1) from by omega]
def At (w : World) (b : Nat) (l : List (Int × Value)) : Prop := w.heap[b]? = some (.map (ents 0 l).toArray l.length)
variable {P : Program}
theorem E5 {w : World} {b : Nat} {l : List (Int × Value)} (h : At w b l) (t kt et : TypeId) (hm : P.underlying t = some (.map kt et)) (hk : P.underlying kt = some (.int .i64)) (k : Int) (v : Value) (hn : rP k l = none) :
    ∃ w', (Instr.mapUpdate t (.map (some b)) (.int .i64 k) v).run P w = .ok () w' ∧ At w' b (l ++ [(k, v)]) ∧ w.grownBy w' (some b) := by
  obtain ⟨r, h1, h2⟩ := nQ k l 0 0
  rw [hn] at h2
  obtain rfl : r = none := by cases r with | none => rfl | some x => cases h2
  have hc : (Instr.checkKey false 10000 kt (.int .i64 k)).run P w = .ok () w := MapKept.run_checkKey (k := .int .i64 k) hk (by simp [MapKept.IsKey]) false 9999
  refine ⟨{ w with heap := w.heap.setIfInBounds b (.map (ents 0 (l ++ [(k, v)])).toArray (l ++ [(k, v)]).length) }, ?_, (MapKept.heap_set h).1, ⟨rfl, rfl, rfl, by simp, fun i _ hi => (MapKept.heap_set h).2 i (fun e => hi (by rw [e]))⟩⟩
  unfold At at h
  simp [Instr.mapUpdate, run_underlying hm, MapKept.run_getObj_map h, hc, MapKept.run_findKey hk h1, MapKept.run_setObj_map _ h, Result.andThen]
  rw [zS]
  simp
theorem look {w : World} {b : Nat} {l : List (Int × Value)} (h : At w b l) (t kt et : TypeId) (hm : P.underlying t = some (.map kt et)) (hk : P.underlying kt = some (.int .i64)) (z : Value) (hz : (zeroValue et).run P w = .ok z w) (k : Int) :
    (Instr.lookup t (.map (some b)) (.int .i64 k) true).run P w = .ok (.tuple #[(rP k l).getD z, .bool (rP k l).isSome]) w := by
  obtain ⟨r, h1, h2⟩ := nQ k l 0 0
  unfold At at h
  have hc : ∀ e, (Instr.checkKey e 10000 kt (.int .i64 k)).run P w = .ok () w := fun e => MapKept.run_checkKey (k := .int .i64 k) hk (by simp [MapKept.IsKey]) e 9999
  rw [← h2]
  cases r with
  | none => simp [Instr.lookup, run_underlying hm, MapKept.run_getObj_map h, hc, MapKept.run_findKey hk h1, Result.andThen, hz]
  | some x => obtain ⟨i, v⟩ := x; simp [Instr.lookup, run_underlying hm, MapKept.run_getObj_map h, hc, MapKept.run_findKey hk h1, Result.andThen]
theorem II (w : World) {ops : Array Oper} {rest : List Oper} {o : Oper} {a : Act} {Q : Exit → Act → World → Prop}
    (hg : o.guard = none) (m x v : Operand) (t : TypeId) (hop : o.op = Op.insert t m x v)
    (kt et : TypeId) (ht : P.underlying t = some (.map kt et)) (hk : P.underlying kt = some (.int .i64)) (b : Nat) (l : List (Int × Value)) (hm : a.eval m = .map (some b)) (hat : At w b l) (k : Int) (val : Value) (hx : a.eval x = .int .i64 k) (hv : a.eval v = val) (hn : rP k l = none)
    (hK : ∀ w', At w' b (l ++ [(k, val)]) → w.grownBy w' (some b) → wpList P ops Q rest (a.put o.dst undef) w') :
    wpList P ops Q (o :: rest) a w := by
  refine wpList_plain hg fun K' hK' => ?_
  obtain ⟨w', hrun, r1, r2⟩ := E5 hat t kt et ht hk k val hn
  unfold Oper.wp
  simp [execOp, hop, hm, hx, hv, hrun, Result.andThen]
  exact hK' _ _ (hK w' r1 r2)
theorem Oa (w : World) : At (w.alloc (.map #[] 0)) w.heap.size [] := by
  unfold At ents
  exact heap_alloc_new w _
structure In (B0 : Nat) (w0 w : World) (b : Nat) (l : List (Int × Value)) : Prop where
  at_ : At w b l
  ge : B0 ≤ b
  L9 : RowKit.Below B0 w0 w
theorem In.made {w : World} : In w.heap.size w (w.alloc (.map #[] 0)) w.heap.size [] := ⟨Oa w, Nat.le_refl _, (RowKit.Below.refl _ _).alloc (Nat.le_refl _) _⟩
theorem In.grown {B0 b : Nat} {w0 w w' : World} {l l' : List (Int × Value)} (h : In B0 w0 w b l) (h' : At w' b l') (hg : w.grownBy w' (some b)) : In B0 w0 w' b l' := by
  refine ⟨h', h.ge, h.L9.grown hg ?_ (fun k e => by cases e; exact h.ge)⟩
  have := (Array.getElem?_eq_some_iff.1 h.at_).1
  have := h.ge
  omega
theorem DK {w : World} {ops : Array Oper} {rest : List Oper} {o : Oper} {a : Act} {Q : Exit → Act → World → Prop} (t : TypeId) (m x v : Operand) (hop : o.op = Op.insert t m x v) (h : wpList P ops Q (o :: rest) a w) : wpList P ops Q (o :: rest) a w := h
theorem Yy (w : World) {ops : Array Oper} {rest : List Oper} {o : Oper} {a : Act} {Q : Exit → Act → World → Prop}
    (hg : o.guard = none) (m x v : Operand) (t : TypeId) (hop : o.op = Op.insert t m x v)
    (kt et : TypeId) (ht : P.underlying t = some (.map kt et)) (hk : P.underlying kt = some (.int .i64)) (b : Nat) (l : List (Int × Value)) (hm : a.eval m = .map (some b)) {B0 : Nat} {w0 : World} (hin : In B0 w0 w b l) (k : Int) (val : Value) (hx : a.eval x = .int .i64 k) (hv : a.eval v = val) (hn : rP k l = none)
    (hK : ∀ w', aj (In B0 w0 w' b (l ++ [(k, val)])) → wpList P ops Q rest (a.put o.dst undef) w') :
    wpList P ops Q (o :: rest) a w :=
  II w hg m x v t hop kt et ht hk b l hm hin.at_ k val hx hv hn fun w' h1 h2 => hK w' ⟨hin.grown h1 h2⟩
end Go.Proofs.Ytdkkgecdhapfhaa.Mi

/- Maps with whole-number keys that the call itself makes: what an update and a look-up do, by the list of what was put. Conditions: the key is new, or the map is the list. -/
import Derived.Test.YtdkkanpbcifkfaaProg
import Derived.WideMake
import Derived.WalkKit
import Derived.Below
import Derived.Test.YtdkkanpbcifkfaaWAa
set_option linter.unusedVariables false
set_option linter.unusedSimpArgs false
namespace Go.Proofs.Ytdkkanpbcifkfaa.Mi
open Go Go.Proofs.YtdkkanpbcifkfaaW.PrintWords

/-- The entries of a list of pairs, each born at its place. -/
def ents : Nat → List (Int × Value) → List MapEntry
  | _, [] => []
  | i, (k, v) :: l => { key := .int .i64 k, val := v, born := i } :: ents (i + 1) l
def fnd (k : Int) : List (Int × Value) → Option Value
  | [] => none
  | (k', v) :: l => if k = k' then some v else fnd k l
theorem findNow_ents (k : Int) : ∀ (l : List (Int × Value)) (i j : Nat), ∃ r, Instr.findNow (.int .i64) (.int .i64 k) (ents i l) j = some r ∧ r.map (·.2) = fnd k l
  | [], i, j => ⟨none, rfl, rfl⟩
  | (k', v) :: l, i, j => by
    obtain ⟨r, h1, h2⟩ := findNow_ents k l (i + 1) (j + 1)
    unfold ents fnd Instr.findNow
    by_cases h : k = k'
    · subst h
      exact ⟨some (j, v), by simp [Instr.sameNow], by simp⟩
    · have hb : (k == k') = false := by simpa using h
      exact ⟨r, by simp [Instr.sameNow, hb, h1], by simp [h, h2]⟩
theorem ents_snoc (k : Int) (v : Value) : ∀ (l : List (Int × Value)) (i : Nat), ents i (l ++ [(k, v)]) = ents i l ++ [{ key := .int .i64 k, val := v, born := i + l.length }]
  | [], i => rfl
  | (k', v') :: l, i => by
    simp only [List.cons_append, ents, ents_snoc k v l (i + 1), List.length_cons]
    rw [show i + 1 + l.length = i + (l.length + 1) from by omega]
/-- A block that is a map of these pairs. -/
def At (w : World) (b : Nat) (l : List (Int × Value)) : Prop := w.heap[b]? = some (.map (ents 0 l).toArray l.length)
variable {P : Program}
theorem insert_new {w : World} {b : Nat} {l : List (Int × Value)} (h : At w b l) (t kt et : TypeId) (hm : P.underlying t = some (.map kt et)) (hk : P.underlying kt = some (.int .i64)) (k : Int) (v : Value) (hn : fnd k l = none) :
    ∃ w', (Instr.mapUpdate t (.map (some b)) (.int .i64 k) v).run P w = .ok () w' ∧ At w' b (l ++ [(k, v)]) ∧ w.grownBy w' (some b) := by
  obtain ⟨r, h1, h2⟩ := findNow_ents k l 0 0
  rw [hn] at h2
  obtain rfl : r = none := by cases r with | none => rfl | some x => cases h2
  have hc : (Instr.checkKey false 10000 kt (.int .i64 k)).run P w = .ok () w := MapKept.run_checkKey (k := .int .i64 k) hk (by simp [MapKept.IsKey]) false 9999
  refine ⟨{ w with heap := w.heap.setIfInBounds b (.map (ents 0 (l ++ [(k, v)])).toArray (l ++ [(k, v)]).length) }, ?_, (MapKept.heap_set h).1, ⟨rfl, rfl, rfl, by simp, fun i _ hi => (MapKept.heap_set h).2 i (fun e => hi (by rw [e]))⟩⟩
  unfold At at h
  simp [Instr.mapUpdate, run_underlying hm, MapKept.run_getObj_map h, hc, MapKept.run_findKey hk h1, MapKept.run_setObj_map _ h, Result.andThen]
  rw [ents_snoc]
  simp
theorem look {w : World} {b : Nat} {l : List (Int × Value)} (h : At w b l) (t kt et : TypeId) (hm : P.underlying t = some (.map kt et)) (hk : P.underlying kt = some (.int .i64)) (z : Value) (hz : (zeroValue et).run P w = .ok z w) (k : Int) :
    (Instr.lookup t (.map (some b)) (.int .i64 k) true).run P w = .ok (.tuple #[(fnd k l).getD z, .bool (fnd k l).isSome]) w := by
  obtain ⟨r, h1, h2⟩ := findNow_ents k l 0 0
  unfold At at h
  have hc : ∀ e, (Instr.checkKey e 10000 kt (.int .i64 k)).run P w = .ok () w := fun e => MapKept.run_checkKey (k := .int .i64 k) hk (by simp [MapKept.IsKey]) e 9999
  rw [← h2]
  cases r with
  | none => simp [Instr.lookup, run_underlying hm, MapKept.run_getObj_map h, hc, MapKept.run_findKey hk h1, Result.andThen, hz]
  | some x => obtain ⟨i, v⟩ := x; simp [Instr.lookup, run_underlying hm, MapKept.run_getObj_map h, hc, MapKept.run_findKey hk h1, Result.andThen]
/-- An insert into a map that is made, at the operation (the walk's own form): the key is new. -/
theorem wp_insert (w : World) {ops : Array Oper} {rest : List Oper} {o : Oper} {a : Act} {Q : Exit → Act → World → Prop}
    (hg : o.guard = none) (m x v : Operand) (t : TypeId) (hop : o.op = Op.insert t m x v)
    (kt et : TypeId) (ht : P.underlying t = some (.map kt et)) (hk : P.underlying kt = some (.int .i64)) (b : Nat) (l : List (Int × Value)) (hm : a.eval m = .map (some b)) (hat : At w b l) (k : Int) (val : Value) (hx : a.eval x = .int .i64 k) (hv : a.eval v = val) (hn : fnd k l = none)
    (hK : ∀ w', At w' b (l ++ [(k, val)]) → w.grownBy w' (some b) → wpList P ops Q rest (a.put o.dst undef) w') :
    wpList P ops Q (o :: rest) a w := by
  refine wpList_plain hg fun K' hK' => ?_
  obtain ⟨w', hrun, r1, r2⟩ := insert_new hat t kt et ht hk k val hn
  unfold Oper.wp
  simp [execOp, hop, hm, hx, hv, hrun, Result.andThen]
  exact hK' _ _ (hK w' r1 r2)
theorem At_made (w : World) : At (w.alloc (.map #[] 0)) w.heap.size [] := by
  unfold At ents
  exact heap_alloc_new w _
/-- A map that the call made, and all that stood below is as it was. -/
structure In (B0 : Nat) (w0 w : World) (b : Nat) (l : List (Int × Value)) : Prop where
  at_ : At w b l
  ge : B0 ≤ b
  bel : RowKit.Below B0 w0 w
theorem In.made {w : World} : In w.heap.size w (w.alloc (.map #[] 0)) w.heap.size [] := ⟨At_made w, Nat.le_refl _, (RowKit.Below.refl _ _).alloc (Nat.le_refl _) _⟩
theorem In.grown {B0 b : Nat} {w0 w w' : World} {l l' : List (Int × Value)} (h : In B0 w0 w b l) (h' : At w' b l') (hg : w.grownBy w' (some b)) : In B0 w0 w' b l' := by
  refine ⟨h', h.ge, h.bel.grown hg ?_ (fun k e => by cases e; exact h.ge)⟩
  have := (Array.getElem?_eq_some_iff.1 h.at_).1
  have := h.ge
  omega
/-- For a walk: the operation is such an insert. -/
theorem gate_insert {w : World} {ops : Array Oper} {rest : List Oper} {o : Oper} {a : Act} {Q : Exit → Act → World → Prop} (t : TypeId) (m x v : Operand) (hop : o.op = Op.insert t m x v) (h : wpList P ops Q (o :: rest) a w) : wpList P ops Q (o :: rest) a w := h
theorem wp_in (w : World) {ops : Array Oper} {rest : List Oper} {o : Oper} {a : Act} {Q : Exit → Act → World → Prop}
    (hg : o.guard = none) (m x v : Operand) (t : TypeId) (hop : o.op = Op.insert t m x v)
    (kt et : TypeId) (ht : P.underlying t = some (.map kt et)) (hk : P.underlying kt = some (.int .i64)) (b : Nat) (l : List (Int × Value)) (hm : a.eval m = .map (some b)) {B0 : Nat} {w0 : World} (hin : In B0 w0 w b l) (k : Int) (val : Value) (hx : a.eval x = .int .i64 k) (hv : a.eval v = val) (hn : fnd k l = none)
    (hK : ∀ w', Aside0 (In B0 w0 w' b (l ++ [(k, val)])) → wpList P ops Q rest (a.put o.dst undef) w') :
    wpList P ops Q (o :: rest) a w :=
  wp_insert w hg m x v t hop kt et ht hk b l hm hin.at_ k val hx hv hn fun w' h1 h2 => hK w' ⟨hin.grown h1 h2⟩
end Go.Proofs.Ytdkkanpbcifkfaa.Mi

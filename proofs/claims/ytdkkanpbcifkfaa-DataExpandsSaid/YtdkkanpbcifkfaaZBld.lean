/- A strings.Builder that lies somewhere in a block (in a field, or in a block of its own): what is of no program. No conditions. -/
import Derived.Test.YtdkkanpbcifkfaaZRow
import Derived.Lib.Builder
import Derived.Lib.AppendStr
import Derived.Lib.UnsafeStr
set_option linter.unusedVariables false
set_option linter.unusedSimpArgs false
namespace Go.Proofs.Ytdkkanpbcifkfaa.B
open Go.RowKit Go.Proofs.YtdkkanpbcifkfaaW.PrintWords
/-- Block b, of type T, holds the cells cs; at o lies a Builder with the bytes bs: 'addr' p, 'buf' v, a row of the call's own (from block B on), of element type e. -/
structure BAt (T e : TypeId) (B b o : Nat) (cs : Array Value) (p v : Value) (bs : List Value) (w : World) : Prop where
  base : B ≤ b
  blk : w.heap[b]? = some (.cells cs T (0, 0))
  p_ : cs[o]? = some p
  v_ : cs[o + 1]? = some v
  self : p = .pointer none ∨ p = .pointer (some ⟨b, o, none⟩)
  own : w.ownsRow B e 1 v bs.length bs
  ne : v.ownBlock ≠ some b
theorem BAt.lt {T e : TypeId} {B b o : Nat} {cs : Array Value} {p v : Value} {bs : List Value} {w : World} (h : BAt T e B b o cs p v bs w) : b < w.heap.size := by
  rcases Nat.lt_or_ge b w.heap.size with h' | h'
  · exact h'
  · have := h.blk; rw [Array.getElem?_eq_none h'] at this; cases this
theorem heap_set {w : World} {b o : Nat} {cs : Array Value} {T : TypeId} {fr : Nat × Nat} (h : w.heap[b]? = some (.cells cs T fr)) (x : Value) : (w.setCell ⟨b, o, none⟩ x).heap[b]? = some (.cells (cs.setIfInBounds o x) T fr) := by
  simp [World.setCell, Array.getElem?_modify, h]
theorem own_set {w : World} {B b o : Nat} {e : TypeId} {n k : Nat} {v x : Value} {xs : List Value} (h : w.ownsRow B e n v k xs) (hne : v.ownBlock ≠ some b) : (w.setCell ⟨b, o, none⟩ x).ownsRow B e n v k xs :=
  h.kept (row := some b) ⟨rfl, rfl, rfl, by simp [World.setCell], fun k _ hk => Below.heap_setCell _ _ _ _ (fun e => hk (by simp [e]))⟩ (Or.inr hne)
/-- 'addr' takes the builder's own address. -/
theorem BAt.used {T e : TypeId} {B b o : Nat} {cs : Array Value} {p v : Value} {bs : List Value} {w : World} (h : BAt T e B b o cs p v bs w) :
    BAt T e B b o (cs.setIfInBounds o (.pointer (some ⟨b, o, none⟩))) (.pointer (some ⟨b, o, none⟩)) v bs (w.setCell ⟨b, o, none⟩ (.pointer (some ⟨b, o, none⟩))) := by
  have ho : o < cs.size := by
    rcases Nat.lt_or_ge o cs.size with h' | h'
    · exact h'
    · have := h.p_; rw [Array.getElem?_eq_none h'] at this; cases this
  exact ⟨h.base, heap_set h.blk _, by simp [ho], by simpa [Array.getElem?_setIfInBounds] using h.v_, .inr rfl, own_set h.own h.ne, h.ne⟩
theorem BAt.used_same {T e : TypeId} {B b o : Nat} {cs : Array Value} {v : Value} {bs : List Value} {w : World} (h : BAt T e B b o cs (.pointer (some ⟨b, o, none⟩)) v bs w) :
    cs.setIfInBounds o (.pointer (some ⟨b, o, none⟩)) = cs := by
  apply Array.ext_getElem?
  intro i
  rw [Array.getElem?_setIfInBounds]
  by_cases e : o = i
  · subst e
    have := h.p_
    rw [if_pos rfl]
    split
    · exact this.symm
    · rename_i hn; rw [Array.getElem?_eq_none (by omega)] at this; cases this
  · rw [if_neg e]
/-- A new buffer. -/
theorem BAt.put {T e : TypeId} {B b o : Nat} {cs : Array Value} {p v v' : Value} {bs bs' : List Value} {w w' : World} (h : BAt T e B b o cs p v bs w) (hb : w'.heap[b]? = some (.cells cs T (0, 0))) (hown : w'.ownsRow B e 1 v' bs'.length bs') (hTe : T ≠ e) :
    BAt T e B b o (cs.setIfInBounds (o + 1) v') p v' bs' (w'.setCell ⟨b, o + 1, none⟩ v') := by
  have hne := Lib.ownBlock_ne hown hb hTe
  have ho : o + 1 < cs.size := by
    rcases Nat.lt_or_ge (o + 1) cs.size with h' | h'
    · exact h'
    · have := h.v_; rw [Array.getElem?_eq_none h'] at this; cases this
  exact ⟨h.base, heap_set hb _, by simpa [Array.getElem?_setIfInBounds] using h.p_, by simp [ho], h.self, own_set hown hne, hne⟩
/-- Another cell of the block is written. -/
theorem BAt.set {T e : TypeId} {B b o : Nat} {cs : Array Value} {p v : Value} {bs : List Value} {w : World} (h : BAt T e B b o cs p v bs w) (i : Nat) (x : Value) (h1 : i ≠ o) (h2 : i ≠ o + 1) :
    BAt T e B b o (cs.setIfInBounds i x) p v bs (w.setCell ⟨b, i, none⟩ x) :=
  ⟨h.base, heap_set h.blk _, by rw [Array.getElem?_setIfInBounds, if_neg h1]; exact h.p_, by rw [Array.getElem?_setIfInBounds, if_neg h2]; exact h.v_, h.self, own_set h.own h.ne, h.ne⟩
theorem BAt.drewN {T e : TypeId} {B b o : Nat} {cs : Array Value} {p v : Value} {bs : List Value} {w : World} (h : BAt T e B b o cs p v bs w) (n : Nat) : BAt T e B b o cs p v bs (w.drewN n) := ⟨h.base, h.blk, h.p_, h.v_, h.self, h.own, h.ne⟩
/-- What lies below the heap's size stays: the builder, too. -/
theorem BAt.below {T e : TypeId} {B b o : Nat} {cs : Array Value} {p v : Value} {bs : List Value} {w w' : World} (h : BAt T e B b o cs p v bs w) (hb : Below w.heap.size w w') : BAt T e B b o cs p v bs w' :=
  ⟨h.base, (hb.block b h.lt).trans h.blk, h.p_, h.v_, h.self, pw_own_below h.own hb, h.ne⟩
theorem strCells_append (t s : ByteArray) : Lib.strCells t ++ Lib.strCells s = Lib.strCells (t ++ s) := by
  simp [Lib.strCells]
theorem strCells_bytes (t : ByteArray) : Lib.strCells t = Lib.byteCells t.data.toList := rfl
end Go.Proofs.Ytdkkanpbcifkfaa.B

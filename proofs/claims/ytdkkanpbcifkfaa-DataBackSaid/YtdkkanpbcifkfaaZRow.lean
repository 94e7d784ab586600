/- Plain lemmas on a new row of bytes, as a conversion of a string lays it: its cells, a store into it. No conditions. -/
import Derived.Test.YtdkkanpbcifkfaaZB
import Derived.Lib.ConvBytes
import Derived.Laws.World
import Derived.Laws.Entries
import Derived.Below
set_option linter.unusedVariables false
set_option linter.unusedSimpArgs false
namespace Go.Proofs.Ytdkkanpbcifkfaa.B
open Go.RowKit Go.Proofs.YtdkkanpbcifkfaaW.PrintWords
/-- A block whose first cells are these bytes, and may be written. -/
def RowAt (w : World) (g : Nat) (xs : List Int) : Prop := ∀ j, j < xs.length → w.cell? ⟨g, j, none⟩ = some (.int .u8 (xs.getD j 0)) ∧ w.frozen? ⟨g, j, none⟩ = false
/-- A byte, a small letter in place of a great one. -/
def smallI (c : Int) : Int := if 65 ≤ c ∧ c ≤ 90 then c + 32 else c
/-- A string's bytes, as numbers. -/
def numsOf (s : ByteArray) : List Int := s.data.toList.map fun b => (b.toNat : Int)
theorem numsOf_length (s : ByteArray) : (numsOf s).length = s.size := by simp [numsOf]
theorem numsOf_at (s : ByteArray) (j : Nat) : (numsOf s).getD j 0 = bt s j := by
  rw [bt_get, numsOf, List.getD_eq_getElem?_getD, List.getElem?_map]
  rw [show ((j : Int)).toNat = j from by omega]
  cases s.data.toList[j]? <;> rfl
/-- A string in small letters. -/
def lowB (s : ByteArray) : ByteArray := strOfNums ((numsOf s).map smallI)
/-- The first k of some numbers in small letters. -/
def lowTo (k : Nat) (xs : List Int) : List Int := (xs.take k).map smallI ++ xs.drop k
theorem lowTo_length (k : Nat) (xs : List Int) : (lowTo k xs).length = xs.length := by simp [lowTo]; omega
theorem lowTo_zero (xs : List Int) : lowTo 0 xs = xs := by simp [lowTo]
theorem lowTo_all (xs : List Int) : lowTo xs.length xs = xs.map smallI := by simp [lowTo]
theorem lowTo_at (k : Nat) (xs : List Int) (h : k < xs.length) : (lowTo k xs).getD k 0 = xs.getD k 0 := by
  simp only [lowTo, List.getD_eq_getElem?_getD]
  rw [List.getElem?_append_right (by simp; omega)]
  simp only [List.length_map, List.length_take, List.getElem?_drop]
  congr 2
  omega
theorem lowTo_set (k : Nat) (xs : List Int) (h : k < xs.length) : (lowTo k xs).set k (smallI (xs.getD k 0)) = lowTo (k + 1) xs := by
  apply List.ext_getElem?
  intro i
  rw [List.getElem?_set]
  have hl := lowTo_length k xs
  by_cases e : k = i
  · subst e
    rw [if_pos rfl, if_pos (by omega)]
    simp only [lowTo]
    rw [List.getElem?_append_left (by simp; omega), List.getElem?_map, List.getElem?_take, if_pos (by omega), List.getD_eq_getElem?_getD, List.getElem?_eq_getElem h]
    rfl
  · rw [if_neg e]
    simp only [lowTo]
    by_cases h2 : i < k
    · rw [List.getElem?_append_left (by simp; omega), List.getElem?_append_left (by simp; omega), List.getElem?_map, List.getElem?_map, List.getElem?_take, List.getElem?_take, if_pos h2, if_pos (by omega)]
    · by_cases h3 : i < xs.length
      · rw [List.getElem?_append_right (by simp; omega), List.getElem?_append_right (by simp; omega), List.getElem?_drop, List.getElem?_drop]
        congr 1
        simp only [List.length_map, List.length_take]
        omega
      · rw [List.getElem?_eq_none (by simp; omega), List.getElem?_eq_none (by simp; omega)]
theorem bt_range' (s : ByteArray) (k : Nat) : 0 ≤ bt s k ∧ bt s k ≤ 255 := bt_range s k
theorem rowAt_conv (w : World) (e : TypeId) (s : ByteArray) : RowAt (Lib.bytesWorld w e s) w.heap.size (numsOf s) := by
  intro j hj
  rw [numsOf_length] at hj
  refine ⟨?_, ?_⟩
  · rw [Lib.bytesWorld_cell w e s j hj, numsOf_at, bt_get, List.getD_eq_getElem?_getD]
    rfl
  · have hlt : j < (Lib.bytesCells w e s).size := by
      have : s.size ≤ (Lib.bytesCells w e s).size := by simp [Lib.bytesCells]
      omega
    simp [World.frozen?, Lib.bytesWorld_at_new]
    omega
theorem rowAt_set {w : World} {g : Nat} {xs : List Int} (h : RowAt w g xs) (k : Nat) (v : Int) (hk : k < xs.length) : RowAt (w.setCell ⟨g, k, none⟩ (.int .u8 v)) g (xs.set k v) := by
  intro j hj
  rw [List.length_set] at hj
  obtain ⟨h1, h2⟩ := h j hj
  refine ⟨?_, by rw [World.frozen?_setCell]; exact h2⟩
  by_cases e : j = k
  · subst e
    rw [World.cell?_setCell_same w _ _ h1]
    simp [List.getD_eq_getElem?_getD, hj]
  · rw [World.cell?_setCell_other w _ _ _ (by intro hc; injection hc with _ h3 _; exact e h3.symm), h1]
    simp [List.getD_eq_getElem?_getD, List.getElem?_set, Ne.symm e]
theorem below_conv {B : Nat} {a w : World} (h : Below B a w) (hB : B ≤ w.heap.size) (e : TypeId) (s : ByteArray) : Below B a (Lib.bytesWorld w e s) :=
  ⟨h.os, h.tape, h.output, by rw [Lib.bytesWorld_size]; have := h.size; omega, fun k hk => (Lib.bytesWorld_at_old w e s k (by omega)).trans (h.block k hk)⟩
end Go.Proofs.Ytdkkanpbcifkfaa.B

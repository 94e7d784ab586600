/- A part of the proof of StoreNil: cut, joined and given short names by a program of this session (wip/tools/pack.py); Lean checks it. No condition. -/
import Derived.Test.YtdkkgecdhapfhaaPSNili
import Derived.ChangeKeysEq
import Derived.Lib.Strings
import Derived.Laws.BitsLemmas
import Derived.Lib.ConvBytes
import Derived.Laws.World
import Derived.Laws.Entries
import Derived.Below
import Derived.Test.YtdkkgecdhapfhaaProg
import Derived.Deep.Draws
import Derived.Deep.AppendLies
import Derived.Maps.AppendAt
import Derived.OwnWalk
import Derived.Laws.BytesArg
import Derived.Laws.MakeOwn
import Derived.Laws.OwnMore
import Derived.Deep.OwnRows
import Derived.Tactics
import Derived.Laws.Slices
import Derived.WalkKit
import Derived.KernelRfl
import Derived.RowKit3
import Derived.Deep.LoopGhost
import Derived.Deep.QuietTactic
import Derived.BigQuiet
import Derived.WideLaws
import Derived.Deep.DeepCutAuto
import Derived.Deep.CutBlock
import Derived.Deep.RegionHeld3
import Derived.Laws.Rows
import Derived.Lib.AppendStr
import Derived.ArgAppend
import Derived.Laws.IdiomCopy
import Derived.OrdersHeld
import Derived.RowKit
import Derived.Laws.StructEq
import Derived.WalkSpells
import Derived.Lib.Builder
import Derived.Lib.UnsafeStr
import Derived.Shelf.Strings.OnBuilder
import Derived.Test.YtdkkgecdhapfhaaPSNild
set_option linter.unusedSectionVars false
set_option linter.unusedSimpArgs false
set_option linter.unusedVariables false
namespace Go.Proofs.YtdkkgecdhapfhaaW.eF
open Go.RowKit Go.Proofs.YtdkkgecdhapfhaaW.bD
namespace Kd
open Go.Proofs.YtdkkgecdhapfhaaW.bD.Kd
end Kd
namespace Kd
open Go.Proofs.YtdkkgecdhapfhaaW.bD.Kd
section
variable {α : Type} {d : Kd α} {e base g N : Nat} {ok : Nat → Prop} {W w1 : World} {u v : Value} {xs : List α}
end
end Kd
theorem jh (k k' : IntKind) (x y : Int) : Builtin.max2 (.int k x) (.int k' y) = pure (.int k (if x < y then y else x)) := by simp only [Builtin.max2, gt_iff_lt]
theorem ji (k k' : IntKind) (x y : Int) : Builtin.min2 (.int k x) (.int k' y) = pure (.int k (if y < x then y else x)) := by simp only [Builtin.min2]
theorem jZ (ats : Array TypeId) (ty : TypeId) (a b : Value) : Builtin.max_ ats ty #[a, b] = (Builtin.max2 a b >>= fun s => pure s) := by simp only [Builtin.max_, List.foldlM_cons, List.foldlM_nil]
theorem j3 (ats : Array TypeId) (ty : TypeId) (a b : Value) : Builtin.min_ ats ty #[a, b] = (Builtin.min2 a b >>= fun s => pure s) := by simp only [Builtin.min_, List.foldlM_cons, List.foldlM_nil]
theorem iC (ats : Array TypeId) (ty : TypeId) (a b c : Value) : Builtin.max_ ats ty #[a, b, c] = (Builtin.max2 a b >>= fun s => Builtin.max2 s c >>= fun s => pure s) := by simp only [Builtin.max_, List.foldlM_cons, List.foldlM_nil]
theorem iD (ats : Array TypeId) (ty : TypeId) (a b c : Value) : Builtin.min_ ats ty #[a, b, c] = (Builtin.min2 a b >>= fun s => Builtin.min2 s c >>= fun s => pure s) := by simp only [Builtin.min_, List.foldlM_cons, List.foldlM_nil]
theorem jk (ats : Array TypeId) (ty : TypeId) (a b c d : Value) : Builtin.max_ ats ty #[a, b, c, d] = (Builtin.max2 a b >>= fun s => Builtin.max2 s c >>= fun s => Builtin.max2 s d >>= fun s => pure s) := by simp only [Builtin.max_, List.foldlM_cons, List.foldlM_nil]
theorem jl (ats : Array TypeId) (ty : TypeId) (a b c d : Value) : Builtin.min_ ats ty #[a, b, c, d] = (Builtin.min2 a b >>= fun s => Builtin.min2 s c >>= fun s => Builtin.min2 s d >>= fun s => pure s) := by simp only [Builtin.min_, List.foldlM_cons, List.foldlM_nil]
end Go.Proofs.YtdkkgecdhapfhaaW.eF
namespace Go.Proofs.YtdkkgecdhapfhaaW.bD
open Go.RowKit
section
variable {P : Program} {ops : Array Oper} {rest : List Oper} {o : Oper} {a : Act} {Q : Exit → Act → World → Prop} {W : World}
theorem aQ {f : FuncId} {ZZ9 : Array Operand} {ts : Array TypeId} (_ho : o.op = .call { callee := .value (.func f), args := ZZ9, argTypes := ts }) (h : wpList P ops Q (o :: rest) a W) : wpList P ops Q (o :: rest) a W := h
theorem nN {b : Builtin} {xs : Array Operand} {ts : Array TypeId} (_ho : o.op = .call { callee := .builtin b, args := xs, argTypes := ts }) (h : wpList P ops Q (o :: rest) a W) : wpList P ops Q (o :: rest) a W := h
end
def mx (a b : Int) : Int := if a < b then b else a
def mn (a b : Int) : Int := if b < a then b else a
def shl (k : IntKind) (x y : Int) : Int := k.wrap (x * 2 ^ min y.toNat k.bits)
def shr (k : IntKind) (x y : Int) : Int := x / 2 ^ min y.toNat k.bits
namespace Kd
section
variable {α : Type} {d : Kd α} {e base : Nat} {ok : Nat → Prop} {W w1 : World} {v : Value} {xs : List α}
end
section
variable {α : Type} {d : Kd α} {e base g n cap : Nat} {ok XF H8 : Nat → Prop} {W : World} {xs : List α} {i : Int} {c : List Value}
end
section
variable {α : Type} {d : Kd α} {e base b b' g N : Nat} {ok ok1 : Nat → Prop} {W W2 w1 : World} {u v : Value} {xs ys : List α} {S : Nat → Prop}
end
end Kd
end Go.Proofs.YtdkkgecdhapfhaaW.bD
namespace Go.Proofs.YtdkkgecdhapfhaaW.bD
open Go.RowKit
namespace Kd
def V {α : Type} (d : Kd α) (_e : Nat) (W : World) (_base : Nat) (ok : Nat → Prop) (v : Value) (xs : List α) : Prop := ∃ A c, v = .slice A xs.length c ∧ xs.length ≤ c ∧ F d W ok A xs.length xs
section
variable {α β : Type} {d : Kd α} {e base base' n m c g N' lo hi : Nat} {ok ok' S : Nat → Prop} {w W w1 : World} {A : Option Addr} {ad : Addr} {u v v1 : Value} {xs : List α}
theorem bY (h : V d e W base ok v xs) (hF : ∀ A, F d W ok A xs.length xs → F d w1 ok' A xs.length xs) : V d e w1 base' ok' v xs := by
  obtain ⟨A, c, hv, hl, hf⟩ := h
  exact ⟨A, c, hv, hl, hF A hf⟩
theorem kR (d : Kd α) (e : Nat) (W : World) (base : Nat) (ok : Nat → Prop) : V d e W base ok (.slice none 0 0) [] := ⟨none, 0, rfl, Nat.le_refl _, XG d W ok⟩
end
end Kd
end Go.Proofs.YtdkkgecdhapfhaaW.bD
namespace Go.Proofs.Ytdkkgecdhapfhaa.B
open Go.RowKit Go.Proofs.YtdkkgecdhapfhaaW.bD
theorem dO {n : Int} (h0 : -9223372036854775808 ≤ n) (h1 : n ≤ 9223372036854775807) : wrap64 n = n := by unfold wrap64; omega
theorem toList_inj {s t : ByteArray} : s.toList = t.toList ↔ s = t := by
  constructor
  · intro h
    rw [Lib.toList_data, Lib.toList_data] at h
    exact ByteArray.ext (Array.toList_inj.mp h)
  · rintro rfl; rfl
theorem toList_nil {s : ByteArray} : s.toList = ([] : List UInt8) ↔ s.size = 0 := by
  rw [Lib.toList_data]
  constructor
  · intro h
    show s.data.size = 0
    rw [← Array.length_toList, h]; rfl
  · intro h
    have h' : s.data.size = 0 := h
    rw [← Array.length_toList] at h'
    exact List.eq_nil_of_length_eq_zero h'
theorem eq_empty {s : ByteArray} (h : s.size = 0) : s = ⟨#[]⟩ := toList_inj.mp ((toList_nil.mpr h).trans (toList_nil.mpr rfl).symm)
theorem nO (s : ByteArray) (i : Int) : bt s i = ((s.data.toList[i.toNat]?.getD 0).toNat : Int) := by
  unfold bt
  by_cases h : i.toNat < s.size
  · rw [dif_pos h]
    have h' : i.toNat < s.data.toList.length := by rw [Array.length_toList]; exact h
    rw [List.getElem?_eq_getElem h']
    rfl
  · rw [dif_neg h]
    have h' : ¬ i.toNat < s.data.toList.length := by rw [Array.length_toList]; exact h
    rw [List.getElem?_eq_none (by omega)]
    rfl
theorem xH {a b : ByteArray} {i : Int} (h0 : 0 ≤ i) (h : i < (a.size : Int)) : bt (a ++ b) i = bt a i := by
  rw [nO, nO, ByteArray.data_append, Array.toList_append, List.getElem?_append_left]
  rw [Array.length_toList]; show i.toNat < a.size; omega
theorem lX {s : ByteArray} {a b : Nat} {j : Int} (hj : 0 ≤ j) (h : j < ((s.extract a b).size : Int)) : bt (s.extract a b) j = bt s (a + j) := by
  have h' := h
  simp only [ByteArray.size_extract] at h'
  rw [nO, nO, Lib.extract_data, List.getElem?_take, if_pos (by omega), List.getElem?_drop]
  rw [show a + j.toNat = ((a : Int) + j).toNat from by omega]
theorem EM {s t : ByteArray} (hz : s.size = t.size) (h : ∀ i : Int, 0 ≤ i → i < (s.size : Int) → bt s i = bt t i) : s = t := by
  have es : s.data.toList.length = s.size := by rw [Array.length_toList]; rfl
  have et : t.data.toList.length = t.size := by rw [Array.length_toList]; rfl
  refine ByteArray.ext (Array.toList_inj.mp (List.ext_getElem (by omega) fun i h1 h2 => ?_))
  have := h i (by omega) (by omega)
  rw [nO, nO] at this
  have e : ((i : Int)).toNat = i := by omega
  rw [e, List.getElem?_eq_getElem h1, List.getElem?_eq_getElem h2] at this
  exact UInt8.toNat_inj.mp (Int.ofNat.inj this)
theorem NT (xs : List Int) (i : Int) (h : ∀ x ∈ xs, 0 ≤ x ∧ x ≤ 255) : bt (strOfNums xs) i = xs[i.toNat]?.getD 0 := by
  rw [nO, strOfNums_data, List.getElem?_map]
  by_cases hi : i.toNat < xs.length
  · rw [List.getElem?_eq_getElem hi]
    have := h _ (List.getElem_mem hi)
    simp [UInt8.toNat_ofNat']
    omega
  · rw [List.getElem?_eq_none (by omega)]
    rfl
theorem sN (a b : ByteArray) : (a ++ b).extract a.size (a ++ b).size = b := by
  rw [ByteArray.extract_append]
  have e : a.extract a.size (a ++ b).size = ⟨#[]⟩ := eq_empty (by simp only [ByteArray.size_extract]; omega)
  rw [e, ByteArray.size_append, show a.size - a.size = 0 from by omega, show a.size + b.size - a.size = b.size from by omega, ByteArray.extract_zero_size]
  exact ByteArray.ext (by rw [ByteArray.data_append]; simp)
theorem empty_append (s : ByteArray) : (⟨#[]⟩ : ByteArray) ++ s = s := by
  refine ByteArray.ext ?_
  rw [ByteArray.data_append]; simp
theorem append_empty (s : ByteArray) : s ++ (⟨#[]⟩ : ByteArray) = s := by
  refine ByteArray.ext ?_
  rw [ByteArray.data_append]; simp
theorem Dj : (⟨#[]⟩ : ByteArray).size = 0 := rfl
theorem size_ext {s : ByteArray} {i n : Int} (h0 : 0 ≤ i) (hn : 0 ≤ n) (hs : i + n ≤ (s.size : Int)) : ((s.extract i.toNat (i + n).toNat).size : Int) = n := by
  simp only [ByteArray.size_extract]; omega
theorem KW {s : ByteArray} {i n j : Int} (h0 : 0 ≤ i) (hj : 0 ≤ j) (hn : j < n) (hs : i + n ≤ (s.size : Int)) : bt (s.extract i.toNat (i + n).toNat) j = bt s (i + j) := by
  rw [lX hj (by rw [size_ext h0 (by omega) hs]; exact hn)]
  congr 1
  omega
theorem aV (a b : Bool) : (a == !b) = (a != b) := by cases a <;> cases b <;> rfl
theorem aW (a b : Bool) : (a != !b) = (a == b) := by cases a <;> cases b <;> rfl
section
open Go
variable {P : Program} {d c j : Nat} {e : TypeId} {xs ys : Array Value} {js : List Nat} {a b : Value} {r s : Bool} {w : World}
theorem KX (ha : (part e xs (j * c)).run P w = .ok a w) (hb : (part e ys (j * c)).run P w = .ok b w) (he : (Op.equalIn d e a b).run P w = .ok r w) : (Op.eqItems d e c xs ys [j]).run P w = .ok r w := by
  simp only [Op.eqItems, Sem.run_bind, ha, hb, he, Result.andThen_ok]
  cases r <;> simp
theorem Dk (ha : (part e xs (j * c)).run P w = .ok a w) (hb : (part e ys (j * c)).run P w = .ok b w) (he : (Op.equalIn d e a b).run P w = .ok r w) (hr : (Op.eqItems d e c xs ys js).run P w = .ok s w) : (Op.eqItems d e c xs ys (j :: js)).run P w = .ok (r && s) w := by
  rw [Op.eqItems]
  simp only [Sem.run_bind, ha, hb, he, Result.andThen_ok]
  cases r
  · simp
  · simpa using hr
theorem KY {t : TypeId} {n : Nat} (hu : P.underlying t = some (.array n e)) (hi : (P.info? e).isSome = true) (hc : P.cellsOf e = 1) (h : (Op.eqItems d e 1 xs ys (List.range n)).run P w = .ok r w) : (Op.equalIn (d + 1) t (.agg xs) (.agg ys)).run P w = .ok r w := by
  obtain ⟨i, hi⟩ := Option.isSome_iff_exists.mp hi
  rw [run_equalIn_array (P := P) w d xs ys hu hi, hc]
  exact h
end
end Go.Proofs.Ytdkkgecdhapfhaa.B
namespace Go.Proofs.Ytdkkgecdhapfhaa.B
open Go.RowKit Go.Proofs.YtdkkgecdhapfhaaW.bD
def uV (w : World) (g : Nat) (xs : List Int) : Prop := ∀ j, j < xs.length → w.cell? ⟨g, j, none⟩ = some (.int .u8 (xs.getD j 0)) ∧ w.frozen? ⟨g, j, none⟩ = false
def iJ (c : Int) : Int := if 65 ≤ c ∧ c ≤ 90 then c + 32 else c
def numsOf (s : ByteArray) : List Int := s.data.toList.map fun b => (b.toNat : Int)
theorem numsOf_length (s : ByteArray) : (numsOf s).length = s.size := by simp [numsOf]
theorem numsOf_at (s : ByteArray) (j : Nat) : (numsOf s).getD j 0 = bt s j := by
  rw [nO, numsOf, List.getD_eq_getElem?_getD, List.getElem?_map]
  rw [show ((j : Int)).toNat = j from by omega]
  cases s.data.toList[j]? <;> rfl
def nW (s : ByteArray) : ByteArray := strOfNums ((numsOf s).map iJ)
def iQ (k : Nat) (xs : List Int) : List Int := (xs.take k).map iJ ++ xs.drop k
theorem gK (k : Nat) (xs : List Int) : (iQ k xs).length = xs.length := by simp [iQ]; omega
theorem xI (xs : List Int) : iQ 0 xs = xs := by simp [iQ]
theorem zG (xs : List Int) : iQ xs.length xs = xs.map iJ := by simp [iQ]
theorem Dl (k : Nat) (xs : List Int) (h : k < xs.length) : (iQ k xs).getD k 0 = xs.getD k 0 := by
  simp only [iQ, List.getD_eq_getElem?_getD]
  rw [List.getElem?_append_right (by simp; omega)]
  simp only [List.length_map, List.length_take, List.getElem?_drop]
  congr 2
  omega
theorem uw (k : Nat) (xs : List Int) (h : k < xs.length) : (iQ k xs).set k (iJ (xs.getD k 0)) = iQ (k + 1) xs := by
  apply List.ext_getElem?
  intro i
  rw [List.getElem?_set]
  have hl := gK k xs
  by_cases e : k = i
  · subst e
    rw [if_pos rfl, if_pos (by omega)]
    simp only [iQ]
    rw [List.getElem?_append_left (by simp; omega), List.getElem?_map, List.getElem?_take, if_pos (by omega), List.getD_eq_getElem?_getD, List.getElem?_eq_getElem h]
    rfl
  · rw [if_neg e]
    simp only [iQ]
    by_cases h2 : i < k
    · rw [List.getElem?_append_left (by simp; omega), List.getElem?_append_left (by simp; omega), List.getElem?_map, List.getElem?_map, List.getElem?_take, List.getElem?_take, if_pos h2, if_pos (by omega)]
    · by_cases h3 : i < xs.length
      · rw [List.getElem?_append_right (by simp; omega), List.getElem?_append_right (by simp; omega), List.getElem?_drop, List.getElem?_drop]
        congr 1
        simp only [List.length_map, List.length_take]
        omega
      · rw [List.getElem?_eq_none (by simp; omega), List.getElem?_eq_none (by simp; omega)]
theorem zH (s : ByteArray) (k : Nat) : 0 ≤ bt s k ∧ bt s k ≤ 255 := fZ s k
theorem xJ (w : World) (e : TypeId) (s : ByteArray) : uV (Lib.bytesWorld w e s) w.heap.size (numsOf s) := by
  intro j hj
  rw [numsOf_length] at hj
  refine ⟨?_, ?_⟩
  · rw [Lib.bytesWorld_cell w e s j hj, numsOf_at, nO, List.getD_eq_getElem?_getD]
    rfl
  · have hlt : j < (Lib.bytesCells w e s).size := by
      have : s.size ≤ (Lib.bytesCells w e s).size := by simp [Lib.bytesCells]
      omega
    simp [World.frozen?, Lib.bytesWorld_at_new]
    omega
theorem rowAt_set {w : World} {g : Nat} {xs : List Int} (h : uV w g xs) (k : Nat) (v : Int) (hk : k < xs.length) : uV (w.setCell ⟨g, k, none⟩ (.int .u8 v)) g (xs.set k v) := by
  intro j hj
  rw [List.length_set] at hj
  obtain ⟨h1, h2⟩ := h j hj
  refine ⟨?_, by rw [World.frozen?_setCell]; exact h2⟩
  by_cases e : j = k
  · subst e
    rw [World.cell?_setCell_same w _ _ h1]
    simp [List.getD_eq_getElem?_getD, hj]
  · rw [World.cell?_setCell_other w _ _ _ (by intro hc; injection hc with _ h3 _; exact e h3.symm), h1]
    simp [List.getD_eq_getElem?_getD, List.getElem?_set, Ne.symm e]
theorem xK {B : Nat} {a w : World} (h : Below B a w) (hB : B ≤ w.heap.size) (e : TypeId) (s : ByteArray) : Below B a (Lib.bytesWorld w e s) :=
  ⟨h.os, h.tape, h.output, by rw [Lib.bytesWorld_size]; have := h.size; omega, fun k hk => (Lib.bytesWorld_at_old w e s k (by omega)).trans (h.block k hk)⟩
end Go.Proofs.Ytdkkgecdhapfhaa.B
namespace Go.Proofs.Ytdkkgecdhapfhaa.B
open Go.RowKit Go.Proofs.YtdkkgecdhapfhaaW.bD
def sg (b : Int) : ByteArray := strOfNums [b]
def root : ByteArray := ⟨#[0]⟩
theorem pI (b : Int) : (sg b).size = 1 := by unfold sg; rw [strOfNums_size]; rfl
theorem kI : root.size = 1 := rfl
theorem KZ (b : Int) (h : 0 ≤ b ∧ b ≤ 255) : bt (sg b) 0 = b := by
  unfold sg; rw [NT [b] 0 (by simpa using h)]; rfl
theorem F7 : bt root 0 = 0 := by decide
def yT : List ByteArray → ByteArray
  | [] => ⟨#[]⟩
  | x :: l => sg x.size ++ x ++ yT l
def enc (l : List ByteArray) : ByteArray := yT l ++ root
def Ie (x : ByteArray) : Prop := 1 ≤ x.size ∧ x.size ≤ 63
instance (x : ByteArray) : Decidable (Ie x) := by unfold Ie; infer_instance
theorem F8 : enc [] = root := empty_append _
theorem xL (x : ByteArray) (l : List ByteArray) : enc (x :: l) = sg x.size ++ x ++ enc l := by unfold enc; rw [yT, ByteArray.append_assoc]
theorem Dm (l m : List ByteArray) : yT (l ++ m) = yT l ++ yT m := by
  induction l with
  | nil => simp only [List.nil_append, yT]; exact (empty_append _).symm
  | cons x l ih => simp only [List.cons_append, yT, ih, ByteArray.append_assoc]
theorem nP (l : List ByteArray) : 1 ≤ (enc l).size := by unfold enc; rw [ByteArray.size_append, kI]; omega
theorem Tx {b : Int} {x r : ByteArray} (h : 0 ≤ b ∧ b ≤ 255) : bt (sg b ++ x ++ r) 0 = b := by
  rw [ByteArray.append_assoc, xH (by omega) (by rw [pI]; omega), KZ b h]
theorem Ig {b : Int} {x r : ByteArray} : (sg b ++ x ++ r).extract 1 (1 + x.size) = x := by
  rw [ByteArray.append_assoc, show (1 : Nat) = (sg b).size + 0 from by rw [pI], show (sg b).size + 0 + x.size = (sg b).size + x.size from by omega, ByteArray.extract_append_size_add, ByteArray.extract_append_eq_left rfl]
theorem K3 {b : Int} {x r : ByteArray} : (sg b ++ x ++ r).extract (1 + x.size) (sg b ++ x ++ r).size = r := by
  have : (sg b ++ x).size = 1 + x.size := by rw [ByteArray.size_append, pI]
  have h := sN (sg b ++ x) r
  rw [this] at h
  exact h
theorem oK {b : Int} {x r : ByteArray} : (sg b ++ x ++ r).size = 1 + x.size + r.size := by simp only [ByteArray.size_append, pI]
theorem XH (n : ByteArray) (k : Nat) (hk : (k : Int) = bt n 0) (hlt : 1 + k ≤ n.size) : n = sg k ++ n.extract 1 (1 + k) ++ n.extract (1 + k) n.size := by
  have h1 : n.extract 0 1 = sg k := by
    have hz : (n.extract 0 1).size = 1 := by rw [ByteArray.size_extract]; omega
    refine EM (by rw [hz, pI]) fun i h0 hi => ?_
    have : i = 0 := by omega
    subst this
    have hr := fZ n 0
    rw [lX (by omega) (by rw [hz]; omega), KZ _ (by omega), hk]
    rfl
  rw [← h1, ByteArray.extract_append_extract, show min 0 1 = 0 from rfl, show max 1 (1 + k) = 1 + k from by omega, ByteArray.extract_append_extract]
  rw [show min 0 (1 + k) = 0 from by omega, show max (1 + k) n.size = n.size from by omega, ByteArray.extract_zero_size]
def jJ : Nat → ByteArray → Option (List ByteArray)
  | 0, _ => none
  | k + 1, n =>
    if n.size = 0 then none
    else if n = root then some []
    else if 1 ≤ bt n 0 ∧ bt n 0 ≤ 63 ∧ bt n 0 + 1 < (n.size : Int) then
      (jJ k (n.extract (1 + (bt n 0).toNat) n.size)).map (n.extract 1 (1 + (bt n 0).toNat) :: ·)
    else none
theorem kS : ∀ (k : Nat) (n : ByteArray) (l : List ByteArray), jJ k n = some l → n = enc l ∧ ∀ x ∈ l, Ie x
  | 0, _, _, h => by simp [jJ] at h
  | k + 1, n, l, h => by
    rw [jJ] at h
    split at h
    · cases h
    · split at h
      · rename_i hr
        cases h
        exact ⟨by rw [F8]; exact hr, by simp⟩
      · split at h
        · rename_i hc
          obtain ⟨m, hm, rfl⟩ := zmm h
          obtain ⟨e, hok⟩ := kS k _ m hm
          have hz : (n.extract 1 (1 + (bt n 0).toNat)).size = (bt n 0).toNat := by rw [ByteArray.size_extract]; omega
          refine ⟨?_, ?_⟩
          · rw [xL, hz, ← e]
            exact XH n _ (by omega) (by omega)
          · intro x hx
            rcases List.mem_cons.mp hx with rfl | hx
            · unfold Ie; omega
            · exact hok x hx
        · cases h
theorem Dp (x : ByteArray) (l : List ByteArray) (h : Ie x) : enc (x :: l) ≠ root := by
  intro e
  have := congrArg ByteArray.size e
  have h2 := nP l
  have h1 := h.1
  rw [xL, oK, kI] at this
  omega
theorem pJ : ∀ (k : Nat) (l : List ByteArray), (∀ x ∈ l, Ie x) → (enc l).size ≤ k → jJ k (enc l) = some l
  | 0, l, _, hk => by have := nP l; omega
  | k + 1, [], _, _ => by
    rw [jJ, F8, if_neg (by rw [kI]; omega), if_pos rfl]
  | k + 1, x :: l, hok, hk => by
    have hx := hok x (by simp)
    have h1 := nP l
    have hr := Dp x l hx
    obtain ⟨hx1, hx2⟩ := hx
    rw [xL] at hk hr ⊢
    rw [oK] at hk
    rw [jJ, if_neg (by rw [oK]; omega), if_neg hr, Tx (by omega), oK, if_pos (by omega)]
    have e : ((x.size : Int)).toNat = x.size := by omega
    have hc := @K3 (x.size : Int) x (enc l)
    rw [oK] at hc
    rw [e, Ig, hc, pJ k l (fun y hy => hok y (by simp [hy])) (by omega)]
    rfl
def uy (n : ByteArray) : Option (List ByteArray) := if n.size ≤ 255 then jJ 255 n else none
theorem Ih {n : ByteArray} {l : List ByteArray} (h : uy n = some l) : n = enc l ∧ (∀ x ∈ l, Ie x) ∧ n.size ≤ 255 := by
  unfold uy at h
  split at h
  · exact ⟨(kS _ _ _ h).1, (kS _ _ _ h).2, by assumption⟩
  · cases h
theorem K4 {l : List ByteArray} (hok : ∀ x ∈ l, Ie x) (hz : (enc l).size ≤ 255) : uy (enc l) = some l := by
  unfold uy
  rw [if_pos hz, pJ _ _ hok hz]
theorem xM : ∀ (k : Nat) (n : ByteArray), n.size ≤ k → jJ k n = jJ n.size n := by
  intro k n hk
  cases h : jJ k n with
  | some l =>
    obtain ⟨e, hok⟩ := kS _ _ _ h
    subst e
    exact (pJ _ _ hok (Nat.le_refl _)).symm
  | none =>
    cases h2 : jJ n.size n with
    | none => rfl
    | some l =>
      obtain ⟨e, hok⟩ := kS _ _ _ h2
      rw [e] at h hk
      rw [pJ k l hok hk] at h
      cases h
theorem xO {n : ByteArray} (h : 1 ≤ n.size) : jJ n.size n = if n = root then some [] else if 1 ≤ bt n 0 ∧ bt n 0 ≤ 63 ∧ bt n 0 + 1 < (n.size : Int) then
      (jJ (n.extract (1 + (bt n 0).toNat) n.size).size (n.extract (1 + (bt n 0).toNat) n.size)).map (n.extract 1 (1 + (bt n 0).toNat) :: ·) else none := by
  obtain ⟨k, hk⟩ : ∃ k, n.size = k + 1 := ⟨n.size - 1, by omega⟩
  conv => lhs; rw [hk, jJ]
  rw [if_neg (by omega)]
  split
  · rfl
  · split
    · rw [xM k _ (by rw [ByteArray.size_extract]; omega)]
    · rfl
def jA (n : ByteArray) : Bool := (uy n).isSome
def same (a b : ByteArray) : Bool := jA a && jA b && decide (nW a = nW b)
theorem F9 {n : ByteArray} : jA n = true ↔ ∃ l, n = enc l ∧ (∀ x ∈ l, Ie x) ∧ n.size ≤ 255 := by
  unfold jA
  constructor
  · intro h
    obtain ⟨l, hl⟩ := Option.isSome_iff_exists.mp h
    exact ⟨l, Ih hl⟩
  · rintro ⟨l, rfl, h1, h2⟩
    rw [K4 h1 h2]; rfl
end Go.Proofs.Ytdkkgecdhapfhaa.B
namespace Go.Proofs.YtdkkgecdhapfhaaW.dV
open Go.Proofs.YtdkkgecdhapfhaaW.bD (aj)
def pK (md : Region.Mode) (o : Oper) : List Nat := (o.after.toList.filter (fun e => Region.binds md e)).map (fun e => e.on)
def Bc (md : Region.Mode) (ops : Array Oper) (i : Nat) (oi : Oper) : List Nat := (List.range ops.size).filter fun j => !(j == i) && match ops[j]? with
  | some oj => !(oj.after.any (fun e => Region.binds md e && e.on == i) || oi.apart ops oj)
  | none => false
def mh (md : Region.Mode) (ops : Array Oper) : Bool × List (List Nat × List Nat) := (Region.noSelect ops, (List.range ops.size).map fun i => match ops[i]? with
  | some o => (pK md o, Bc md ops i o)
  | none => ([], []))
def mF (T : List (List Nat × List Nat)) (l : List Bool) (i : Nat) : Bool := !l.getD i true && match T[i]? with
  | some r => r.1.all (fun j => l.getD j false)
  | none => false
def xP (T : List (List Nat × List Nat)) (l : List Bool) : List Nat := (List.range T.length).filter (mF T l)
def Dq (T : List (List Nat × List Nat)) (l : List Bool) (i : Nat) : Bool := match T[i]? with
  | some r => r.2.all (fun j => l.getD j true)
  | none => false
def vS (T : List (List Nat × List Nat)) (l : List Bool) : Bool := (List.range T.length).all fun j => !l.getD j false || match T[j]? with
  | some r => r.1.all (fun k => l.getD k false)
  | none => true
def uz (T : List (List Nat × List Nat)) (i : Nat) : Nat → Nat → Bool
  | 0, _ => false
  | fuel + 1, d => match T[d]? with
    | some r => r.1.any fun j => j == i || uz T i fuel j
    | none => false
def lastT (T : List (List Nat × List Nat)) (l : List Bool) (ds : List Nat) (i : Nat) : Bool := ds.all fun d => l.getD d true || uz T i T.length d
section
variable {md : Region.Mode} {ops : Array Oper} {T : Bool × List (List Nat × List Nat)} {l l' li lj lk : Array Bool} {ds : List Nat} {i j k : Nat}
theorem gd (l : Array Bool) (j : Nat) (b : Bool) : l.getD j b = l.toList.getD j b := by simp [Array.getD_eq_getD_getElem?, List.getD_eq_getElem?_getD]
theorem zI (o : Oper) (p : Nat → Bool) : o.after.all (fun e => !Region.binds md e || p e.on) = (pK md o).all p := by
  unfold pK
  rw [← Array.all_toList]
  induction o.after.toList with
  | nil => rfl
  | cons e r ih =>
    rw [List.all_cons, ih, List.filter_cons]
    cases h : Region.binds md e <;> simp
theorem Ii (o : Oper) (p : Nat → Bool) : o.after.any (fun e => Region.binds md e && p e.on) = (pK md o).any p := by
  unfold pK
  rw [← Array.any_toList]
  induction o.after.toList with
  | nil => rfl
  | cons e r ih =>
    rw [List.any_cons, ih, List.filter_cons]
    cases h : Region.binds md e <;> simp
theorem mG : (mh md ops).2.length = ops.size := by simp [mh]
theorem pO {o : Oper} (h : ops[i]? = some o) : (mh md ops).2[i]? = some (pK md o, Bc md ops i o) := by
  have hi := (Array.getElem?_eq_some_iff.1 h).1
  unfold mh
  rw [List.getElem?_map, List.getElem?_range hi, Option.map_some, h]
theorem pQ (h : ops[i]? = none) : (mh md ops).2[i]? = none := by
  have hi : ops.size ≤ i := Array.getElem?_eq_none_iff.1 h
  exact List.getElem?_eq_none (by rw [mG]; exact hi)
theorem EN : mF (mh md ops).2 l.toList i = (!l.getD i true && ((ops[i]?).map (·.after.all fun e => !Region.binds md e || l.getD e.on false)).getD false) := by
  unfold mF
  rw [gd]
  cases h : ops[i]? with
  | none => rw [pQ h]; rfl
  | some o =>
    rw [pO h]
    simp only [Option.map_some, Option.getD_some]
    rw [← zI]
    simp only [gd]
theorem ready_eq : Region.ready md ops l = xP (mh md ops).2 l.toList := by
  unfold Region.ready xP
  rw [mG]
  refine List.filter_congr (fun i _ => ?_)
  rw [EN]
theorem free_eq : Region.free md ops l i = Dq (mh md ops).2 l.toList i := by
  unfold Region.free Dq
  cases h : ops[i]? with
  | none => rw [pQ h]
  | some oi =>
    rw [pO h]
    simp only [Bc]
    rw [List.all_filter]
    congr 1
    funext j
    rw [gd]
    cases hj : ops[j]? with
    | none => cases (j == i) <;> cases (l.toList.getD j true) <;> simp
    | some oj =>
      cases (j == i) <;> cases (l.toList.getD j true) <;> cases (oj.after.any (fun e => Region.binds md e && e.on == i) || oi.apart ops oj) <;> simp_all
theorem Ij : Region.sK md ops l = vS (mh md ops).2 l.toList := by
  unfold Region.sK vS
  rw [mG]
  congr 1
  funext j
  rw [gd]
  cases h : ops[j]? with
  | none => rw [pQ h]
  | some o =>
    rw [pO h]
    simp only
    rw [← zI]
    simp only [gd]
theorem Dr : ∀ (fuel d : Nat), Region.kY md ops i fuel d = uz (mh md ops).2 i fuel d
  | 0, _ => rfl
  | fuel + 1, d => by
    unfold Region.kY uz
    cases h : ops[d]? with
    | none => rw [pQ h]
    | some o =>
      rw [pO h]
      simp only
      rw [← Ii]
      congr 1
      funext e
      rw [Dr fuel]
theorem NU : Region.lastB md ops l ds i = lastT (mh md ops).2 l.toList ds i := by
  unfold Region.lastB lastT
  rw [mG]
  congr 1
  funext d
  rw [gd, Dr]
theorem uW (h : mF T.2 l.toList i = true) (hT : mh md ops = T) : (Region.ready md ops l).contains i = true := by
  subst hT
  rw [ready_eq]
  unfold xP
  rw [List.contains_iff_mem, List.mem_filter, List.mem_range]
  refine ⟨?_, h⟩
  unfold mF at h
  rw [Bool.and_eq_true] at h
  cases hq : (mh md ops).2[i]? with
  | none => rw [hq] at h; simp at h
  | some r => exact (List.getElem?_eq_some_iff.1 hq).1
theorem EO (h : (l.toList.set i true == l'.toList) = true) : (l.setIfInBounds i true == l') = true := by
  rw [beq_iff_eq] at h ⊢
  apply Array.ext'
  rw [Array.toList_setIfInBounds]
  exact h
def XI (T : Bool × List (List Nat × List Nat)) (l l' : List Bool) (i : Nat) : Bool := T.1 && Dq T.2 l i && mF T.2 l i && (l.set i true == l')
theorem jD (hT : mh md ops = T) (h : XI T l.toList l'.toList i = true) : NP md ops l l' i = true := by
  simp only [XI, Bool.and_eq_true] at h
  obtain ⟨⟨⟨h1, h2⟩, h3⟩, h4⟩ := h
  have h5 := uW h3 hT
  have h6 := EO h4
  subst hT
  simp only [NP, Bool.and_eq_true]
  exact ⟨⟨⟨h1, by rw [free_eq]; exact h2⟩, h5⟩, h6⟩
def K5 (T : Bool × List (List Nat × List Nat)) (ds : List Nat) (l l' : List Bool) (i : Nat) : Bool := T.1 && Dq T.2 l i && mF T.2 l i && vS T.2 l && lastT T.2 l ds i && (l.set i true == l')
theorem NV (hT : mh md ops = T) (h : K5 T ds l.toList l'.toList i = true) : takeB md ops ds l l' i = true := by
  simp only [K5, Bool.and_eq_true] at h
  obtain ⟨⟨⟨⟨⟨h1, h2⟩, h3⟩, h4⟩, h5⟩, h6⟩ := h
  have h7 := uW h3 hT
  have h8 := EO h6
  subst hT
  simp only [takeB, Bool.and_eq_true]
  exact ⟨⟨⟨⟨⟨h1, by rw [free_eq]; exact h2⟩, h7⟩, by rw [Ij]; exact h4⟩, by rw [NU]; exact h5⟩, h8⟩
theorem EP (hT : mh md ops = T) (h : (xP T.2 l.toList == [i] && l.toList.set i true == l'.toList) = true) : Bb md ops l l' i = true := by
  simp only [Bool.and_eq_true] at h
  obtain ⟨h1, h2⟩ := h
  subst hT
  simp only [Bb, Bool.and_eq_true]
  exact ⟨by rw [ready_eq]; exact h1, EO h2⟩
theorem Ga (hT : mh md ops = T) (h : (xP T.2 l.toList == []) = true) : (Region.ready md ops l == []) = true := by
  subst hT
  rw [ready_eq]
  exact h
def Tz (B : List Nat) (d : Nat) : List Nat → Nat
  | [] => 0
  | n :: r => (2 ^ n ||| (if n < d then B.getD n 0 else 0)) ||| Tz B d r
def pR (T : List (List Nat × List Nat)) (B : List Nat) : Bool := (List.range T.length).all fun d => match T[d]? with
  | some r => (B.getD d 0 ||| Tz B d r.1) == Tz B d r.1
  | none => false
theorem Gb {B : List Nat} {d i : Nat} : ∀ {ns : List Nat}, (Tz B d ns).testBit i = true → ∃ n ∈ ns, n = i ∨ (n < d ∧ (B.getD n 0).testBit i = true)
  | [], h => by simp [Tz] at h
  | n :: r, h => by
    unfold Tz at h
    rw [Nat.testBit_or, Nat.testBit_or, Bool.or_eq_true, Bool.or_eq_true] at h
    rcases h with (h | h) | h
    · rw [Nat.testBit_two_pow] at h
      exact ⟨n, List.mem_cons_self, .inl (by simpa using h)⟩
    · by_cases hn : n < d
      · rw [if_pos hn] at h
        exact ⟨n, List.mem_cons_self, .inr ⟨hn, h⟩⟩
      · rw [if_neg hn] at h
        simp at h
    · obtain ⟨m, hm, h2⟩ := Gb h
      exact ⟨m, List.mem_cons_of_mem _ hm, h2⟩
theorem zJ {T : List (List Nat × List Nat)} {B : List Nat} (hB : pR T B = true) : ∀ (fuel d : Nat), d < fuel → d < T.length → (B.getD d 0).testBit i = true → uz T i fuel d = true
  | 0, d, h, _, _ => by omega
  | fuel + 1, d, h, hd, hb => by
    have h1 := List.all_eq_true.1 hB d (List.mem_range.2 hd)
    cases hr : T[d]? with
    | none => rw [hr] at h1; simp at h1
    | some r =>
      rw [hr] at h1
      simp only [beq_iff_eq] at h1
      have h2 : (Tz B d r.1).testBit i = true := by rw [← h1, Nat.testBit_or, hb, Bool.true_or]
      obtain ⟨n, hn, h3⟩ := Gb h2
      unfold uz
      rw [hr]
      simp only
      rw [List.any_eq_true]
      refine ⟨n, hn, ?_⟩
      rcases h3 with rfl | ⟨h4, h5⟩
      · simp
      · rw [zJ hB fuel n (by omega) (by omega) h5, Bool.or_true]
def Qx (T : List (List Nat × List Nat)) (B : List Nat) (l : List Bool) (ds : List Nat) (i : Nat) : Bool := ds.all fun d => l.getD d true || (decide (d < T.length) && (B.getD d 0).testBit i)
def Qy (T : Bool × List (List Nat × List Nat)) (B : List Nat) (ds : List Nat) (l l' : List Bool) (i : Nat) : Bool := T.1 && Dq T.2 l i && mF T.2 l i && vS T.2 l && Qx T.2 B l ds i && (l.set i true == l')
theorem xQ {B : List Nat} (hT : mh md ops = T) (hB : pR T.2 B = true) (h : Qy T B ds l.toList l'.toList i = true) : takeB md ops ds l l' i = true := by
  refine NV hT ?_
  simp only [Qy, K5, Bool.and_eq_true] at h ⊢
  obtain ⟨⟨⟨⟨⟨h1, h2⟩, h3⟩, h4⟩, h5⟩, h6⟩ := h
  refine ⟨⟨⟨⟨⟨h1, h2⟩, h3⟩, h4⟩, ?_⟩, h6⟩
  unfold Qx at h5
  unfold lastT
  rw [List.all_eq_true] at h5 ⊢
  intro d hd
  have h7 := h5 d hd
  rw [Bool.or_eq_true, Bool.and_eq_true, decide_eq_true_eq] at h7
  rcases h7 with h7 | ⟨h8, h9⟩
  · rw [h7, Bool.true_or]
  · rw [zJ hB _ d h8 h8 h9, Bool.or_true]
theorem zK {P : Program} {Q : Exit → Act → World → Prop} {S : World → Prop} {n : Nat} {a : Act} {w : World} {B : List Nat} (hT : mh md ops = T) (hB : pR T.2 B = true) (h : aj (mh md ops = T) → aj (pR T.2 B = true) → dn P md ops Q S ds n l a w) : dn P md ops Q S ds n l a w := h ⟨hT⟩ ⟨hB⟩
end
def qD : Code → Nat → Option (Array Oper)
  | .region id ops _, k => if id == k then some ops else none
  | .seq a b, k => match qD a k with
    | some o => some o
    | none => qD b k
  | .cond _ a b, k => match qD a k with
    | some o => some o
    | none => qD b k
  | .block _ c, k => qD c k
  | .loop c, k => qD c k
  | .scope c, k => qD c k
  | .rangeFunc _ _ a b, k => match qD a k with
    | some o => some o
    | none => qD b k
  | _, _ => none
def opsOf (f : Func) (k : Nat) : Array Oper := ((f.body.bind fun c => qD c k)).getD #[]
end Go.Proofs.YtdkkgecdhapfhaaW.dV
namespace Go.Proofs.YtdkkgecdhapfhaaW.bD
theorem fM.one {α : Type} {R : α → List Value → Prop} {ps : List α} {cs : List Value} {p : α} {v : Value} (hp : R p [v]) (h : fM R 1 ps cs) : fM R 1 (p :: ps) (v :: cs) := by
  refine ⟨by simp [h.1], fun j q hq => ?_⟩
  cases j with
  | zero =>
    simp only [List.getElem?_cons_zero, Option.some.injEq] at hq
    subst hq
    simpa using hp
  | succ j =>
    simp only [List.getElem?_cons_succ] at hq
    have h1 := h.2 j q hq
    simpa [Nat.mul_one] using h1
theorem fM.front {α : Type} {R : α → List Value → Prop} {size : Nat} {ps : List α} {cs c all : List Value} {p : α} (hp : R p c) (hc : c.length = size) (h : fM R size ps cs) (ha : c ++ cs = all) : fM R size (p :: ps) all := by
  subst ha
  refine ⟨by rw [List.length_append, hc, h.1, List.length_cons, Nat.succ_mul, Nat.add_comm], fun j q hq => ?_⟩
  cases j with
  | zero =>
    simp only [List.getElem?_cons_zero, Option.some.injEq] at hq
    subst hq
    rw [Nat.zero_mul, List.drop_zero, List.take_append_of_le_length (by omega), List.take_of_length_le (by omega)]
    exact hp
  | succ j =>
    simp only [List.getElem?_cons_succ] at hq
    have h1 := h.2 j q hq
    rw [Nat.succ_mul, List.drop_append, List.drop_of_length_le (by rw [hc]; exact Nat.le_add_left _ _), List.nil_append, hc, Nat.add_sub_cancel]
    exact h1
theorem fM.c2 {α : Type} {R : α → List Value → Prop} {ps : List α} {cs : List Value} {p : α} {va vb : Value} (hp : R p [va, vb]) (h : fM R 2 ps cs) : fM R 2 (p :: ps) (va :: vb :: cs) := fM.front hp rfl h rfl
theorem fM.c3 {α : Type} {R : α → List Value → Prop} {ps : List α} {cs : List Value} {p : α} {va vb vc : Value} (hp : R p [va, vb, vc]) (h : fM R 3 ps cs) : fM R 3 (p :: ps) (va :: vb :: vc :: cs) := fM.front hp rfl h rfl
theorem fM.c4 {α : Type} {R : α → List Value → Prop} {ps : List α} {cs : List Value} {p : α} {va vb vc vd : Value} (hp : R p [va, vb, vc, vd]) (h : fM R 4 ps cs) : fM R 4 (p :: ps) (va :: vb :: vc :: vd :: cs) := fM.front hp rfl h rfl
theorem fM.c5 {α : Type} {R : α → List Value → Prop} {ps : List α} {cs : List Value} {p : α} {va vb vc vd ve : Value} (hp : R p [va, vb, vc, vd, ve]) (h : fM R 5 ps cs) : fM R 5 (p :: ps) (va :: vb :: vc :: vd :: ve :: cs) := fM.front hp rfl h rfl
theorem fM.c6 {α : Type} {R : α → List Value → Prop} {ps : List α} {cs : List Value} {p : α} {va vb vc vd ve vf : Value} (hp : R p [va, vb, vc, vd, ve, vf]) (h : fM R 6 ps cs) : fM R 6 (p :: ps) (va :: vb :: vc :: vd :: ve :: vf :: cs) := fM.front hp rfl h rfl
theorem fM.c7 {α : Type} {R : α → List Value → Prop} {ps : List α} {cs : List Value} {p : α} {va vb vc vd ve vf vg : Value} (hp : R p [va, vb, vc, vd, ve, vf, vg]) (h : fM R 7 ps cs) : fM R 7 (p :: ps) (va :: vb :: vc :: vd :: ve :: vf :: vg :: cs) := fM.front hp rfl h rfl
theorem fM.c8 {α : Type} {R : α → List Value → Prop} {ps : List α} {cs : List Value} {p : α} {va vb vc vd ve vf vg vh : Value} (hp : R p [va, vb, vc, vd, ve, vf, vg, vh]) (h : fM R 8 ps cs) : fM R 8 (p :: ps) (va :: vb :: vc :: vd :: ve :: vf :: vg :: vh :: cs) := fM.front hp rfl h rfl
theorem fM.c9 {α : Type} {R : α → List Value → Prop} {ps : List α} {cs : List Value} {p : α} {va vb vc vd ve vf vg vh vi : Value} (hp : R p [va, vb, vc, vd, ve, vf, vg, vh, vi]) (h : fM R 9 ps cs) : fM R 9 (p :: ps) (va :: vb :: vc :: vd :: ve :: vf :: vg :: vh :: vi :: cs) := fM.front hp rfl h rfl
theorem fM.c10 {α : Type} {R : α → List Value → Prop} {ps : List α} {cs : List Value} {p : α} {va vb vc vd ve vf vg vh vi vj : Value} (hp : R p [va, vb, vc, vd, ve, vf, vg, vh, vi, vj]) (h : fM R 10 ps cs) : fM R 10 (p :: ps) (va :: vb :: vc :: vd :: ve :: vf :: vg :: vh :: vi :: vj :: cs) := fM.front hp rfl h rfl
end Go.Proofs.YtdkkgecdhapfhaaW.bD
namespace Go.Proofs.YtdkkgecdhapfhaaW.bD
open Go.RowKit
section
variable {P : Program} {ops : Array Oper} {rest : List Oper} {o : Oper} {a : Act} {Q : Exit → Act → World → Prop} {W : World}
theorem jm (hw : Region.wanted o (yielded ops a.tmps) = true) (h : wpList P ops Q ({ o with guard := none } :: rest) a W) : wpList P ops Q (o :: rest) a W := by
  have h1 : Region.wanted { o with guard := none } (yielded ops a.tmps) = true := rfl
  unfold wpList at h ⊢
  rw [if_pos h1] at h
  rw [if_pos hw]
  exact h
end
end Go.Proofs.YtdkkgecdhapfhaaW.bD
namespace Go.Proofs.Ytdkkgecdhapfhaa.ZQ
open Go.RowKit Go.Proofs.YtdkkgecdhapfhaaW.bD Go.Proofs.YtdkkgecdhapfhaaW.dV Go.Proofs.YtdkkgecdhapfhaaW.eF
attribute [local go_sem] jh ji jZ j3 iC iD jk jl
def XJ : Option Int → Value
  | none => .nilIface
  | some c => .iface 0 (.int .i64 c)
theorem aJ : XJ none = .nilIface := rfl
theorem aK (c : Int) : XJ (some c) = .iface 0 (.int .i64 c) := rfl
theorem Gc : (Try.prog.info? 9).map (fun i => (i.zero, i.size, i.bytes)) = some (some (.string ⟨#[]⟩), 1, 16) := by kernel_rfl
end Go.Proofs.Ytdkkgecdhapfhaa.ZQ
namespace Go.Proofs.Ytdkkgecdhapfhaa.ZQ
open Go.RowKit Go.Proofs.YtdkkgecdhapfhaaW.bD Go.Proofs.YtdkkgecdhapfhaaW.dV Go.Proofs.YtdkkgecdhapfhaaW.eF
attribute [local go_sem] jh ji jZ j3 iC iD jk jl
mutual
def bN.l0 : Nat → ByteArray → List ByteArray → Option (List ByteArray × Bool)
  | 0, _, _ => none
  | k + 1, x0, x4 => if (x0.size : Int) > 0 then (bN.j1 k x0 x4 (x0.toList != ([0] : List UInt8))) else (bN.j1 k x0 x4 false)
def bN.j1 : Nat → ByteArray → List ByteArray → Bool → Option (List ByteArray × Bool)
  | 0, _, _, _ => none
  | k + 1, x0, x4, x15 => if x15 = true then (if 0 < (x0.size : Int) then (if (wrap64 (bt x0 0)) < 1 then (some (([] : List ByteArray), false)) else (if (wrap64 (bt x0 0)) > 63 then (some (([] : List ByteArray), false)) else (if (wrap64 ((wrap64 (bt x0 0)) + 1)) ≥ (x0.size : Int) then (some (([] : List ByteArray), false)) else (if 1 ≤ (wrap64 (1 + (wrap64 (bt x0 0)))) then (if (wrap64 (1 + (wrap64 (bt x0 0)))) ≤ (x0.size : Int) then (if x4.length < 8796093022208 then (if 0 ≤ (wrap64 (1 + (wrap64 (bt x0 0)))) then (bN.l0 k (x0.extract ((wrap64 (1 + (wrap64 (bt x0 0)))) : Int).toNat x0.size) (x4 ++ [x0.extract 1 ((wrap64 (1 + (wrap64 (bt x0 0)))) : Int).toNat])) else (none)) else (none)) else (none)) else (none))))) else (none)) else (some (x4, (x0.toList == ([0] : List UInt8))))
end
def bN.f (k : Nat) (a0 : ByteArray) : Option (List ByteArray × Bool) := if (a0.size : Int) > 255 then (some (([] : List ByteArray), false)) else (bN.l0 k a0 ([] : List ByteArray))
def bN.T8 : Bool × List (List Nat × List Nat) := (true, [([], []), ([], []), ([], []), ([2], [2]), ([1, 3], [1, 3]), ([4], [4]), ([0, 5], [0, 5]), ([], []), ([], []), ([8], [8]), ([7, 9], [7, 9]), ([6, 6, 0, 1, 2, 3, 4, 5, 6], [0, 6]), ([10, 11, 0, 1, 2, 3, 4, 5, 6, 7, 8, 9, 10, 11], [1, 7, 10])])
def bN.B8 : List Nat := [0, 0, 0, 4, 14, 30, 63, 0, 0, 256, 896, 127, 4095]
theorem bN.adv : mh .any (opsOf Try.f109 8) = bN.T8 := by kernel_rfl
theorem bN.XK : pR bN.T8.2 bN.B8 = true := by kernel_rfl
set_option maxHeartbeats 8000000 in
set_option maxRecDepth 100000 in
theorem bN.calls (k : Nat) (a0 : ByteArray) (r1 : List ByteArray) (r2 : Bool) (w : World) (h : bN.f k a0 = some (r1, r2)) :
    Calls Try.prog 109 #[.string a0] w fun e w' => ∃ Qz : Value, e = .returned (.tuple #[Qz, .bool r2]) ∧ Kd.R Kd.string 9 w' w.heap.size (fun _ => True) Qz r1 ∧ Below w.heap.size w w' := by
  have HB := aj.mk (Below.refl w.heap.size w)
  have H : (if (a0.size : Int) > 255 then (some (([] : List ByteArray), false)) else (bN.l0 k a0 ([] : List ByteArray))) = some (r1, r2) := h
  clear h
  by_cases c2 : (a0.size : Int) > 255
  · rw [if_pos c2] at H
    have vE : decide (255 < (a0.size : Int)) = true := decide_eq_true c2
    have Ik : decide (255 < a0.size) = true := decide_eq_true (by omega)
    clear c2
    simp only [Option.some.injEq, Prod.mk.injEq] at H
    obtain ⟨rfl, rfl⟩ := H
    go_enter Try.func109, Try.ntmps109
    go_wp2
    go_ret2
    exact ⟨_, by first | rfl | (simp [aJ, aK] <;> rfl) | (simp [*, aJ, aK] <;> rfl), by first | exact Kd.jy _ _ _ _ _ | exact Kd.kQ _ _ _ _ _ | exact Kd.kR _ _ _ _ _ | exact Kd.kN _ _ _ _ _ | exact Kd.kP _ _ _ _ _, by repeat (first | (with_reducible first | exact HB.out | apply ak | apply ah | apply au) | exact HB.out)⟩
  · rw [if_neg c2] at H
    have vE : decide (255 < (a0.size : Int)) = false := decide_eq_false c2
    have Ik : decide (255 < a0.size) = false := decide_eq_false (by omega)
    clear c2
    have H' := aj.mk H
    clear H
    go_enter Try.func109, Try.ntmps109
    go_wp2
    go_loopg [0, 4] k (fun kq v0 v4 w' => ∃ (bM : ByteArray) (qg : List ByteArray), v0 = .string bM ∧ aj (bN.l0 kq bM qg = some (r1, r2)) ∧ aj (kq ≤ k) ∧ aj (Kd.R Kd.string 9 w' w.heap.size (fun _ => True) v4 qg) ∧ aj (Below w.heap.size w w'))
    case atStart => exact ⟨(a0), (([] : List ByteArray)), (by first | rfl | (simp; done) | (simp [*]; done) | (simp [B.aV]; done) | (simp [B.aW]; done)), H', ⟨Nat.le_refl _⟩, ⟨by first | exact Kd.jy _ _ _ _ _ | exact Kd.kQ _ _ _ _ _ | exact Kd.kR _ _ _ _ _ | exact Kd.kN _ _ _ _ _ | exact Kd.kP _ _ _ _ _⟩, ⟨by repeat (first | (with_reducible first | exact HB.out | apply ak | apply ah | apply au) | exact HB.out)⟩⟩
    case round =>
      clear H'
      try clear c1
      try clear c2
      try clear vE
      try clear Ik
      try clear p2
      obtain ⟨bM, qg, rfl, HA, sO, qh, HB⟩ := hrel
      cases gk with
      | zero => exact absurd HA.out (by simp [bN.l0])
      | succ k1 =>
        have H := HA.out
        clear HA
        simp only [bN.l0] at H
        have HC3 := aj.mk H
        clear H
        go_upto_region 4 with (fail)
        go_cut [15] (fun v15 wc => ∃ (kq : Nat) (Gd : Bool), v15 = .bool Gd ∧ aj (bN.j1 kq bM qg Gd = some (r1, r2)) ∧ aj (kq ≤ k1) ∧ aj (Kd.R Kd.string 9 wc w.heap.size (fun _ => True) u4 qg) ∧ aj (Below w.heap.size w wc))
        case first =>
          have H := HC3.out
          clear HC3
          by_cases c4 : (bM.size : Int) > 0
          · rw [if_pos c4] at H
            have qj : decide (0 < (bM.size : Int)) = true := decide_eq_true c4
            have Il : decide (0 < bM.size) = true := decide_eq_true (by omega)
            clear c4
            (first | rw [qj] | rw [K6] | (simp only [gN, ig]; rw [qj]) | skip)
            have H' := aj.mk H
            clear H
            go_wp2
            go_meet
            case rel => exact ⟨_, ((bM.toList != ([0] : List UInt8))), (by first | rfl | (simp; done) | (simp [*]; done) | (simp [B.aV]; done) | (simp [B.aW]; done)), H', ⟨by have := sO.out; first | omega | exact Nat.le_refl _⟩, ⟨by (with_reducible repeat (first | apply Kd.eU | apply Kd.fF | apply Kd.fP)); exact qh.out⟩, ⟨by repeat (first | (with_reducible first | exact HB.out | apply ak | apply ah | apply au) | exact HB.out)⟩⟩
          · rw [if_neg c4] at H
            have qj : decide (0 < (bM.size : Int)) = false := decide_eq_false c4
            have Il : decide (0 < bM.size) = false := decide_eq_false (by omega)
            clear c4
            (first | rw [qj] | rw [K6] | (simp only [gN, ig]; rw [qj]) | skip)
            have H' := aj.mk H
            clear H
            go_wp2
            go_meet
            case rel => exact ⟨_, (false), (by first | rfl | (simp; done) | (simp [*]; done) | (simp [B.aV]; done) | (simp [B.aW]; done)), H', ⟨by have := sO.out; first | omega | exact Nat.le_refl _⟩, ⟨by (with_reducible repeat (first | apply Kd.eU | apply Kd.fF | apply Kd.fP)); exact qh.out⟩, ⟨by repeat (first | (with_reducible first | exact HB.out | apply ak | apply ah | apply au) | exact HB.out)⟩⟩
        case rest =>
          clear HC3
          try clear c1
          try clear c2
          try clear vE
          try clear Ik
          try clear p2
          try clear c4
          try clear qj
          try clear Il
          try clear K6
          try clear p2
          obtain ⟨kq, Gd, rfl, HA, HJ2, qh, HB⟩ := hcut
          cases kq with
          | zero => exact absurd HA.out (by simp [bN.j1])
          | succ kj2 =>
            have H := HA.out
            clear HA
            simp only [bN.j1] at H
            by_cases c5 : Gd = true
            · subst c5
              have H1 : (if 0 < (bM.size : Int) then (if (wrap64 (bt bM 0)) < 1 then (some (([] : List ByteArray), false)) else (if (wrap64 (bt bM 0)) > 63 then (some (([] : List ByteArray), false)) else (if (wrap64 ((wrap64 (bt bM 0)) + 1)) ≥ (bM.size : Int) then (some (([] : List ByteArray), false)) else (if 1 ≤ (wrap64 (1 + (wrap64 (bt bM 0)))) then (if (wrap64 (1 + (wrap64 (bt bM 0)))) ≤ (bM.size : Int) then (if qg.length < 8796093022208 then (if 0 ≤ (wrap64 (1 + (wrap64 (bt bM 0)))) then (bN.l0 kj2 (bM.extract ((wrap64 (1 + (wrap64 (bt bM 0)))) : Int).toNat bM.size) (qg ++ [bM.extract 1 ((wrap64 (1 + (wrap64 (bt bM 0)))) : Int).toNat])) else (none)) else (none)) else (none)) else (none))))) else (none)) = some (r1, r2) := by rw [if_pos rfl] at H; exact H
              clear H
              have H := H1
              clear H1
              by_cases c6 : 0 < (bM.size : Int)
              · rw [if_pos c6] at H
                have yU : decide (0 < (bM.size : Int)) = true := decide_eq_true c6
                have K7 : decide (0 < bM.size) = true := decide_eq_true (by omega)
                clear c6
                by_cases c8 : (wrap64 (bt bM 0)) < 1
                · rw [if_pos c8] at H
                  have qR : decide ((wrap64 (bt bM 0)) < 1) = true := decide_eq_true c8
                  (try (have qU : decide (((bt bM 0)) < 1) = true := by have h_ : decide ((wrap64 (bt bM 0)) < 1) = true := decide_eq_true c8; rw [B.dO (by omega) (by omega)] at h_; exact h_))
                  clear c8
                  simp only [Option.some.injEq, Prod.mk.injEq] at H
                  obtain ⟨rfl, rfl⟩ := H
                  have p7 : 0 ≤ (0 : Int) := (by omega)
                  have q7 : 0 < bM.size := (by have : (0 : Int) < (bM.size : Int) := of_decide_eq_true (by first | (with_reducible assumption) | assumption); omega)
                  have hx7 : ∀ h : 0 < bM.size, ((bM[0]'h).toNat : Int) = bt bM 0 := ny bM 0
                  clear p7
                  have qi7 : (0 < (bM.size : Int)) = True := eq_true (of_decide_eq_true (by first | (with_reducible assumption) | assumption))
                  replace q7 := eq_true q7
                  go_wp2
                  go_ret2
                  exact ⟨_, by first | rfl | (simp [aJ, aK] <;> rfl) | (simp [*, aJ, aK] <;> rfl), by first | exact Kd.jy _ _ _ _ _ | exact Kd.kQ _ _ _ _ _ | exact Kd.kR _ _ _ _ _ | exact Kd.kN _ _ _ _ _ | exact Kd.kP _ _ _ _ _, by repeat (first | (with_reducible first | exact HB.out | apply ak | apply ah | apply au) | exact HB.out)⟩
                · rw [if_neg c8] at H
                  have qR : decide ((wrap64 (bt bM 0)) < 1) = false := decide_eq_false c8
                  (try (have qU : decide (((bt bM 0)) < 1) = false := by have h_ : decide ((wrap64 (bt bM 0)) < 1) = false := decide_eq_false c8; rw [B.dO (by omega) (by omega)] at h_; exact h_))
                  clear c8
                  by_cases c9 : (wrap64 (bt bM 0)) > 63
                  · rw [if_pos c9] at H
                    have sP : decide (63 < (wrap64 (bt bM 0))) = true := decide_eq_true c9
                    (try (have Dt : decide (63 < ((bt bM 0))) = true := by have h_ : decide (63 < (wrap64 (bt bM 0))) = true := decide_eq_true c9; rw [B.dO (by omega) (by omega)] at h_; exact h_))
                    clear c9
                    simp only [Option.some.injEq, Prod.mk.injEq] at H
                    obtain ⟨rfl, rfl⟩ := H
                    have p7 : 0 ≤ (0 : Int) := (by omega)
                    have q7 : 0 < bM.size := (by have : (0 : Int) < (bM.size : Int) := of_decide_eq_true (by first | (with_reducible assumption) | assumption); omega)
                    have hx7 : ∀ h : 0 < bM.size, ((bM[0]'h).toNat : Int) = bt bM 0 := ny bM 0
                    clear p7
                    have qi7 : (0 < (bM.size : Int)) = True := eq_true (of_decide_eq_true (by first | (with_reducible assumption) | assumption))
                    replace q7 := eq_true q7
                    go_wp2
                    go_ret2
                    exact ⟨_, by first | rfl | (simp [aJ, aK] <;> rfl) | (simp [*, aJ, aK] <;> rfl), by first | exact Kd.jy _ _ _ _ _ | exact Kd.kQ _ _ _ _ _ | exact Kd.kR _ _ _ _ _ | exact Kd.kN _ _ _ _ _ | exact Kd.kP _ _ _ _ _, by repeat (first | (with_reducible first | exact HB.out | apply ak | apply ah | apply au) | exact HB.out)⟩
                  · rw [if_neg c9] at H
                    have sP : decide (63 < (wrap64 (bt bM 0))) = false := decide_eq_false c9
                    (try (have Dt : decide (63 < ((bt bM 0))) = false := by have h_ : decide (63 < (wrap64 (bt bM 0))) = false := decide_eq_false c9; rw [B.dO (by omega) (by omega)] at h_; exact h_))
                    clear c9
                    by_cases c10 : (wrap64 ((wrap64 (bt bM 0)) + 1)) ≥ (bM.size : Int)
                    · rw [if_pos c10] at H
                      have qE : decide ((bM.size : Int) ≤ (wrap64 ((wrap64 (bt bM 0)) + 1))) = true := decide_eq_true c10
                      (try (have zL : decide ((bM.size : Int) ≤ ((((bt bM 0)) + 1))) = true := by have h_ : decide ((bM.size : Int) ≤ (wrap64 ((wrap64 (bt bM 0)) + 1))) = true := decide_eq_true c10; rw [B.dO (by omega) (by omega)] at h_; rw [B.dO (by omega) (by omega)] at h_; exact h_))
                      clear c10
                      simp only [Option.some.injEq, Prod.mk.injEq] at H
                      obtain ⟨rfl, rfl⟩ := H
                      have p7 : 0 ≤ (0 : Int) := (by omega)
                      have q7 : 0 < bM.size := (by have : (0 : Int) < (bM.size : Int) := of_decide_eq_true (by first | (with_reducible assumption) | assumption); omega)
                      have hx7 : ∀ h : 0 < bM.size, ((bM[0]'h).toNat : Int) = bt bM 0 := ny bM 0
                      clear p7
                      have qi7 : (0 < (bM.size : Int)) = True := eq_true (of_decide_eq_true (by first | (with_reducible assumption) | assumption))
                      replace q7 := eq_true q7
                      go_wp2
                      go_ret2
                      exact ⟨_, by first | rfl | (simp [aJ, aK] <;> rfl) | (simp [*, aJ, aK] <;> rfl), by first | exact Kd.jy _ _ _ _ _ | exact Kd.kQ _ _ _ _ _ | exact Kd.kR _ _ _ _ _ | exact Kd.kN _ _ _ _ _ | exact Kd.kP _ _ _ _ _, by repeat (first | (with_reducible first | exact HB.out | apply ak | apply ah | apply au) | exact HB.out)⟩
                    · rw [if_neg c10] at H
                      have qE : decide ((bM.size : Int) ≤ (wrap64 ((wrap64 (bt bM 0)) + 1))) = false := decide_eq_false c10
                      (try (have zL : decide ((bM.size : Int) ≤ ((((bt bM 0)) + 1))) = false := by have h_ : decide ((bM.size : Int) ≤ (wrap64 ((wrap64 (bt bM 0)) + 1))) = false := decide_eq_false c10; rw [B.dO (by omega) (by omega)] at h_; rw [B.dO (by omega) (by omega)] at h_; exact h_))
                      clear c10
                      by_cases c11 : 1 ≤ (wrap64 (1 + (wrap64 (bt bM 0))))
                      · rw [if_pos c11] at H
                        have K8 := eq_true c11
                        have XL : decide (1 ≤ (wrap64 (1 + (wrap64 (bt bM 0))))) = true := decide_eq_true c11
                        by_cases c12 : (wrap64 (1 + (wrap64 (bt bM 0)))) ≤ (bM.size : Int)
                        · rw [if_pos c12] at H
                          have sQ := eq_true c12
                          have sS : decide ((wrap64 (1 + (wrap64 (bt bM 0)))) ≤ (bM.size : Int)) = true := decide_eq_true c12
                          by_cases c13 : qg.length < 8796093022208
                          · rw [if_pos c13] at H
                            have XM := aj.mk c13
                            clear c13
                            obtain ⟨y101, hy101⟩ : ∃ y_ : List ByteArray, y_ = (qg ++ [bM.extract 1 ((wrap64 (1 + (wrap64 (bt bM 0)))) : Int).toNat]) := ⟨_, rfl⟩
                            replace H : (if 0 ≤ (wrap64 (1 + (wrap64 (bt bM 0)))) then (bN.l0 kj2 (bM.extract ((wrap64 (1 + (wrap64 (bt bM 0)))) : Int).toNat bM.size) y101) else (none)) = some (r1, r2) := by first | (rw [hy101]; with_reducible exact H) | (have ER := (Option.bind_some _ _).symm.trans H; rw [hy101]; with_reducible exact ER) | (have ER := (Option.bind_some _ _).symm.trans H; with_reducible exact ER) | with_reducible exact H | (rw [hy101]; exact H) | exact H
                            have QA := aj.mk hy101
                            clear hy101
                            obtain ⟨Bd, oL⟩ : ∃ j_ : Int, (wrap64 (1 + (wrap64 (bt bM 0)))) = j_ := ⟨_, rfl⟩
                            replace H : (if 0 ≤ (Bd) then (bN.l0 kj2 (bM.extract ((Bd) : Int).toNat bM.size) y101) else (none)) = some (r1, r2) := by first | (rw [oL] at H; exact H) | (simp only [oL] at H ⊢; exact H)
                            (try rw [oL] at K8)
                            (try rw [oL] at XL)
                            (try rw [oL] at c11)
                            (try rw [oL] at sQ)
                            (try rw [oL] at sS)
                            (try rw [oL] at c12)
                            (try rw [oL] at QA)
                            have adw : (IntKind.i64.wrap (1 + (wrap64 (bt bM 0)))) = Bd := (gN _).trans oL
                            by_cases c15 : 0 ≤ (Bd)
                            · rw [if_pos c15] at H
                              have XO := eq_true c15
                              have aeR : decide (0 ≤ (Bd)) = true := decide_eq_true c15
                              clear c15
                              have Gf := eq_true (of_decide_eq_true (by first | (with_reducible assumption) | assumption) : (Bd) ≤ (bM.size : Int))
                              have H' := aj.mk H
                              clear H
                              have p7 : 0 ≤ (0 : Int) := (by omega)
                              have q7 : 0 < bM.size := (by have : (0 : Int) < (bM.size : Int) := of_decide_eq_true (by first | (with_reducible assumption) | assumption); omega)
                              have hx7 : ∀ h : 0 < bM.size, ((bM[0]'h).toNat : Int) = bt bM 0 := ny bM 0
                              clear p7
                              have qi7 : (0 < (bM.size : Int)) = True := eq_true (of_decide_eq_true (by first | (with_reducible assumption) | assumption))
                              replace q7 := eq_true q7
                              try go_wp2
                              have dY := aj.mk (Kd.fP qh.out)
                              have gW := aj.mk (au HB.out)
                              clear qh
                              clear HB
                              have qh := dY
                              have HB := gW
                              clear dY gW
                              refine KT (n := 13) (S := fun w' => True) (ds := []) #[false, false, false, false, false, false, false, false, false, false, false, false, false] (by kernel_rfl) rfl rfl trivial (fun hHeld => ?_); refine zK bN.adv bN.XK (fun vF HW_ => ?_)
                              generalize wc.drew = w17 at qh HB hHeld ⊢
                              refine lq (i := 0) (N := some 32) (v := ?_) (a' := ?_) #[true, false, false, false, false, false, false, false, false, false, false, false, false] rfl rfl (jD vF.out (by kernel_rfl)) (fun _ _ _ h => h) (Or.inl ⟨by rfl, ?_⟩) ?_ ?_
                              rotate_left
                              · intro w'
                                go_simp
                                with_reducible rfl
                              rotate_left
                              · simp only [Act.put, List.setIfInBounds_toArray, List.set_cons_zero, List.set_cons_succ, gN, ig]
                                rfl
                              refine lq (i := 1) (N := some 33) (v := ?_) (a' := ?_) #[true, true, false, false, false, false, false, false, false, false, false, false, false] rfl rfl (jD vF.out (by kernel_rfl)) (fun _ _ _ h => h) (Or.inl ⟨by rfl, ?_⟩) ?_ ?_
                              rotate_left
                              · intro w'
                                go_simp
                                with_reducible rfl
                              rotate_left
                              · simp only [Act.put, List.setIfInBounds_toArray, List.set_cons_zero, List.set_cons_succ, gN, ig]
                                rfl
                              refine lq (i := 2) (N := some 34) (v := ?_) (a' := ?_) #[true, true, true, false, false, false, false, false, false, false, false, false, false] rfl rfl (jD vF.out (by kernel_rfl)) (fun _ _ _ h => h) (Or.inl ⟨by rfl, ?_⟩) ?_ ?_
                              rotate_left
                              · intro w'
                                go_simp
                                with_reducible rfl
                              rotate_left
                              · simp only [Act.put, List.setIfInBounds_toArray, List.set_cons_zero, List.set_cons_succ, gN, ig]
                                rfl
                              refine lq (i := 3) (N := some 35) (v := ?_) (a' := ?_) #[true, true, true, true, false, false, false, false, false, false, false, false, false] rfl rfl (jD vF.out (by kernel_rfl)) (fun _ _ _ h => h) (Or.inl ⟨by rfl, ?_⟩) ?_ ?_
                              rotate_left
                              · intro w'
                                go_simp
                                with_reducible rfl
                              rotate_left
                              · simp only [Act.put, List.setIfInBounds_toArray, List.set_cons_zero, List.set_cons_succ, gN, ig]
                                rfl
                              refine lq (i := 4) (N := some 36) (v := ?_) (a' := ?_) #[true, true, true, true, true, false, false, false, false, false, false, false, false] rfl rfl (jD vF.out (by kernel_rfl)) (fun _ _ _ h => h) (Or.inl ⟨by rfl, ?_⟩) ?_ ?_
                              rotate_left
                              · intro w'
                                go_simp
                                with_reducible rfl
                              rotate_left
                              · simp only [Act.put, List.setIfInBounds_toArray, List.set_cons_zero, List.set_cons_succ, gN, ig]
                                rfl
                              refine lq (i := 7) (N := some 39) (v := ?_) (a' := ?_) #[true, true, true, true, true, false, false, true, false, false, false, false, false] rfl rfl (jD vF.out (by kernel_rfl)) (fun _ _ _ h => h) (Or.inl ⟨by rfl, ?_⟩) ?_ ?_
                              rotate_left
                              · intro w'
                                go_simp
                                with_reducible rfl
                              rotate_left
                              · simp only [Act.put, List.setIfInBounds_toArray, List.set_cons_zero, List.set_cons_succ, gN, ig]
                                rfl
                              refine lq (i := 8) (N := some 40) (v := ?_) (a' := ?_) #[true, true, true, true, true, false, false, true, true, false, false, false, false] rfl rfl (jD vF.out (by kernel_rfl)) (fun _ _ _ h => h) (Or.inl ⟨by rfl, ?_⟩) ?_ ?_
                              rotate_left
                              · intro w'
                                go_simp
                                with_reducible rfl
                              rotate_left
                              · simp only [Act.put, List.setIfInBounds_toArray, List.set_cons_zero, List.set_cons_succ, gN, ig]
                                rfl
                              refine lq (i := 9) (N := some 41) (v := ?_) (a' := ?_) #[true, true, true, true, true, false, false, true, true, true, false, false, false] rfl rfl (jD vF.out (by kernel_rfl)) (fun _ _ _ h => h) (Or.inl ⟨by rfl, ?_⟩) ?_ ?_
                              rotate_left
                              · intro w'
                                go_simp
                                with_reducible rfl
                              rotate_left
                              · simp only [Act.put, List.setIfInBounds_toArray, List.set_cons_zero, List.set_cons_succ, gN, ig]
                                rfl
                              refine lq (i := 10) (N := some 42) (v := ?_) (a' := ?_) #[true, true, true, true, true, false, false, true, true, true, true, false, false] rfl rfl (jD vF.out (by kernel_rfl)) (fun _ _ _ h => h) (Or.inl ⟨by rfl, ?_⟩) ?_ ?_
                              rotate_left
                              · intro w'
                                go_simp
                                with_reducible rfl
                              rotate_left
                              · simp only [Act.put, List.setIfInBounds_toArray, List.set_cons_zero, List.set_cons_succ, gN, ig]
                                rfl
                              refine Tv (i := 5) (N := some 37) #[true, true, true, true, true, true, false, true, true, true, true, false, false] rfl rfl (EP vF.out (by kernel_rfl)) (by decide) (fun K hK => ?_)
                              refine Tw (w1 := ?_) (v := ?_) (by rfl) rfl ?_ ?_
                              rotate_left 2
                              · go_simp
                                constructor
                                · rfl
                                · rfl
                              refine hK.out _ _ trivial (fun hHeld => ?_)
                              clear hK K
                              refine Qw (a' := ?_) ?_ ?_
                              rotate_left
                              · show Act.put _ (some 37) _ = _
                                simp only [Act.put, List.setIfInBounds_toArray, List.set_cons_zero, List.set_cons_succ, gN, ig]
                                rfl
                              refine Tv (i := 6) (N := some 38) #[true, true, true, true, true, true, true, true, true, true, true, false, false] rfl rfl (EP vF.out (by kernel_rfl)) (by decide) (fun K hK => ?_)
                              refine Kd.yQ Kd.string (w0 := w) w.heap.size (by rfl) (.tmp 32) (.tmp 37) 33 9 (.string ⟨#[]⟩) 16 rfl Try.underlying33 Gc rfl (by decide) (by omega) u4 qg (bM.extract 1 ((Bd) : Int).toNat) [.string (bM.extract 1 ((Bd) : Int).toNat)] (fun _ => True) (fun _ => False) rfl rfl ?aP (fun _ hk => hk.elim) ?aF ?aO ?aB ?aS ?aL ?_
                              (case aP => exact rfl)
                              (case aB => exact (by repeat (first | (with_reducible first | exact HB.out | apply ak | apply ah | apply au) | exact HB.out)))
                              (case aF => exact (fun _ _ => trivial))
                              (case aO => exact (by (with_reducible repeat (first | apply Kd.eU | apply Kd.fF | apply Kd.fP)); exact qh.out))
                              (case aS => exact (bL (by repeat (first | (with_reducible first | exact HB.out | apply ak | apply ah | apply au) | exact HB.out))))
                              (case aL => have := XM.out; omega)
                              intro af0 w18 ho hb hg hat
                              rw [← QA.out] at ho
                              have dY := aj.mk (hb)
                              have gW := aj.mk (ho)
                              clear HB
                              clear qh
                              have HB := dY
                              have XP := gW
                              clear dY gW
                              clear ho hb hg hat
                              refine hK.out _ _ trivial (fun hHeld => ?_)
                              clear hK K
                              refine Qw (a' := ?_) ?_ ?_
                              rotate_left
                              · show Act.put _ (some 38) _ = _
                                simp only [Act.put, List.setIfInBounds_toArray, List.set_cons_zero, List.set_cons_succ, gN, ig]
                                rfl
                              refine lq (i := 11) (N := some 4) (v := ?_) (a' := ?_) #[true, true, true, true, true, true, true, true, true, true, true, true, false] rfl rfl (jD vF.out (by kernel_rfl)) (fun _ _ _ h => h) (Or.inl ⟨by rfl, ?_⟩) ?_ ?_
                              rotate_left
                              · intro w'
                                go_simp
                                with_reducible rfl
                              rotate_left
                              · simp only [Act.put, List.setIfInBounds_toArray, List.set_cons_zero, List.set_cons_succ, gN, ig]
                                rfl
                              refine lq (i := 12) (N := some 0) (v := ?_) (a' := ?_) #[true, true, true, true, true, true, true, true, true, true, true, true, true] rfl rfl (jD vF.out (by kernel_rfl)) (fun _ _ _ h => h) (Or.inl ⟨by rfl, ?_⟩) ?_ ?_
                              rotate_left
                              · intro w'
                                go_simp
                                with_reducible rfl
                              rotate_left
                              · simp only [Act.put, List.setIfInBounds_toArray, List.set_cons_zero, List.set_cons_succ, gN, ig]
                                rfl
                              refine Qv (Ga vF.out (by kernel_rfl)) ?_
                              try go_wp2
                              go_roundg kj2
                              case measure => have := sO.out; have := HJ2.out; omega
                              case rel => exact ⟨(bM.extract ((Bd) : Int).toNat bM.size), (y101), (by first | rfl | (simp; done) | (simp only [← oL] <;> (first | rfl | simp)) | (simp [*]; done)), H', ⟨by have := sO.out; have := HJ2.out; omega⟩, ⟨by (with_reducible repeat (first | apply Kd.eU | apply Kd.fF | apply Kd.fP)); exact XP.out⟩, ⟨by repeat (first | (with_reducible first | exact HB.out | apply ak | apply ah | apply au) | exact HB.out)⟩⟩
                            · rw [if_neg c15] at H
                              exact absurd H (by simp)
                          · rw [if_neg c13] at H
                            exact absurd H (by simp)
                        · rw [if_neg c12] at H
                          exact absurd H (by simp)
                      · rw [if_neg c11] at H
                        exact absurd H (by simp)
              · rw [if_neg c6] at H
                exact absurd H (by simp)
            · replace c5 := Bool.eq_false_iff.mpr c5
              subst c5
              have H1 : (some (qg, (bM.toList == ([0] : List UInt8)))) = some (r1, r2) := by rw [if_neg (show ¬ (false = true) by decide)] at H; exact H
              clear H
              have H := H1
              clear H1
              simp only [Option.some.injEq, Prod.mk.injEq] at H
              obtain ⟨rfl, rfl⟩ := H
              go_wp2
              go_ret2
              exact ⟨_, by first | rfl | (simp [aJ, aK] <;> rfl) | (simp [*, aJ, aK] <;> rfl), by (with_reducible repeat (first | apply Kd.eU | apply Kd.fF | apply Kd.fP)); exact qh.out, by repeat (first | (with_reducible first | exact HB.out | apply ak | apply ah | apply au) | exact HB.out)⟩
def iK.f (k : Nat) (a0 : ByteArray) : Option (Bool) := (bN.f k a0).bind fun K9 => (some K9.2)
set_option maxHeartbeats 8000000 in
set_option maxRecDepth 100000 in
theorem iK.calls (k : Nat) (a0 : ByteArray) (r : Bool) (w : World) (h : iK.f k a0 = some r) :
    Calls Try.prog 91 #[.string a0] w fun e w' => e = .returned (.bool r) ∧ Below w.heap.size w w' := by
  have HB := aj.mk (Below.refl w.heap.size w)
  have H : ((bN.f k a0).bind fun K9 => (some K9.2)) = some r := h
  clear h
  replace H := zbm H
  obtain ⟨⟨adx, t105⟩, La, H⟩ := H
  replace H : (some t105) = some r := H
  have A2 := aj.mk La
  clear La
  obtain rfl := Option.some.inj H
  go_enter Try.func91, Try.ntmps91
  go_wp2_with (first | ((with_reducible refine aQ (f := 109) rfl ?_); refine bP (some 7) rfl rfl Try.func109 (by kernel_rfl) rfl #[.string a0] rfl (by (try simp only [List.map_toArray, List.map_cons, List.map_nil]); first | done | rfl | (simp only [List.length_drop, List.length_take]; rfl) | (simp only [ByteArray.size_append, Int.natCast_add]; rfl) | (rw [B.dO] <;> first | rfl | omega | (simp only [decide_eq_false_iff_not, decide_eq_true_eq, Int.not_lt, Nat.not_lt, gt_iff_lt] at * <;> omega))) ?_; (with_reducible refine (bN.calls k a0 adx t105 _ A2.out).mono ?_); rintro e w3 ⟨af2, rfl, ho0, hb⟩; refine ⟨_, rfl, ?_⟩; have dY := aj.mk (Kd.sG ho0 (bL (by repeat (first | (with_reducible first | exact HB.out | apply ak | apply ah | apply au) | exact HB.out)))); have gW := aj.mk (bE (by repeat (first | (with_reducible first | exact HB.out | apply ak | apply ah | apply au) | exact HB.out)) hb); clear HB; have aeS := dY; have HB := gW; clear dY gW; (try clear hb); (try clear hb2); (try clear hk); (try clear hi); (try clear ho0)))
  go_ret
  exact ⟨by first | rfl | (simp [aJ, aK] <;> rfl) | (simp [*, aJ, aK] <;> rfl), by repeat (first | (with_reducible first | exact HB.out | apply ak | apply ah | apply au) | exact HB.out)⟩
def lY.f (a0 : Int) : Option (Int) := if a0 ≥ 65 then (if a0 ≤ 90 then (some ((a0 + 32) % 256)) else (some a0)) else (some a0)
set_option maxHeartbeats 8000000 in
set_option maxRecDepth 100000 in
theorem lY.calls (a0 : Int) (r : Int) (w : World) (h : lY.f a0 = some r) :
    Calls Try.prog 119 #[.int .u8 a0] w fun e w' => e = .returned (.int .u8 r) ∧ aY w w' := by
  have H : (if a0 ≥ 65 then (if a0 ≤ 90 then (some ((a0 + 32) % 256)) else (some a0)) else (some a0)) = some r := h
  clear h
  by_cases c2 : a0 ≥ 65
  · rw [if_pos c2] at H
    have vE : decide (65 ≤ a0) = true := decide_eq_true c2
    clear c2
    by_cases c3 : a0 ≤ 90
    · rw [if_pos c3] at H
      have ql : decide (a0 ≤ 90) = true := decide_eq_true c3
      clear c3
      obtain rfl := Option.some.inj H
      go_enter Try.func119, Try.ntmps119
      go_wp2
      go_ret
      exact ⟨by first | rfl | (simp; done) | (simp [*]; done), by repeat (first | exact aY.refl _ | apply aY.step)⟩
    · rw [if_neg c3] at H
      have ql : decide (a0 ≤ 90) = false := decide_eq_false c3
      clear c3
      obtain rfl := Option.some.inj H
      go_enter Try.func119, Try.ntmps119
      go_wp2
      go_ret
      exact ⟨by first | rfl | (simp; done) | (simp [*]; done), by repeat (first | exact aY.refl _ | apply aY.step)⟩
  · rw [if_neg c2] at H
    have vE : decide (65 ≤ a0) = false := decide_eq_false c2
    clear c2
    obtain rfl := Option.some.inj H
    go_enter Try.func119, Try.ntmps119
    go_wp2
    go_ret
    exact ⟨by first | rfl | (simp; done) | (simp [*]; done), by repeat (first | exact aY.refl _ | apply aY.step)⟩
def iR.f (a0 : ByteArray) : Option ByteArray := if a0.size ≤ 140737488355328 then some (B.nW a0) else none
theorem iR.small (c : Int) (h0 : 0 ≤ c) (h1 : c ≤ 255) : lY.f c = some (B.iJ c) := by
  unfold lY.f B.iJ
  by_cases h2 : 65 ≤ c
  · by_cases h3 : c ≤ 90
    · rw [if_pos (by omega), if_pos h3, if_pos ⟨h2, h3⟩]; congr 1; omega
    · rw [if_pos (by omega), if_neg h3, if_neg (by omega)]
  · rw [if_neg (by omega), if_neg (by omega)]
set_option maxHeartbeats 8000000 in
set_option maxRecDepth 100000 in
theorem iR.calls (a0 : ByteArray) (r : ByteArray) (w : World) (h : iR.f a0 = some r) :
    Calls Try.prog 110 #[.string a0] w fun e w' => e = .returned (.string r) ∧ Below w.heap.size w w' := by
  unfold iR.f at h
  by_cases hs : a0.size ≤ 140737488355328
  · rw [if_pos hs] at h
    obtain rfl := Option.some.inj h
    clear h
    have kc := fun (W : World) => Lib.run_convert_string_bytes (P := Try.prog) W 9 119 5 a0 Try.underlying9 Try.underlying119 Try.underlying5
    have hb0 := aj.mk (B.xK (Below.refl w.heap.size w) (Nat.le_refl _) 5 a0)
    have hr0 := aj.mk (B.xJ w 5 a0)
    go_enter Try.func110, Try.ntmps110
    go_wp2
    generalize Lib.bytesWorld w 5 a0 = w1 at hb0 hr0 ⊢
    generalize grownCap w a0.size 0 5 = C
    have hz := aj.mk (B.numsOf_length a0)
    have hg := aj.mk (Nat.le_refl w.heap.size)
    generalize hgg : w.heap.size = g at hb0 hr0 hg ⊢
    have hg' := aj.mk hgg
    clear hgg
    go_loopw [10] (fun v wr => ∃ k : Nat, k ≤ a0.size ∧ v = .int .i64 k ∧ aj (B.uV wr g (B.iQ k (B.numsOf a0))) ∧ aj (Below g w wr)) (fun v _ => a0.size - (intOf v).toNat)
    case atStart => exact ⟨0, Nat.zero_le _, rfl, ⟨by rw [B.xI]; exact hr0.out⟩, hb0⟩
    case round =>
      obtain ⟨k, hk, rfl, hrow, hbel⟩ := hrel
      clear hr0 hb0 kc
      by_cases hlt : k < a0.size
      · have hkl : k < (B.numsOf a0).length := by rw [hz.out]; exact hlt
        have hc := (hrow.out k (by rw [B.gK]; exact hkl))
        rw [B.Dl k _ hkl, B.numsOf_at] at hc
        obtain ⟨hc1, hc2⟩ := hc
        have hrange := B.zH a0 k
        have hsm := aj.mk (iR.small (bt a0 k) hrange.1 hrange.2)
        have hset := aj.mk (B.rowAt_set hrow.out k (B.iJ (bt a0 k)) (by rw [B.gK]; exact hkl))
        have hset' := aj.mk (show B.uV (wr.setCell ⟨g, k, none⟩ (.int .u8 (B.iJ (bt a0 k)))) g (B.iQ (k + 1) (B.numsOf a0)) by
          have h1 := hset.out
          rw [← B.numsOf_at, B.uw k _ hkl] at h1
          rw [← B.numsOf_at]
          exact h1)
        have kT := aj.mk (hbel.out.setCell (p := ⟨g, k, none⟩) (Nat.le_refl _) (.int .u8 (B.iJ (bt a0 k))))
        clear hset hrow hbel hkl
        generalize bt a0 k = c at *
        go_wp2_with (go_at_call 119; (with_reducible refine (lY.calls c _ _ hsm.out).mono ?_); rintro e w' ⟨rfl, ⟨nd, rfl⟩⟩)
        go_roundw
        case rel => exact ⟨k + 1, by omega, by go_num, ⟨fun j hj => hset'.out j hj⟩, ⟨by first | exact kT.out | exact ⟨kT.out.os, kT.out.tape, kT.out.output, kT.out.size, kT.out.block⟩⟩⟩
        case measure => simp [intOf]; omega
      · obtain rfl : k = a0.size := by omega
        have hl : (B.iQ a0.size (B.numsOf a0)).length = a0.size := by rw [B.gK]; exact hz.out
        have kd := fun (dst : TypeId) (hd : Try.prog.underlying dst = some .string) => run_convert_bytes_arg (P := Try.prog) wr 119 5 Try.underlying119 Try.underlying5 g 0 a0.size C (B.iQ a0.size (B.numsOf a0)) hl (fun i hi => by rw [Nat.zero_add]; exact (hrow.out i (by rw [hl]; exact hi)).1) dst hd
        replace kd := kd 9 Try.underlying9
        have he := aj.mk (show strOfNums (B.iQ a0.size (B.numsOf a0)) = B.nW a0 by
          have := B.zG (B.numsOf a0)
          rw [hz.out] at this
          rw [this]; rfl)
        generalize strOfNums (B.iQ a0.size (B.numsOf a0)) = q at kd he
        clear hrow hl hlt
        have he' := he.out
        clear he
        subst he'
        go_wp2
        go_ret
        exact ⟨rfl, by rw [hg'.out]; exact hbel.out⟩
  · rw [if_neg hs] at h
    exact absurd h (by simp)
def lZ.f (k : Nat) (a0 : ByteArray) : Option (ByteArray) := (iK.f k a0).bind fun Im => (if Im = true then ((iR.f a0).bind fun t109 => (some t109)) else (some (⟨#[]⟩ : ByteArray)))
set_option maxHeartbeats 8000000 in
set_option maxRecDepth 100000 in
theorem lZ.calls (k : Nat) (a0 : ByteArray) (r : ByteArray) (w : World) (h : lZ.f k a0 = some r) :
    Calls Try.prog 92 #[.string a0] w fun e w' => e = .returned (.string r) ∧ Below w.heap.size w w' := by
  have HB := aj.mk (Below.refl w.heap.size w)
  have H : ((iK.f k a0).bind fun Im => (if Im = true then ((iR.f a0).bind fun t109 => (some t109)) else (some (⟨#[]⟩ : ByteArray)))) = some r := h
  clear h
  replace H := zbm H
  obtain ⟨Im, La, H⟩ := H
  replace H : (if Im = true then ((iR.f a0).bind fun t109 => (some t109)) else (some (⟨#[]⟩ : ByteArray))) = some r := H
  have A2 := aj.mk La
  clear La
  by_cases c3 : Im = true
  · subst c3
    have H1 : ((iR.f a0).bind fun t109 => (some t109)) = some r := by rw [if_pos rfl] at H; exact H
    clear H
    have H := H1
    clear H1
    replace H := zbm H
    obtain ⟨t109, Du, H⟩ := H
    replace H : (some t109) = some r := H
    have A4 := aj.mk Du
    clear Du
    obtain rfl := Option.some.inj H
    go_enter Try.func92, Try.ntmps92
    go_wp2_with (first | ((with_reducible refine aQ (f := 91) rfl ?_); refine bP (some 4) rfl rfl Try.func91 (by kernel_rfl) rfl #[.string a0] rfl (by (try simp only [List.map_toArray, List.map_cons, List.map_nil]); first | done | rfl | (simp only [List.length_drop, List.length_take]; rfl) | (simp only [ByteArray.size_append, Int.natCast_add]; rfl) | (rw [B.dO] <;> first | rfl | omega | (simp only [decide_eq_false_iff_not, decide_eq_true_eq, Int.not_lt, Nat.not_lt, gt_iff_lt] at * <;> omega))) ?_; (with_reducible refine (iK.calls k a0 true _ A2.out).mono ?_); rintro e w5 ⟨rfl, hb⟩; refine ⟨_, rfl, ?_⟩; have dY := aj.mk (bE (by repeat (first | (with_reducible first | exact HB.out | apply ak | apply ah | apply au) | exact HB.out)) hb); clear HB; have HB := dY; clear dY; (try clear hb); (try clear hb2); (try clear hk); (try clear hi)) | ((with_reducible refine aQ (f := 110) rfl ?_); refine bP (some 7) rfl rfl Try.func110 (by kernel_rfl) rfl #[.string a0] rfl (by (try simp only [List.map_toArray, List.map_cons, List.map_nil]); first | done | rfl | (simp only [List.length_drop, List.length_take]; rfl) | (simp only [ByteArray.size_append, Int.natCast_add]; rfl) | (rw [B.dO] <;> first | rfl | omega | (simp only [decide_eq_false_iff_not, decide_eq_true_eq, Int.not_lt, Nat.not_lt, gt_iff_lt] at * <;> omega))) ?_; (with_reducible refine (iR.calls a0 t109 _ A4.out).mono ?_); rintro e w6 ⟨rfl, hb⟩; refine ⟨_, rfl, ?_⟩; have dY := aj.mk (bE (by repeat (first | (with_reducible first | exact HB.out | apply ak | apply ah | apply au) | exact HB.out)) hb); clear HB; have HB := dY; clear dY; (try clear hb); (try clear hb2); (try clear hk); (try clear hi)))
    go_ret
    exact ⟨by first | rfl | (simp [aJ, aK] <;> rfl) | (simp [*, aJ, aK] <;> rfl), by repeat (first | (with_reducible first | exact HB.out | apply ak | apply ah | apply au) | exact HB.out)⟩
  · replace c3 := Bool.eq_false_iff.mpr c3
    subst c3
    have H1 : (some (⟨#[]⟩ : ByteArray)) = some r := by rw [if_neg (show ¬ (false = true) by decide)] at H; exact H
    clear H
    have H := H1
    clear H1
    obtain rfl := Option.some.inj H
    go_enter Try.func92, Try.ntmps92
    go_wp2_with (first | ((with_reducible refine aQ (f := 91) rfl ?_); refine bP (some 4) rfl rfl Try.func91 (by kernel_rfl) rfl #[.string a0] rfl (by (try simp only [List.map_toArray, List.map_cons, List.map_nil]); first | done | rfl | (simp only [List.length_drop, List.length_take]; rfl) | (simp only [ByteArray.size_append, Int.natCast_add]; rfl) | (rw [B.dO] <;> first | rfl | omega | (simp only [decide_eq_false_iff_not, decide_eq_true_eq, Int.not_lt, Nat.not_lt, gt_iff_lt] at * <;> omega))) ?_; (with_reducible refine (iK.calls k a0 false _ A2.out).mono ?_); rintro e w7 ⟨rfl, hb⟩; refine ⟨_, rfl, ?_⟩; have dY := aj.mk (bE (by repeat (first | (with_reducible first | exact HB.out | apply ak | apply ah | apply au) | exact HB.out)) hb); clear HB; have HB := dY; clear dY; (try clear hb); (try clear hb2); (try clear hk); (try clear hi)))
    go_ret
    exact ⟨by first | rfl | (simp [aJ, aK] <;> rfl) | (simp [*, aJ, aK] <;> rfl), by repeat (first | (with_reducible first | exact HB.out | apply ak | apply ah | apply au) | exact HB.out)⟩
end Go.Proofs.Ytdkkgecdhapfhaa.ZQ
namespace Go.Proofs.Ytdkkgecdhapfhaa.ZQ
open Go.RowKit Go.Proofs.YtdkkgecdhapfhaaW.bD Go.Proofs.YtdkkgecdhapfhaaW.dV Go.Proofs.YtdkkgecdhapfhaaW.eF
attribute [local go_sem] jh ji jZ j3 iC iD jk jl
mutual
def aN.j0 : Nat → ByteArray → List ByteArray → Bool → Option (List ByteArray × Bool)
  | 0, _, _, _ => none
  | k + 1, x0, x4, NW => if NW = true then (some (([] : List ByteArray), false)) else (aN.l0 k x0 x4 0)
def aN.l0 : Nat → ByteArray → List ByteArray → Int → Option (List ByteArray × Bool)
  | 0, _, _, _ => none
  | k + 1, x0, x4, x5 => if x5 < (x0.size : Int) then (if 0 ≤ x5 then (if (wrap64 (bt x0 x5)) = 0 then (some (x4, (x5 == (wrap64 ((x0.size : Int) - 1))))) else (if (wrap64 (bt x0 x5)) > 63 then (some (([] : List ByteArray), false)) else (if (wrap64 (bt x0 x5)) ≥ (wrap64 ((x0.size : Int) - x5)) then (some (([] : List ByteArray), false)) else (if 0 ≤ (wrap64 (x5 + 1)) then (if (wrap64 (x5 + 1)) ≤ (wrap64 ((wrap64 (x5 + 1)) + (wrap64 (bt x0 x5)))) then (if (wrap64 ((wrap64 (x5 + 1)) + (wrap64 (bt x0 x5)))) ≤ (x0.size : Int) then (if x4.length < 8796093022208 then (aN.l0 k x0 (x4 ++ [x0.extract ((wrap64 (x5 + 1)) : Int).toNat ((wrap64 ((wrap64 (x5 + 1)) + (wrap64 (bt x0 x5)))) : Int).toNat]) (wrap64 ((wrap64 (x5 + 1)) + (wrap64 (bt x0 x5))))) else (none)) else (none)) else (none)) else (none))))) else (none)) else (some (([] : List ByteArray), false))
end
def aN.f (k : Nat) (a0 : ByteArray) : Option (List ByteArray × Bool) := if (a0.size : Int) < 1 then (aN.j0 k a0 ([] : List ByteArray) true) else (aN.j0 k a0 ([] : List ByteArray) (decide ((a0.size : Int) > 255)))
set_option maxHeartbeats 8000000 in
set_option maxRecDepth 100000 in
theorem aN.calls (k : Nat) (a0 : ByteArray) (r1 : List ByteArray) (r2 : Bool) (w : World) (h : aN.f k a0 = some (r1, r2)) :
    Calls Try.prog 115 #[.string a0] w fun e w' => ∃ Qz : Value, e = .returned (.tuple #[Qz, .bool r2]) ∧ Kd.R Kd.string 9 w' w.heap.size (fun _ => True) Qz r1 ∧ Below w.heap.size w w' := by
  have HB := aj.mk (Below.refl w.heap.size w)
  have H : (if (a0.size : Int) < 1 then (aN.j0 k a0 ([] : List ByteArray) true) else (aN.j0 k a0 ([] : List ByteArray) (decide ((a0.size : Int) > 255)))) = some (r1, r2) := h
  clear h
  have TA := aj.mk H
  clear H
  go_enter Try.func115, Try.ntmps115
  go_upto_region 2 with (fail)
  go_cut [14] (fun v14 wc => ∃ (kq : Nat) (bQ : Bool), v14 = .bool bQ ∧ aj (aN.j0 kq a0 ([] : List ByteArray) bQ = some (r1, r2)) ∧ aj (kq ≤ k) ∧ aj (Kd.R Kd.string 9 wc w.heap.size (fun _ => True) (.slice none 0 0) ([] : List ByteArray)) ∧ aj (Below w.heap.size w wc))
  case first =>
    have H := TA.out
    clear TA
    by_cases c3 : (a0.size : Int) < 1
    · rw [if_pos c3] at H
      have ql : decide ((a0.size : Int) < 1) = true := decide_eq_true c3
      have Bf : decide (a0.size < 1) = true := decide_eq_true (by omega)
      clear c3
      (first | rw [ql] | rw [Lb] | (simp only [gN, ig]; rw [ql]) | skip)
      have H' := aj.mk H
      clear H
      go_wp2
      go_meet
      case rel => exact ⟨_, (true), (by first | rfl | (simp; done) | (simp [*]; done) | (simp [B.aV]; done) | (simp [B.aW]; done)), H', ⟨by first | omega | exact Nat.le_refl _⟩, ⟨by first | exact Kd.jy _ _ _ _ _ | exact Kd.kQ _ _ _ _ _ | exact Kd.kR _ _ _ _ _ | exact Kd.kN _ _ _ _ _ | exact Kd.kP _ _ _ _ _⟩, ⟨by repeat (first | (with_reducible first | exact HB.out | apply ak | apply ah | apply au) | exact HB.out)⟩⟩
    · rw [if_neg c3] at H
      have ql : decide ((a0.size : Int) < 1) = false := decide_eq_false c3
      have Bf : decide (a0.size < 1) = false := decide_eq_false (by omega)
      clear c3
      (first | rw [ql] | rw [Lb] | (simp only [gN, ig]; rw [ql]) | skip)
      have H' := aj.mk H
      clear H
      go_wp2
      go_meet
      case rel => exact ⟨_, (decide ((a0.size : Int) > 255)), (by first | rfl | (simp; done) | (simp [*]; done) | (simp [B.aV]; done) | (simp [B.aW]; done)), H', ⟨by first | omega | exact Nat.le_refl _⟩, ⟨by first | exact Kd.jy _ _ _ _ _ | exact Kd.kQ _ _ _ _ _ | exact Kd.kR _ _ _ _ _ | exact Kd.kN _ _ _ _ _ | exact Kd.kP _ _ _ _ _⟩, ⟨by repeat (first | (with_reducible first | exact HB.out | apply ak | apply ah | apply au) | exact HB.out)⟩⟩
  case rest =>
    clear TA
    try clear c1
    try clear p2
    try clear c3
    try clear ql
    try clear Bf
    try clear Lb
    obtain ⟨kq, bQ, rfl, HA, HJ1, qh, HB⟩ := hcut
    cases kq with
    | zero => exact absurd HA.out (by simp [aN.j0])
    | succ kj1 =>
      have H := HA.out
      clear HA
      simp only [aN.j0] at H
      by_cases c4 : bQ = true
      · subst c4
        have H1 : (some (([] : List ByteArray), false)) = some (r1, r2) := by rw [if_pos rfl] at H; exact H
        clear H
        have H := H1
        clear H1
        simp only [Option.some.injEq, Prod.mk.injEq] at H
        obtain ⟨rfl, rfl⟩ := H
        go_wp2
        go_ret2
        exact ⟨_, by first | rfl | (simp [aJ, aK] <;> rfl) | (simp [*, aJ, aK] <;> rfl), by first | exact Kd.jy _ _ _ _ _ | exact Kd.kQ _ _ _ _ _ | exact Kd.kR _ _ _ _ _ | exact Kd.kN _ _ _ _ _ | exact Kd.kP _ _ _ _ _, by repeat (first | (with_reducible first | exact HB.out | apply ak | apply ah | apply au) | exact HB.out)⟩
      · replace c4 := Bool.eq_false_iff.mpr c4
        subst c4
        have H1 : (aN.l0 kj1 a0 ([] : List ByteArray) 0) = some (r1, r2) := by rw [if_neg (show ¬ (false = true) by decide)] at H; exact H
        clear H
        have H := H1
        clear H1
        have H' := aj.mk H
        clear H
        go_wp2
        go_loopg [4, 5] kj1 (fun kq v4 v5 w' => ∃ (Dv : List ByteArray) (eX : Int), v5 = .int .i64 eX ∧ aj (aN.l0 kq a0 Dv eX = some (r1, r2)) ∧ aj (kq ≤ kj1) ∧ aj (Kd.R Kd.string 9 w' w.heap.size (fun _ => True) v4 Dv) ∧ aj (Below w.heap.size w w'))
        case atStart => exact ⟨(([] : List ByteArray)), (0), (by first | rfl | (simp; done) | (simp [*]; done) | (simp [B.aV]; done) | (simp [B.aW]; done)), H', ⟨Nat.le_refl _⟩, ⟨by (with_reducible repeat (first | apply Kd.eU | apply Kd.fF | apply Kd.fP)); exact qh.out⟩, ⟨by repeat (first | (with_reducible first | exact HB.out | apply ak | apply ah | apply au) | exact HB.out)⟩⟩
        case round =>
          clear H'
          try clear c1
          try clear p2
          try clear c3
          try clear ql
          try clear Bf
          try clear Lb
          try clear c4
          try clear p2
          obtain ⟨Dv, eX, rfl, HA, QB, qh, HB⟩ := hrel
          cases gk with
          | zero => exact absurd HA.out (by simp [aN.l0])
          | succ k2 =>
            have H := HA.out
            clear HA
            simp only [aN.l0] at H
            by_cases c5 : eX < (a0.size : Int)
            · rw [if_pos c5] at H
              have oM : decide (eX < (a0.size : Int)) = true := decide_eq_true c5
              clear c5
              by_cases c6 : 0 ≤ eX
              · rw [if_pos c6] at H
                have yU : decide (0 ≤ eX) = true := decide_eq_true c6
                clear c6
                by_cases c8 : (wrap64 (bt a0 eX)) = 0
                · rw [if_pos c8] at H
                  have qR : ((wrap64 (bt a0 eX)) == 0) = true := beq_iff_eq.mpr c8
                  have qU : ((wrap64 (bt a0 eX)) != 0) = false := bne_eq_false_iff_eq.mpr c8
                  (try (have Lc : (((bt a0 eX)) == 0) = true := by have h_ : ((wrap64 (bt a0 eX)) == 0) = true := beq_iff_eq.mpr c8; rw [B.dO (by omega) (by omega)] at h_; exact h_))
                  (try (have XQ : (((bt a0 eX)) != 0) = false := by have h_ : ((wrap64 (bt a0 eX)) != 0) = false := bne_eq_false_iff_eq.mpr c8; rw [B.dO (by omega) (by omega)] at h_; exact h_))
                  clear c8
                  simp only [Option.some.injEq, Prod.mk.injEq] at H
                  obtain ⟨rfl, rfl⟩ := H
                  have p7 : 0 ≤ (eX : Int) := of_decide_eq_true (by first | (with_reducible assumption) | assumption)
                  have q7 : eX < (a0.size : Int) := of_decide_eq_true (by first | (with_reducible assumption) | assumption)
                  have hx7 := ny a0 eX
                  replace p7 := eq_true p7
                  replace q7 := eq_true q7
                  go_wp2
                  go_ret2
                  exact ⟨_, by first | rfl | (simp [aJ, aK] <;> rfl) | (simp [*, aJ, aK] <;> rfl), by (with_reducible repeat (first | apply Kd.eU | apply Kd.fF | apply Kd.fP)); exact qh.out, by repeat (first | (with_reducible first | exact HB.out | apply ak | apply ah | apply au) | exact HB.out)⟩
                · rw [if_neg c8] at H
                  have qR : ((wrap64 (bt a0 eX)) == 0) = false := beq_eq_false_iff_ne.mpr c8
                  have qU : ((wrap64 (bt a0 eX)) != 0) = true := bne_iff_ne.mpr c8
                  (try (have Lc : (((bt a0 eX)) == 0) = false := by have h_ : ((wrap64 (bt a0 eX)) == 0) = false := beq_eq_false_iff_ne.mpr c8; rw [B.dO (by omega) (by omega)] at h_; exact h_))
                  (try (have XQ : (((bt a0 eX)) != 0) = true := by have h_ : ((wrap64 (bt a0 eX)) != 0) = true := bne_iff_ne.mpr c8; rw [B.dO (by omega) (by omega)] at h_; exact h_))
                  by_cases c9 : (wrap64 (bt a0 eX)) > 63
                  · rw [if_pos c9] at H
                    have sP : decide (63 < (wrap64 (bt a0 eX))) = true := decide_eq_true c9
                    (try (have Dt : decide (63 < ((bt a0 eX))) = true := by have h_ : decide (63 < (wrap64 (bt a0 eX))) = true := decide_eq_true c9; rw [B.dO (by omega) (by omega)] at h_; exact h_))
                    clear c9
                    simp only [Option.some.injEq, Prod.mk.injEq] at H
                    obtain ⟨rfl, rfl⟩ := H
                    have p7 : 0 ≤ (eX : Int) := of_decide_eq_true (by first | (with_reducible assumption) | assumption)
                    have q7 : eX < (a0.size : Int) := of_decide_eq_true (by first | (with_reducible assumption) | assumption)
                    have hx7 := ny a0 eX
                    replace p7 := eq_true p7
                    replace q7 := eq_true q7
                    go_wp2
                    go_ret2
                    exact ⟨_, by first | rfl | (simp [aJ, aK] <;> rfl) | (simp [*, aJ, aK] <;> rfl), by first | exact Kd.jy _ _ _ _ _ | exact Kd.kQ _ _ _ _ _ | exact Kd.kR _ _ _ _ _ | exact Kd.kN _ _ _ _ _ | exact Kd.kP _ _ _ _ _, by repeat (first | (with_reducible first | exact HB.out | apply ak | apply ah | apply au) | exact HB.out)⟩
                  · rw [if_neg c9] at H
                    have sP : decide (63 < (wrap64 (bt a0 eX))) = false := decide_eq_false c9
                    (try (have Dt : decide (63 < ((bt a0 eX))) = false := by have h_ : decide (63 < (wrap64 (bt a0 eX))) = false := decide_eq_false c9; rw [B.dO (by omega) (by omega)] at h_; exact h_))
                    clear c9
                    by_cases c10 : (wrap64 (bt a0 eX)) ≥ (wrap64 ((a0.size : Int) - eX))
                    · rw [if_pos c10] at H
                      have qE : decide ((wrap64 ((a0.size : Int) - eX)) ≤ (wrap64 (bt a0 eX))) = true := decide_eq_true c10
                      (try (have zL : decide ((((a0.size : Int) - eX)) ≤ ((bt a0 eX))) = true := by have h_ : decide ((wrap64 ((a0.size : Int) - eX)) ≤ (wrap64 (bt a0 eX))) = true := decide_eq_true c10; rw [B.dO (by omega) (by omega)] at h_; rw [B.dO (by omega) (by omega)] at h_; exact h_))
                      clear c10
                      simp only [Option.some.injEq, Prod.mk.injEq] at H
                      obtain ⟨rfl, rfl⟩ := H
                      have p7 : 0 ≤ (eX : Int) := of_decide_eq_true (by first | (with_reducible assumption) | assumption)
                      have q7 : eX < (a0.size : Int) := of_decide_eq_true (by first | (with_reducible assumption) | assumption)
                      have hx7 := ny a0 eX
                      replace p7 := eq_true p7
                      replace q7 := eq_true q7
                      go_wp2
                      go_ret2
                      exact ⟨_, by first | rfl | (simp [aJ, aK] <;> rfl) | (simp [*, aJ, aK] <;> rfl), by first | exact Kd.jy _ _ _ _ _ | exact Kd.kQ _ _ _ _ _ | exact Kd.kR _ _ _ _ _ | exact Kd.kN _ _ _ _ _ | exact Kd.kP _ _ _ _ _, by repeat (first | (with_reducible first | exact HB.out | apply ak | apply ah | apply au) | exact HB.out)⟩
                    · rw [if_neg c10] at H
                      have qE : decide ((wrap64 ((a0.size : Int) - eX)) ≤ (wrap64 (bt a0 eX))) = false := decide_eq_false c10
                      (try (have zL : decide ((((a0.size : Int) - eX)) ≤ ((bt a0 eX))) = false := by have h_ : decide ((wrap64 ((a0.size : Int) - eX)) ≤ (wrap64 (bt a0 eX))) = false := decide_eq_false c10; rw [B.dO (by omega) (by omega)] at h_; rw [B.dO (by omega) (by omega)] at h_; exact h_))
                      clear c10
                      obtain ⟨lH, Gg⟩ : ∃ j_ : Int, (wrap64 (eX + 1)) = j_ := ⟨_, rfl⟩
                      replace H : (if 0 ≤ (lH) then (if (lH) ≤ (wrap64 ((lH) + (wrap64 (bt a0 eX)))) then (if (wrap64 ((lH) + (wrap64 (bt a0 eX)))) ≤ (a0.size : Int) then (if Dv.length < 8796093022208 then (aN.l0 k2 a0 (Dv ++ [a0.extract ((lH) : Int).toNat ((wrap64 ((lH) + (wrap64 (bt a0 eX)))) : Int).toNat]) (wrap64 ((lH) + (wrap64 (bt a0 eX))))) else (none)) else (none)) else (none)) else (none)) = some (r1, r2) := by first | (rw [Gg] at H; exact H) | (simp only [Gg] at H ⊢; exact H)
                      have ady : (IntKind.i64.wrap (eX + 1)) = lH := (gN _).trans Gg
                      by_cases c12 : 0 ≤ (lH)
                      · rw [if_pos c12] at H
                        have sQ := eq_true c12
                        have sS : decide (0 ≤ (lH)) = true := decide_eq_true c12
                        clear c12
                        by_cases c13 : (lH) ≤ (wrap64 ((lH) + (wrap64 (bt a0 eX))))
                        · rw [if_pos c13] at H
                          have aeT := eq_true c13
                          have aeU : decide ((lH) ≤ (wrap64 ((lH) + (wrap64 (bt a0 eX))))) = true := decide_eq_true c13
                          by_cases c14 : (wrap64 ((lH) + (wrap64 (bt a0 eX)))) ≤ (a0.size : Int)
                          · rw [if_pos c14] at H
                            have zM := eq_true c14
                            have QC : decide ((wrap64 ((lH) + (wrap64 (bt a0 eX)))) ≤ (a0.size : Int)) = true := decide_eq_true c14
                            by_cases c15 : Dv.length < 8796093022208
                            · rw [if_pos c15] at H
                              have XR := aj.mk c15
                              clear c15
                              obtain ⟨XT, Dw⟩ : ∃ y_ : List ByteArray, y_ = (Dv ++ [a0.extract ((lH) : Int).toNat ((wrap64 ((lH) + (wrap64 (bt a0 eX)))) : Int).toNat]) := ⟨_, rfl⟩
                              replace H : (aN.l0 k2 a0 XT (wrap64 ((lH) + (wrap64 (bt a0 eX))))) = some (r1, r2) := by first | (rw [Dw]; with_reducible exact H) | (have ER := (Option.bind_some _ _).symm.trans H; rw [Dw]; with_reducible exact ER) | (have ER := (Option.bind_some _ _).symm.trans H; with_reducible exact ER) | with_reducible exact H | (rw [Dw]; exact H) | exact H
                              have XU := aj.mk Dw
                              clear Dw
                              have H' := aj.mk H
                              clear H
                              have p7 : 0 ≤ (eX : Int) := of_decide_eq_true (by first | (with_reducible assumption) | assumption)
                              have q7 : eX < (a0.size : Int) := of_decide_eq_true (by first | (with_reducible assumption) | assumption)
                              have hx7 := ny a0 eX
                              replace p7 := eq_true p7
                              replace q7 := eq_true q7
                              go_wp2_with (first | ((with_reducible refine nN (b := .append) (xs := #[.tmp 41, .tmp 50]) rfl ?_); (try (refine jm (by rfl) ?_; dsimp only)); at_builtin; refine Kd.xB Kd.string (w0 := w) w.heap.size rfl (.tmp 41) (.tmp 50) 33 9 (.string ⟨#[]⟩) 16 rfl Try.underlying33 Gc rfl (by decide) (by omega) u4 Dv (a0.extract ((lH) : Int).toNat ((wrap64 ((lH) + (wrap64 (bt a0 eX)))) : Int).toNat) [.string (a0.extract ((lH) : Int).toNat ((wrap64 ((lH) + (wrap64 (bt a0 eX)))) : Int).toNat)] (fun _ => True) (fun _ => False) rfl rfl ?aP (fun _ hk => hk.elim) ?aF ?aO ?aB ?aS ?aL ?_; (case aP => exact rfl); (case aB => exact (by repeat (first | (with_reducible first | exact HB.out | apply ak | apply ah | apply au) | exact HB.out))); (case aF => exact (fun _ _ => trivial)); (case aO => exact (by (with_reducible repeat (first | apply Kd.eU | apply Kd.fF | apply Kd.fP)); exact qh.out)); (case aS => exact (bL (by repeat (first | (with_reducible first | exact HB.out | apply ak | apply ah | apply au) | exact HB.out)))); (case aL => have := XR.out; omega); intro af3 w16 ho hb hg hat; rw [← XU.out] at ho; have dY := aj.mk (hb); have gW := aj.mk (ho); clear HB; clear qh; have HB := dY; have XV := gW; clear dY gW; clear ho hb hg hat))
                              go_roundg k2
                              case measure => have := HJ1.out; have := QB.out; omega
                              case rel => exact ⟨(XT), (wrap64 ((lH) + (wrap64 (bt a0 eX)))), (by first | rfl | (simp; done) | (simp only [← Gg] <;> (first | rfl | simp)) | (simp [*]; done)), H', ⟨by have := HJ1.out; have := QB.out; omega⟩, ⟨by (with_reducible repeat (first | apply Kd.eU | apply Kd.fF | apply Kd.fP)); exact XV.out⟩, ⟨by repeat (first | (with_reducible first | exact HB.out | apply ak | apply ah | apply au) | exact HB.out)⟩⟩
                            · rw [if_neg c15] at H
                              exact absurd H (by simp)
                          · rw [if_neg c14] at H
                            exact absurd H (by simp)
                        · rw [if_neg c13] at H
                          exact absurd H (by simp)
                      · rw [if_neg c12] at H
                        exact absurd H (by simp)
              · rw [if_neg c6] at H
                exact absurd H (by simp)
            · rw [if_neg c5] at H
              have oM : decide (eX < (a0.size : Int)) = false := decide_eq_false c5
              clear c5
              simp only [Option.some.injEq, Prod.mk.injEq] at H
              obtain ⟨rfl, rfl⟩ := H
              go_wp2
              go_ret2
              exact ⟨_, by first | rfl | (simp [aJ, aK] <;> rfl) | (simp [*, aJ, aK] <;> rfl), by first | exact Kd.jy _ _ _ _ _ | exact Kd.kQ _ _ _ _ _ | exact Kd.kR _ _ _ _ _ | exact Kd.kN _ _ _ _ _ | exact Kd.kP _ _ _ _ _, by repeat (first | (with_reducible first | exact HB.out | apply ak | apply ah | apply au) | exact HB.out)⟩
def dz.f (k : Nat) (a0 : ByteArray) : Option (Bool) := (aN.f k a0).bind fun Ld => (some Ld.2)
set_option maxHeartbeats 8000000 in
set_option maxRecDepth 100000 in
theorem dz.calls (k : Nat) (a0 : ByteArray) (r : Bool) (w : World) (h : dz.f k a0 = some r) :
    Calls Try.prog 100 #[.string a0] w fun e w' => e = .returned (.bool r) ∧ Below w.heap.size w w' := by
  have HB := aj.mk (Below.refl w.heap.size w)
  have H : ((aN.f k a0).bind fun Ld => (some Ld.2)) = some r := h
  clear h
  replace H := zbm H
  obtain ⟨⟨adz, XW⟩, La, H⟩ := H
  replace H : (some XW) = some r := H
  have A2 := aj.mk La
  clear La
  obtain rfl := Option.some.inj H
  go_enter Try.func100, Try.ntmps100
  go_wp2_with (first | ((with_reducible refine aQ (f := 115) rfl ?_); refine bP (some 7) rfl rfl Try.func115 (by kernel_rfl) rfl #[.string a0] rfl (by (try simp only [List.map_toArray, List.map_cons, List.map_nil]); first | done | rfl | (simp only [List.length_drop, List.length_take]; rfl) | (simp only [ByteArray.size_append, Int.natCast_add]; rfl) | (rw [B.dO] <;> first | rfl | omega | (simp only [decide_eq_false_iff_not, decide_eq_true_eq, Int.not_lt, Nat.not_lt, gt_iff_lt] at * <;> omega))) ?_; (with_reducible refine (aN.calls k a0 adz XW _ A2.out).mono ?_); rintro e w3 ⟨af4, rfl, ho0, hb⟩; refine ⟨_, rfl, ?_⟩; have dY := aj.mk (Kd.sG ho0 (bL (by repeat (first | (with_reducible first | exact HB.out | apply ak | apply ah | apply au) | exact HB.out)))); have gW := aj.mk (bE (by repeat (first | (with_reducible first | exact HB.out | apply ak | apply ah | apply au) | exact HB.out)) hb); clear HB; have aeV := dY; have HB := gW; clear dY gW; (try clear hb); (try clear hb2); (try clear hk); (try clear hi); (try clear ho0)))
  go_ret
  exact ⟨by first | rfl | (simp [aJ, aK] <;> rfl) | (simp [*, aJ, aK] <;> rfl), by repeat (first | (with_reducible first | exact HB.out | apply ak | apply ah | apply au) | exact HB.out)⟩
def cB.f (a0 : ByteArray) : Option ByteArray := if a0.size ≤ 140737488355328 then some (B.nW a0) else none
set_option maxHeartbeats 8000000 in
set_option maxRecDepth 100000 in
theorem cB.calls (a0 : ByteArray) (r : ByteArray) (w : World) (h : cB.f a0 = some r) :
    Calls Try.prog 116 #[.string a0] w fun e w' => e = .returned (.string r) ∧ Below w.heap.size w w' := by
  unfold cB.f at h
  by_cases hs : a0.size ≤ 140737488355328
  · rw [if_pos hs] at h
    obtain rfl := Option.some.inj h
    clear h
    have kc := fun (W : World) => Lib.run_convert_string_bytes (P := Try.prog) W 9 119 5 a0 Try.underlying9 Try.underlying119 Try.underlying5
    have hb0 := aj.mk (B.xK (Below.refl w.heap.size w) (Nat.le_refl _) 5 a0)
    have hr0 := aj.mk (B.xJ w 5 a0)
    go_enter Try.func116, Try.ntmps116
    go_wp2
    generalize Lib.bytesWorld w 5 a0 = w1 at hb0 hr0 ⊢
    generalize grownCap w a0.size 0 5 = C
    have hz := aj.mk (B.numsOf_length a0)
    have hg := aj.mk (Nat.le_refl w.heap.size)
    generalize hgg : w.heap.size = g at hb0 hr0 hg ⊢
    have hg' := aj.mk hgg
    clear hgg
    go_loopw [4] (fun v wr => ∃ k : Nat, k ≤ a0.size ∧ v = .int .i64 k ∧ aj (B.uV wr g (B.iQ k (B.numsOf a0))) ∧ aj (Below g w wr)) (fun v _ => a0.size - (intOf v).toNat)
    case atStart => exact ⟨0, Nat.zero_le _, rfl, ⟨by rw [B.xI]; exact hr0.out⟩, hb0⟩
    case round =>
      obtain ⟨k, hk, rfl, hrow, hbel⟩ := hrel
      clear hr0 hb0 kc
      by_cases hlt : k < a0.size
      · have hkl : k < (B.numsOf a0).length := by rw [hz.out]; exact hlt
        have hc := (hrow.out k (by rw [B.gK]; exact hkl))
        rw [B.Dl k _ hkl, B.numsOf_at] at hc
        obtain ⟨hc1, hc2⟩ := hc
        have hrange := B.zH a0 k
        have hset := aj.mk (B.rowAt_set hrow.out k (B.iJ (bt a0 k)) (by rw [B.gK]; exact hkl))
        have hset' := aj.mk (show B.uV (wr.setCell ⟨g, k, none⟩ (.int .u8 (B.iJ (bt a0 k)))) g (B.iQ (k + 1) (B.numsOf a0)) by
          have h1 := hset.out
          rw [← B.numsOf_at, B.uw k _ hkl] at h1
          rw [← B.numsOf_at]
          exact h1)
        have kT := aj.mk (hbel.out.setCell (p := ⟨g, k, none⟩) (Nat.le_refl _) (.int .u8 (B.iJ (bt a0 k))))
        have hsame := aj.mk (show B.iJ (bt a0 k) = bt a0 k → B.uV wr g (B.iQ (k + 1) (B.numsOf a0)) by
          intro he j hj
          have h1 := hrow.out j (by rw [B.gK] at hj ⊢; exact hj)
          rw [← B.uw k _ hkl, B.numsOf_at, he]
          by_cases e : j = k
          · subst e
            rw [List.getD_eq_getElem?_getD, List.getElem?_set_self (by rw [B.gK]; exact hkl)]
            exact ⟨hc1, hc2⟩
          · rw [List.getD_eq_getElem?_getD, List.getElem?_set_ne (fun h => e h.symm), ← List.getD_eq_getElem?_getD]
            exact h1)
        clear hset hrow hkl
        generalize bt a0 k = c at *
        by_cases c1 : 65 ≤ c
        · by_cases c2 : c ≤ 90
          · have d1 : decide (65 ≤ c) = true := decide_eq_true c1
            have d2 : decide (c ≤ 90) = true := decide_eq_true c2
            have e1 : B.iJ c = c + 32 := by unfold B.iJ; rw [if_pos ⟨c1, c2⟩]
            have e2 : (c + 32) % 256 = c + 32 := by omega
            rw [e1] at hset' kT
            have e2' := aj.mk e2
            clear hsame hbel e1 e2 c1 c2
            go_wp2
            all_goals
              go_roundw
              case rel => exact ⟨k + 1, by omega, by go_num, ⟨fun j hj => by first | exact hset'.out j hj | (rw [e2'.out]; exact hset'.out j hj)⟩, ⟨by first | exact kT.out | (rw [e2'.out]; exact kT.out) | exact ⟨kT.out.os, kT.out.tape, kT.out.output, kT.out.size, kT.out.block⟩⟩⟩
              case measure => simp [intOf]; omega
          · have d1 : decide (65 ≤ c) = true := decide_eq_true c1
            have d2 : decide (c ≤ 90) = false := decide_eq_false c2
            have e1 : B.iJ c = c := by unfold B.iJ; rw [if_neg (by omega)]
            have hr2 := aj.mk (hsame.out e1)
            clear hsame hset' kT e1 c1 c2
            go_wp2
            go_roundw
            case rel => exact ⟨k + 1, by omega, by go_num, hr2, hbel⟩
            case measure => simp [intOf]; omega
        · have d1 : decide (65 ≤ c) = false := decide_eq_false c1
          have e1 : B.iJ c = c := by unfold B.iJ; rw [if_neg (by omega)]
          have hr2 := aj.mk (hsame.out e1)
          clear hsame hset' kT e1 c1
          go_wp2
          go_roundw
          case rel => exact ⟨k + 1, by omega, by go_num, hr2, hbel⟩
          case measure => simp [intOf]; omega
      · obtain rfl : k = a0.size := by omega
        have hl : (B.iQ a0.size (B.numsOf a0)).length = a0.size := by rw [B.gK]; exact hz.out
        have kd := fun (dst : TypeId) (hd : Try.prog.underlying dst = some .string) => run_convert_bytes_arg (P := Try.prog) wr 119 5 Try.underlying119 Try.underlying5 g 0 a0.size C (B.iQ a0.size (B.numsOf a0)) hl (fun i hi => by rw [Nat.zero_add]; exact (hrow.out i (by rw [hl]; exact hi)).1) dst hd
        replace kd := kd 9 Try.underlying9
        have he := aj.mk (show strOfNums (B.iQ a0.size (B.numsOf a0)) = B.nW a0 by
          have := B.zG (B.numsOf a0)
          rw [hz.out] at this
          rw [this]; rfl)
        generalize strOfNums (B.iQ a0.size (B.numsOf a0)) = q at kd he
        clear hrow hl hlt
        have he' := he.out
        clear he
        subst he'
        go_wp2
        go_ret
        exact ⟨rfl, by rw [hg'.out]; exact hbel.out⟩
  · rw [if_neg hs] at h
    exact absurd h (by simp)
def fq.f (k : Nat) (a0 : ByteArray) : Option (ByteArray) := (dz.f k a0).bind fun t117 => (if t117 = true then ((cB.f a0).bind fun yV => (some yV)) else (some (⟨#[]⟩ : ByteArray)))
set_option maxHeartbeats 8000000 in
set_option maxRecDepth 100000 in
theorem fq.calls (k : Nat) (a0 : ByteArray) (r : ByteArray) (w : World) (h : fq.f k a0 = some r) :
    Calls Try.prog 101 #[.string a0] w fun e w' => e = .returned (.string r) ∧ Below w.heap.size w w' := by
  have HB := aj.mk (Below.refl w.heap.size w)
  have H : ((dz.f k a0).bind fun t117 => (if t117 = true then ((cB.f a0).bind fun yV => (some yV)) else (some (⟨#[]⟩ : ByteArray)))) = some r := h
  clear h
  replace H := zbm H
  obtain ⟨t117, La, H⟩ := H
  replace H : (if t117 = true then ((cB.f a0).bind fun yV => (some yV)) else (some (⟨#[]⟩ : ByteArray))) = some r := H
  have A2 := aj.mk La
  clear La
  by_cases c3 : t117 = true
  · subst c3
    have H1 : ((cB.f a0).bind fun yV => (some yV)) = some r := by rw [if_pos rfl] at H; exact H
    clear H
    have H := H1
    clear H1
    replace H := zbm H
    obtain ⟨yV, Du, H⟩ := H
    replace H : (some yV) = some r := H
    have A4 := aj.mk Du
    clear Du
    obtain rfl := Option.some.inj H
    go_enter Try.func101, Try.ntmps101
    go_wp2_with (first | ((with_reducible refine aQ (f := 100) rfl ?_); refine bP (some 4) rfl rfl Try.func100 (by kernel_rfl) rfl #[.string a0] rfl (by (try simp only [List.map_toArray, List.map_cons, List.map_nil]); first | done | rfl | (simp only [List.length_drop, List.length_take]; rfl) | (simp only [ByteArray.size_append, Int.natCast_add]; rfl) | (rw [B.dO] <;> first | rfl | omega | (simp only [decide_eq_false_iff_not, decide_eq_true_eq, Int.not_lt, Nat.not_lt, gt_iff_lt] at * <;> omega))) ?_; (with_reducible refine (dz.calls k a0 true _ A2.out).mono ?_); rintro e w5 ⟨rfl, hb⟩; refine ⟨_, rfl, ?_⟩; have dY := aj.mk (bE (by repeat (first | (with_reducible first | exact HB.out | apply ak | apply ah | apply au) | exact HB.out)) hb); clear HB; have HB := dY; clear dY; (try clear hb); (try clear hb2); (try clear hk); (try clear hi)) | ((with_reducible refine aQ (f := 116) rfl ?_); refine bP (some 7) rfl rfl Try.func116 (by kernel_rfl) rfl #[.string a0] rfl (by (try simp only [List.map_toArray, List.map_cons, List.map_nil]); first | done | rfl | (simp only [List.length_drop, List.length_take]; rfl) | (simp only [ByteArray.size_append, Int.natCast_add]; rfl) | (rw [B.dO] <;> first | rfl | omega | (simp only [decide_eq_false_iff_not, decide_eq_true_eq, Int.not_lt, Nat.not_lt, gt_iff_lt] at * <;> omega))) ?_; (with_reducible refine (cB.calls a0 yV _ A4.out).mono ?_); rintro e w6 ⟨rfl, hb⟩; refine ⟨_, rfl, ?_⟩; have dY := aj.mk (bE (by repeat (first | (with_reducible first | exact HB.out | apply ak | apply ah | apply au) | exact HB.out)) hb); clear HB; have HB := dY; clear dY; (try clear hb); (try clear hb2); (try clear hk); (try clear hi)))
    go_ret
    exact ⟨by first | rfl | (simp [aJ, aK] <;> rfl) | (simp [*, aJ, aK] <;> rfl), by repeat (first | (with_reducible first | exact HB.out | apply ak | apply ah | apply au) | exact HB.out)⟩
  · replace c3 := Bool.eq_false_iff.mpr c3
    subst c3
    have H1 : (some (⟨#[]⟩ : ByteArray)) = some r := by rw [if_neg (show ¬ (false = true) by decide)] at H; exact H
    clear H
    have H := H1
    clear H1
    obtain rfl := Option.some.inj H
    go_enter Try.func101, Try.ntmps101
    go_wp2_with (first | ((with_reducible refine aQ (f := 100) rfl ?_); refine bP (some 4) rfl rfl Try.func100 (by kernel_rfl) rfl #[.string a0] rfl (by (try simp only [List.map_toArray, List.map_cons, List.map_nil]); first | done | rfl | (simp only [List.length_drop, List.length_take]; rfl) | (simp only [ByteArray.size_append, Int.natCast_add]; rfl) | (rw [B.dO] <;> first | rfl | omega | (simp only [decide_eq_false_iff_not, decide_eq_true_eq, Int.not_lt, Nat.not_lt, gt_iff_lt] at * <;> omega))) ?_; (with_reducible refine (dz.calls k a0 false _ A2.out).mono ?_); rintro e w7 ⟨rfl, hb⟩; refine ⟨_, rfl, ?_⟩; have dY := aj.mk (bE (by repeat (first | (with_reducible first | exact HB.out | apply ak | apply ah | apply au) | exact HB.out)) hb); clear HB; have HB := dY; clear dY; (try clear hb); (try clear hb2); (try clear hk); (try clear hi)))
    go_ret
    exact ⟨by first | rfl | (simp [aJ, aK] <;> rfl) | (simp [*, aJ, aK] <;> rfl), by repeat (first | (with_reducible first | exact HB.out | apply ak | apply ah | apply au) | exact HB.out)⟩
end Go.Proofs.Ytdkkgecdhapfhaa.ZQ
namespace Go.Proofs.Ytdkkgecdhapfhaa.ZQ
open Go.RowKit Go.Proofs.YtdkkgecdhapfhaaW.bD Go.Proofs.YtdkkgecdhapfhaaW.dV Go.Proofs.YtdkkgecdhapfhaaW.eF Go.Proofs.Ytdkkgecdhapfhaa.B
theorem mH {n : ByteArray} : n.toList = ([0] : List UInt8) ↔ n = root := by
  have : root.toList = ([0] : List UInt8) := by rw [Lib.toList_data]; rfl
  rw [← this, toList_inj]
theorem Le (d : Nat) : ∀ (k : Nat) (n : ByteArray) (acc : List ByteArray), n.size ≤ d → 1 ≤ n.size → d ≤ 255 → acc.length + d ≤ 1000 → 2 * d + 2 ≤ k →
    bN.l0 k n acc = some (match jJ n.size n with | some l => (acc ++ l, true) | none => ([], false)) := by
  induction d with
  | zero => intro k n acc h1 h2; omega
  | succ d ih =>
    intro k n acc h1 h2 h3 h4 hk
    obtain ⟨k, rfl⟩ : ∃ m, k = m + 2 := ⟨k - 2, by omega⟩
    rw [bN.l0, if_pos (by omega), bN.j1, xO h2]
    by_cases hr : n = root
    · have hb : (n.toList != ([0] : List UInt8)) = false := bne_eq_false_iff_eq.mpr (mH.mpr hr)
      have hb2 : (n.toList == ([0] : List UInt8)) = true := beq_iff_eq.mpr (mH.mpr hr)
      rw [hb, if_neg Bool.false_ne_true, if_pos hr, hb2]
      simp
    · have hb : (n.toList != ([0] : List UInt8)) = true := bne_iff_ne.mpr fun h => hr (mH.mp h)
      have hbr := fZ n 0
      rw [hb, if_pos rfl, if_pos (by omega), if_neg hr, dO (n := bt n 0) (by omega) (by omega), dO (n := bt n 0 + 1) (by omega) (by omega), dO (n := 1 + bt n 0) (by omega) (by omega)]
      by_cases c1 : bt n 0 < 1
      · rw [if_pos c1, if_neg (by omega)]
      · rw [if_neg c1]
        by_cases c2 : bt n 0 > 63
        · rw [if_pos c2, if_neg (by omega)]
        · rw [if_neg c2]
          by_cases c3 : bt n 0 + 1 ≥ (n.size : Int)
          · rw [if_pos c3, if_neg (by omega)]
          · rw [if_neg c3, if_pos (by omega), if_pos (by omega), if_pos (by omega), if_pos (by omega), if_pos (by omega)]
            have e : (1 + bt n 0).toNat = 1 + (bt n 0).toNat := by omega
            rw [e, ih k _ _ (by rw [ByteArray.size_extract]; omega) (by rw [ByteArray.size_extract]; omega) (by omega) (by simp; omega) (by omega)]
            cases jJ (n.extract (1 + (bt n 0).toNat) n.size).size (n.extract (1 + (bt n 0).toNat) n.size) with
            | none => rfl
            | some l => simp
def Bg (n : ByteArray) : List ByteArray × Bool := match uy n with | some l => (l, true) | none => ([], false)
theorem Lf (k : Nat) (hk : 600 ≤ k) (n : ByteArray) (hs : n.size ≤ 1000000000) : bN.f k n = some (Bg n) := by
  unfold bN.f Bg uy
  by_cases h : n.size ≤ 255
  · rw [if_neg (by omega), if_pos h]
    by_cases h0 : n.size = 0
    · obtain ⟨k, rfl⟩ : ∃ m, k = m + 2 := ⟨k - 2, by omega⟩
      have hb2 : (n.toList == ([0] : List UInt8)) = false := beq_eq_false_iff_ne.mpr fun h => by rw [mH] at h; rw [h, kI] at h0; omega
      rw [bN.l0, if_neg (by omega), bN.j1, if_neg Bool.false_ne_true, hb2, jJ, if_pos h0]
    · rw [Le 255 k n [] h (by omega) (by omega) (by simp) (by omega), xM 255 n h]
      simp
  · rw [if_pos (by omega), if_neg h]
theorem ES (n : ByteArray) : (Bg n).2 = jA n := by
  unfold Bg jA
  cases uy n <;> rfl
theorem Dx (k : Nat) (hk : 600 ≤ k) (n : ByteArray) (hs : n.size ≤ 1000000000) : iK.f k n = some (jA n) := by
  unfold iK.f
  rw [Lf k hk n hs]
  simp only [Option.bind_some, ES]
theorem TB (n : ByteArray) (hs : n.size ≤ 1000000000) : iR.f n = some (nW n) := by unfold iR.f; rw [if_pos (by omega)]
theorem Lg (n : ByteArray) (hs : n.size ≤ 1000000000) : cB.f n = some (nW n) := by unfold cB.f; rw [if_pos (by omega)]
theorem xR (a b : ByteArray) : (a.toList == b.toList) = decide (a = b) := by
  rw [Bool.eq_iff_iff]
  simp only [beq_iff_eq, decide_eq_true_eq]
  exact toList_inj
theorem Lh (n : ByteArray) : n.extract 0 n.size = n := ByteArray.extract_zero_size
theorem Io (d : Nat) : ∀ (k : Nat) (n : ByteArray) (i : Nat) (acc : List ByteArray), i < n.size → n.size - i ≤ d → n.size ≤ 255 → acc.length + d ≤ 1000 → d + 2 ≤ k →
    ∃ o, aN.l0 k n acc i = some o ∧ (match jJ (n.extract i n.size).size (n.extract i n.size) with | some l => o = (acc ++ l, true) | none => o.2 = false) := by
  induction d with
  | zero => intro k n i acc h1 h2; omega
  | succ d ih =>
    intro k n i acc h1 h2 h3 h4 hk
    obtain ⟨k, rfl⟩ : ∃ m, k = m + 1 := ⟨k - 1, by omega⟩
    have hz : (n.extract i n.size).size = n.size - i := by rw [ByteArray.size_extract]; omega
    have hb : bt (n.extract i n.size) 0 = bt n i := by
      rw [lX (by omega) (by rw [hz]; omega)]
      congr 1
    have hbr := fZ n i
    rw [aN.l0, if_pos (by omega), if_pos (by omega), xO (by rw [hz]; omega), hb, dO (n := bt n i) (by omega) (by omega)]
    by_cases c0 : bt n i = 0
    · rw [if_pos c0]
      refine ⟨_, rfl, ?_⟩
      by_cases hr : n.extract i n.size = root
      · have h5 := congrArg ByteArray.size hr
        rw [hz, kI] at h5
        rw [if_pos hr, dO (by omega) (by omega)]
        have : (i : Int) = (n.size : Int) - 1 := by omega
        simp [this]
      · have h5 : n.size - i ≠ 1 := by
          intro h6
          refine hr (EM (by rw [hz, kI]; exact h6) fun j j0 j1 => ?_)
          rw [hz] at j1
          have : j = 0 := by omega
          subst this
          rw [hb, c0, F7]
        rw [if_neg hr, if_neg (by omega), dO (by omega) (by omega)]
        simp
        omega
    · have hr : n.extract i n.size ≠ root := by
        intro h5
        rw [h5, F7] at hb
        exact c0 hb.symm
      rw [if_neg c0, if_neg hr]
      by_cases c2 : bt n i > 63
      · rw [if_pos c2, if_neg (by omega)]
        exact ⟨_, rfl, rfl⟩
      · rw [if_neg c2, dO (n := (n.size : Int) - i) (by omega) (by omega)]
        by_cases c3 : bt n i ≥ (n.size : Int) - i
        · rw [if_pos c3, if_neg (by rw [hz]; omega)]
          exact ⟨_, rfl, rfl⟩
        · rw [if_neg c3, dO (n := (i : Int) + 1) (by omega) (by omega), dO (n := (i : Int) + 1 + bt n i) (by omega) (by omega), if_pos (by omega), if_pos (by omega), if_pos (by omega), if_pos (by omega)]
          have e : ((i : Int) + 1 + bt n i) = ((i + 1 + (bt n i).toNat : Nat) : Int) := by omega
          have e1 : ((i : Int) + 1).toNat = i + 1 := by omega
          rw [e, e1, Int.toNat_natCast]
          by_cases c4 : i + 1 + (bt n i).toNat < n.size
          · obtain ⟨o, ho, hm⟩ := ih k n (i + 1 + (bt n i).toNat) (acc ++ [n.extract (i + 1) (i + 1 + (bt n i).toNat)]) (by omega) (by omega) h3 (by simp; omega) (by omega)
            refine ⟨o, ho, ?_⟩
            rw [if_pos (by rw [hz]; omega)]
            have x1 : (n.extract i n.size).extract 1 (1 + (bt n i).toNat) = n.extract (i + 1) (i + 1 + (bt n i).toNat) := by
              rw [ByteArray.extract_extract]; congr 1; omega
            have x2 : (n.extract i n.size).extract (1 + (bt n i).toNat) (n.extract i n.size).size = n.extract (i + 1 + (bt n i).toNat) n.size := by
              rw [hz, ByteArray.extract_extract]; congr 1 <;> omega
            rw [x1, x2]
            cases hl : jJ (n.extract (i + 1 + (bt n i).toNat) n.size).size (n.extract (i + 1 + (bt n i).toNat) n.size) with
            | none => rw [hl] at hm; simpa using hm
            | some l => rw [hl] at hm; simpa using hm
          · obtain ⟨k, rfl⟩ : ∃ m, k = m + 1 := ⟨k - 1, by omega⟩
            rw [if_neg (by rw [hz]; omega), aN.l0, if_neg (by omega)]
            exact ⟨_, rfl, rfl⟩
theorem Ip (k : Nat) (hk : 600 ≤ k) (n : ByteArray) (hs : n.size ≤ 1000000000) :
    ∃ o, aN.f k n = some o ∧ (match uy n with | some l => o = (l, true) | none => o.2 = false) := by
  obtain ⟨k, rfl⟩ : ∃ m, k = m + 1 := ⟨k - 1, by omega⟩
  unfold aN.f uy
  by_cases h0 : n.size = 0
  · rw [if_pos (by omega), aN.j0, if_pos rfl, if_pos (by omega), jJ, if_pos h0]
    exact ⟨_, rfl, rfl⟩
  · rw [if_neg (by omega)]
    by_cases h : n.size ≤ 255
    · have hd : decide ((n.size : Int) > 255) = false := decide_eq_false (by omega)
      rw [hd, aN.j0, if_neg Bool.false_ne_true, if_pos h, xM 255 n h]
      have := Io 255 k n 0 [] (by omega) (by omega) h (by simp) (by omega)
      rw [Lh] at this
      simpa using this
    · have hd : decide ((n.size : Int) > 255) = true := decide_eq_true (by omega)
      rw [hd, aN.j0, if_pos rfl, if_neg h]
      exact ⟨_, rfl, rfl⟩
theorem sU (k : Nat) (hk : 600 ≤ k) (n : ByteArray) (hs : n.size ≤ 1000000000) : dz.f k n = some (jA n) := by
  obtain ⟨o, ho, hm⟩ := Ip k hk n hs
  unfold dz.f jA
  rw [ho]
  simp only [Option.bind_some]
  cases hl : uy n with
  | none => rw [hl] at hm; simpa using hm
  | some l => rw [hl] at hm; simp at hm; rw [hm]; rfl
end Go.Proofs.Ytdkkgecdhapfhaa.ZQ
namespace Go.Proofs.Ytdkkgecdhapfhaa.ZQ
open Go.RowKit Go.Proofs.YtdkkgecdhapfhaaW.bD Go.Proofs.YtdkkgecdhapfhaaW.dV Go.Proofs.YtdkkgecdhapfhaaW.eF
attribute [local go_sem] jh ji jZ j3 iC iD jk jl
def eP.f (a0 : ByteArray) (a1 : Int) (a2 : Int) : Option (ByteArray × Bool) :=
  if (a0.size : Int) ≤ 9223372036854775807 then
    (if 0 ≤ a1 ∧ 0 ≤ a2 ∧ a1 + a2 ≤ (a0.size : Int) then some (a0.extract a1.toNat (a1 + a2).toNat, true) else some ((⟨#[]⟩ : ByteArray), false))
  else none
theorem eP.mid (s : ByteArray) (a b : Int) (h0 : 0 ≤ a) (h1 : 0 ≤ b) (h2 : a + b ≤ (s.size : Int)) :
    (s.extract a.toNat s.size).extract 0 b.toNat = s.extract a.toNat (a + b).toNat := by
  rw [ByteArray.extract_extract]
  congr 1
  omega
set_option maxHeartbeats 8000000 in
set_option maxRecDepth 100000 in
theorem eP.calls (a0 : ByteArray) (a1 : Int) (a2 : Int) (r1 : ByteArray) (r2 : Bool) (w : World) (h : eP.f a0 a1 a2 = some (r1, r2)) :
    Calls Try.prog 97 #[.string a0, .int .i64 a1, .int .i64 a2] w fun e w' => e = .returned (.tuple #[.string r1, .bool r2]) ∧ aY w w' := by
  unfold eP.f at h
  by_cases hs : (a0.size : Int) ≤ 9223372036854775807
  · rw [if_pos hs] at h
    by_cases hc : 0 ≤ a1 ∧ 0 ≤ a2 ∧ a1 + a2 ≤ (a0.size : Int)
    · rw [if_pos hc] at h
      simp only [Option.some.injEq, Prod.mk.injEq] at h
      obtain ⟨rfl, rfl⟩ := h
      obtain ⟨h0, h1, h2⟩ := hc
      have hw : wrap64 ((a0.size : Int) - a1) = (a0.size : Int) - a1 := by unfold wrap64; omega
      have hm := aj.mk (eP.mid a0 a1 a2 h0 h1 h2)
      have c1 : decide (a1 < 0) = false := decide_eq_false (by omega)
      have c2 : decide (a2 < 0) = false := decide_eq_false (by omega)
      have c3 : decide ((a0.size : Int) < a1) = false := decide_eq_false (by omega)
      have c4 : decide (wrap64 ((a0.size : Int) - a1) < a2) = false := decide_eq_false (by omega)
      have c5 := eq_true h0
      have c6 : (a1 ≤ (a0.size : Int)) = True := eq_true (by omega)
      have c7 := eq_true h1
      have c8 : (a2 ≤ ((a0.extract a1.toNat a0.size).size : Int)) = True := eq_true (by simp only [ByteArray.size_extract]; omega)
      have c9 : (a2 ≤ (a0.size : Int) - (a1.toNat : Int)) = True := eq_true (by omega)
      have c10 : (a2 ≤ ((a0.size - a1.toNat : Nat) : Int)) = True := eq_true (by omega)
      clear hs hw h0 h1 h2
      go_enter Try.func97, Try.ntmps97
      go_wp2
      go_ret2
      exact ⟨by rw [hm.out]; rfl, by repeat (first | exact aY.refl _ | apply aY.step)⟩
    · rw [if_neg hc] at h
      simp only [Option.some.injEq, Prod.mk.injEq] at h
      obtain ⟨rfl, rfl⟩ := h
      by_cases c1 : a1 < 0
      · have c1' : decide (a1 < 0) = true := decide_eq_true c1
        clear hs hc c1
        go_enter Try.func97, Try.ntmps97
        go_wp2
        go_ret2
        exact ⟨rfl, by repeat (first | exact aY.refl _ | apply aY.step)⟩
      · by_cases c2 : a2 < 0
        · have c1' : decide (a1 < 0) = false := decide_eq_false c1
          have c2' : decide (a2 < 0) = true := decide_eq_true c2
          clear hs hc c1 c2
          go_enter Try.func97, Try.ntmps97
          go_wp2
          go_ret2
          exact ⟨rfl, by repeat (first | exact aY.refl _ | apply aY.step)⟩
        · by_cases c3 : (a0.size : Int) < a1
          · have c1' : decide (a1 < 0) = false := decide_eq_false c1
            have c2' : decide (a2 < 0) = false := decide_eq_false c2
            have c3' : decide ((a0.size : Int) < a1) = true := decide_eq_true c3
            clear hs hc c1 c2 c3
            go_enter Try.func97, Try.ntmps97
            go_wp2
            go_ret2
            exact ⟨rfl, by repeat (first | exact aY.refl _ | apply aY.step)⟩
          · have hw : wrap64 ((a0.size : Int) - a1) = (a0.size : Int) - a1 := by unfold wrap64; omega
            have c1' : decide (a1 < 0) = false := decide_eq_false c1
            have c2' : decide (a2 < 0) = false := decide_eq_false c2
            have c3' : decide ((a0.size : Int) < a1) = false := decide_eq_false c3
            have c4' : decide (wrap64 ((a0.size : Int) - a1) < a2) = true := decide_eq_true (by omega)
            clear hs hc c1 c2 c3 hw
            go_enter Try.func97, Try.ntmps97
            go_wp2
            go_ret2
            exact ⟨rfl, by repeat (first | exact aY.refl _ | apply aY.step)⟩
  · rw [if_neg hs] at h
    exact absurd h (by simp)
def gq.f (a0 : Int) : Option (Bool) := if a0 ≥ 1 then (some (decide (a0 ≤ 4))) else (some false)
set_option maxHeartbeats 8000000 in
set_option maxRecDepth 100000 in
theorem gq.calls (a0 : Int) (r : Bool) (w : World) (h : gq.f a0 = some r) :
    Calls Try.prog 98 #[.int .i64 a0] w fun e w' => e = .returned (.bool r) ∧ aY w w' := by
  have H : (if a0 ≥ 1 then (some (decide (a0 ≤ 4))) else (some false)) = some r := h
  clear h
  by_cases c2 : a0 ≥ 1
  · rw [if_pos c2] at H
    have vE : decide (1 ≤ a0) = true := decide_eq_true c2
    clear c2
    obtain rfl := Option.some.inj H
    go_enter Try.func98, Try.ntmps98
    go_wp2
    go_ret
    exact ⟨by first | rfl | (simp; done) | (simp [*]; done), by repeat (first | exact aY.refl _ | apply aY.step)⟩
  · rw [if_neg c2] at H
    have vE : decide (1 ≤ a0) = false := decide_eq_false c2
    clear c2
    obtain rfl := Option.some.inj H
    go_enter Try.func98, Try.ntmps98
    go_wp2
    go_ret
    exact ⟨by first | rfl | (simp; done) | (simp [*]; done), by repeat (first | exact aY.refl _ | apply aY.step)⟩
mutual
def bq.j0 : Nat → Int → ByteArray → Bool → Option (Int × Bool)
  | 0, _, _, _ => none
  | k + 1, x2, x8, x25 => if x25 = true then (some (0, false)) else (bq.l0 k x8 0 x2 0)
def bq.l0 : Nat → ByteArray → Int → Int → Int → Option (Int × Bool)
  | 0, _, _, _, _ => none
  | k + 1, x8, x10, x26, x27 => if x27 < x26 then (if 0 ≤ x27 then (if x27 < (x8.size : Int) then (bq.l0 k x8 (Go.bits .or .i64 (wrap64 (x10 * 256)) (wrap64 (bt x8 x27))) x26 (wrap64 (x27 + 1))) else (none)) else (none)) else (some (x10, true))
end
def bq.f (k : Nat) (a0 : ByteArray) (a1 : Int) (a2 : Int) : Option (Int × Bool) := (eP.f a0 a1 a2).bind fun xS => (if xS.2 = true then ((gq.f a2).bind fun xU => (bq.j0 k a2 xS.1 (!xU))) else (bq.j0 k a2 xS.1 true))
theorem bq.xV : ∀ k, (∀ y0 y1 y2, kL (bq.j0 k y0 y1 y2) (bq.j0 (k + 1) y0 y1 y2)) ∧ (∀ y0 y1 y2 y3, kL (bq.l0 k y0 y1 y2 y3) (bq.l0 (k + 1) y0 y1 y2 y3))
  | 0 => ⟨fun _ _ _ r h => by simp [bq.j0] at h, fun _ _ _ _ r h => by simp [bq.l0] at h⟩
  | k + 1 => by
    obtain ⟨TD, ih1⟩ := bq.xV k
    refine ⟨?_, ?_⟩
    · intro y0 y1 y2
      unfold bq.j0
      repeat' first
      | (with_reducible exact TD _ _ _)
      | (with_reducible exact ih1 _ _ _ _)
      | (with_reducible exact kL.refl _)
      | (with_reducible exact kL.none _)
      | (with_reducible refine kL.ite ?_ ?_)
      | (with_reducible refine kL.bind ?_ (fun _ => ?_))
      | exact TD _ _ _
      | exact ih1 _ _ _ _
      | exact kL.none _
      | refine kL.ite ?_ ?_
      | refine kL.bind ?_ (fun _ => ?_)
    · intro y0 y1 y2 y3
      unfold bq.l0
      repeat' first
      | (with_reducible exact TD _ _ _)
      | (with_reducible exact ih1 _ _ _ _)
      | (with_reducible exact kL.refl _)
      | (with_reducible exact kL.none _)
      | (with_reducible refine kL.ite ?_ ?_)
      | (with_reducible refine kL.bind ?_ (fun _ => ?_))
      | exact TD _ _ _
      | exact ih1 _ _ _ _
      | exact kL.none _
      | refine kL.ite ?_ ?_
      | refine kL.bind ?_ (fun _ => ?_)
theorem bq.mono : ∀ a0 a1 a2 k, kL (bq.f k a0 a1 a2) (bq.f (k + 1) a0 a1 a2) := by
  intro a0 a1 a2 k
  obtain ⟨TD, ih1⟩ := bq.xV k
  unfold bq.f
  repeat' first
      | (with_reducible exact TD _ _ _)
      | (with_reducible exact ih1 _ _ _ _)
      | (with_reducible exact kL.refl _)
      | (with_reducible exact kL.none _)
      | (with_reducible refine kL.ite ?_ ?_)
      | (with_reducible refine kL.bind ?_ (fun _ => ?_))
      | exact TD _ _ _
      | exact ih1 _ _ _ _
      | exact kL.none _
      | refine kL.ite ?_ ?_
      | refine kL.bind ?_ (fun _ => ?_)
set_option maxHeartbeats 8000000 in
set_option maxRecDepth 100000 in
theorem bq.calls (k : Nat) (a0 : ByteArray) (a1 : Int) (a2 : Int) (r1 : Int) (r2 : Bool) (w : World) (h : bq.f k a0 a1 a2 = some (r1, r2)) :
    Calls Try.prog 74 #[.string a0, .int .i64 a1, .int .i64 a2] w fun e w' => e = .returned (.tuple #[.int .i64 r1, .bool r2]) ∧ aY w w' := by
  have H : ((eP.f a0 a1 a2).bind fun xS => (if xS.2 = true then ((gq.f a2).bind fun xU => (bq.j0 k a2 xS.1 (!xU))) else (bq.j0 k a2 xS.1 true))) = some (r1, r2) := h
  clear h
  replace H := zbm H
  obtain ⟨⟨t119, TF⟩, Du, H⟩ := H
  replace H : (if TF = true then ((gq.f a2).bind fun xU => (bq.j0 k a2 t119 (!xU))) else (bq.j0 k a2 t119 true)) = some (r1, r2) := H
  have A4 := aj.mk Du
  clear Du
  have TG := aj.mk H
  clear H
  go_enter Try.func74, Try.ntmps74
  go_upto_region 2 with (first | ((with_reducible refine aQ (f := 97) rfl ?_); refine bP (some 16) rfl rfl Try.func97 (by kernel_rfl) rfl #[.string a0, .int .i64 a1, .int .i64 a2] rfl (by (try simp only [List.map_toArray, List.map_cons, List.map_nil]); first | done | rfl | (simp only [List.length_drop, List.length_take]; rfl) | (simp only [ByteArray.size_append, Int.natCast_add]; rfl) | (rw [B.dO] <;> first | rfl | omega | (simp only [decide_eq_false_iff_not, decide_eq_true_eq, Int.not_lt, Nat.not_lt, gt_iff_lt] at * <;> omega))) ?_; (with_reducible refine (eP.calls a0 a1 a2 t119 TF _ A4.out).mono ?_); rintro e w' ⟨rfl, ⟨nd, rfl⟩⟩; refine ⟨_, rfl, ?_⟩))
  (try simp only [Act.put, List.setIfInBounds_toArray, List.set_cons_zero, List.set_cons_succ])
  go_cut [25] (fun v25 wc => ∃ (kq : Nat) (Gh : Bool), v25 = .bool Gh ∧ aj (bq.j0 kq a2 t119 Gh = some (r1, r2)) ∧ aj (kq ≤ k) ∧ aY w wc)
  case first =>
    have H := TG.out
    clear TG
    by_cases c6 : TF = true
    · subst c6
      have H1 : ((gq.f a2).bind fun xU => (bq.j0 k a2 t119 (!xU))) = some (r1, r2) := by rw [if_pos rfl] at H; exact H
      clear H
      have H := H1
      clear H1
      replace H := zbm H
      obtain ⟨xU, XY, H⟩ := H
      replace H : (bq.j0 k a2 t119 (!xU)) = some (r1, r2) := H
      have A7 := aj.mk XY
      clear XY
      have H' := aj.mk H
      clear H
      go_wp2_with (first | (go_at_call 98; (with_reducible refine (gq.calls a2 xU _ A7.out).mono ?_); rintro e w' ⟨rfl, ⟨nd, rfl⟩⟩))
      go_meet
      case rel => exact ⟨_, (!xU), (by first | rfl | (simp; done) | (simp [*]; done) | (simp [B.aV]; done) | (simp [B.aW]; done)), H', ⟨by first | omega | exact Nat.le_refl _⟩, by repeat (first | exact aY.refl _ | apply aY.step)⟩
    · replace c6 := Bool.eq_false_iff.mpr c6
      subst c6
      have H1 : (bq.j0 k a2 t119 true) = some (r1, r2) := by rw [if_neg (show ¬ (false = true) by decide)] at H; exact H
      clear H
      have H := H1
      clear H1
      have H' := aj.mk H
      clear H
      go_wp2
      go_meet
      case rel => exact ⟨_, (true), (by first | rfl | (simp; done) | (simp [*]; done) | (simp [B.aV]; done) | (simp [B.aW]; done)), H', ⟨by first | omega | exact Nat.le_refl _⟩, by repeat (first | exact aY.refl _ | apply aY.step)⟩
  case rest =>
    clear TG
    try clear p2
    try clear c6
    try clear c7
    obtain ⟨kq, Gh, rfl, HA, XZ, ⟨mc4, rfl⟩⟩ := hcut
    cases kq with
    | zero => exact absurd HA.out (by simp [bq.j0])
    | succ TH =>
      have H := HA.out
      clear HA
      simp only [bq.j0] at H
      by_cases c8 : Gh = true
      · subst c8
        have H1 : (some (0, false)) = some (r1, r2) := by rw [if_pos rfl] at H; exact H
        clear H
        have H := H1
        clear H1
        simp only [Option.some.injEq, Prod.mk.injEq] at H
        obtain ⟨rfl, rfl⟩ := H
        go_wp2
        go_ret2
        exact ⟨by first | rfl | (simp; done) | (simp [*]; done), by repeat (first | exact aY.refl _ | apply aY.step)⟩
      · replace c8 := Bool.eq_false_iff.mpr c8
        subst c8
        have H1 : (bq.l0 TH t119 0 a2 0) = some (r1, r2) := by rw [if_neg (show ¬ (false = true) by decide)] at H; exact H
        clear H
        have H := H1
        clear H1
        have H' := aj.mk H
        clear H
        go_wp2
        go_loopg [10, 27] TH (fun kq v10 v27 w' => ∃ (sV : Int) (l5 : Int), v10 = .int .i64 sV ∧ v27 = .int .i64 l5 ∧ aj (bq.l0 kq t119 sV a2 l5 = some (r1, r2)) ∧ aj (kq ≤ TH) ∧ aY w w')
        case atStart => exact ⟨(0), (0), (by first | rfl | (simp; done) | (simp [*]; done) | (simp [B.aV]; done) | (simp [B.aW]; done)), (by first | rfl | (simp; done) | (simp [*]; done) | (simp [B.aV]; done) | (simp [B.aW]; done)), H', ⟨Nat.le_refl _⟩, by repeat (first | exact aY.refl _ | apply aY.step)⟩
        case round =>
          clear H'
          try clear p2
          try clear c4
          try clear c6
          try clear c7
          try clear c8
          try clear p2
          obtain ⟨sV, l5, rfl, rfl, HA, QB, ⟨m2, rfl⟩⟩ := hrel
          cases gk with
          | zero => exact absurd HA.out (by simp [bq.l0])
          | succ k2 =>
            have H := HA.out
            clear HA
            simp only [bq.l0] at H
            by_cases c9 : l5 < a2
            · rw [if_pos c9] at H
              have sP : decide (l5 < a2) = true := decide_eq_true c9
              clear c9
              by_cases c10 : 0 ≤ l5
              · rw [if_pos c10] at H
                have qE : decide (0 ≤ l5) = true := decide_eq_true c10
                clear c10
                by_cases c11 : l5 < (t119.size : Int)
                · rw [if_pos c11] at H
                  have K8 : decide (l5 < (t119.size : Int)) = true := decide_eq_true c11
                  clear c11
                  have H' := aj.mk H
                  clear H
                  have X0 : 0 ≤ (l5 : Int) := of_decide_eq_true (by first | (with_reducible assumption) | assumption)
                  have X3 : l5 < (t119.size : Int) := of_decide_eq_true (by first | (with_reducible assumption) | assumption)
                  have adA := ny t119 l5
                  replace X0 := eq_true X0
                  replace X3 := eq_true X3
                  go_wp2
                  go_roundg k2
                  case measure => have := XZ.out; have := QB.out; omega
                  case rel => exact ⟨(Go.bits .or .i64 (wrap64 (sV * 256)) (wrap64 (bt t119 l5))), (wrap64 (l5 + 1)), (by first | rfl | (simp; done) | (simp [*]; done) | (simp [B.aV]; done) | (simp [B.aW]; done)), (by first | rfl | (simp; done) | (simp [*]; done) | (simp [B.aV]; done) | (simp [B.aW]; done)), H', ⟨by have := XZ.out; have := QB.out; omega⟩, by repeat (first | exact aY.refl _ | apply aY.step)⟩
                · rw [if_neg c11] at H
                  exact absurd H (by simp)
              · rw [if_neg c10] at H
                exact absurd H (by simp)
            · rw [if_neg c9] at H
              have sP : decide (l5 < a2) = false := decide_eq_false c9
              clear c9
              simp only [Option.some.injEq, Prod.mk.injEq] at H
              obtain ⟨rfl, rfl⟩ := H
              go_wp2
              go_ret2
              exact ⟨by first | rfl | (simp; done) | (simp [*]; done), by repeat (first | exact aY.refl _ | apply aY.step)⟩
end Go.Proofs.Ytdkkgecdhapfhaa.ZQ
namespace Go.Proofs.Ytdkkgecdhapfhaa.ZQ
open Go.RowKit Go.Proofs.YtdkkgecdhapfhaaW.bD Go.Proofs.YtdkkgecdhapfhaaW.dV Go.Proofs.YtdkkgecdhapfhaaW.eF Go.Proofs.Ytdkkgecdhapfhaa.B
def X4 : Nat → Int → List Int
  | 0, _ => []
  | s + 1, n => n / 256 ^ s % 256 :: X4 s n
def Li (n size : Int) : Prop := 1 ≤ size ∧ size ≤ 4 ∧ 0 ≤ n ∧ n < 256 ^ size.toNat
instance (n size : Int) : Decidable (Li n size) := by unfold Li; infer_instance
def adB (n size : Int) : ByteArray := if Li n size then strOfNums (X4 size.toNat n) else ⟨#[]⟩
def gQ (s : ByteArray) (i n : Int) : Prop := 0 ≤ i ∧ 0 ≤ n ∧ i + n ≤ (s.size : Int)
instance (s : ByteArray) (i n : Int) : Decidable (gQ s i n) := by unfold gQ; infer_instance
def iq : Nat → ByteArray → Int → Int
  | 0, _, _ => 0
  | k + 1, s, i => iq k s i * 256 + bt s (i + k)
def j4 (s : ByteArray) (i n : Int) : Prop := 0 ≤ i ∧ 1 ≤ n ∧ n ≤ 4 ∧ i + n ≤ (s.size : Int)
instance (s : ByteArray) (i n : Int) : Decidable (j4 s i n) := by unfold j4; infer_instance
theorem sW (s : ByteArray) (i n : Int) (hs : s.size ≤ 9223372036854775807) :
    eP.f s i n = some (if gQ s i n then (s.extract i.toNat (i + n).toNat, true) else (⟨#[]⟩, false)) := by
  unfold eP.f gQ
  rw [if_pos (by omega)]
  split <;> rename_i h <;> simp [h]
theorem kM (x b : Int) (hx0 : 0 ≤ x) (hx : x < 16777216) (hb0 : 0 ≤ b) (hb : b ≤ 255) : Go.bits .or .i64 (wrap64 (x * 256)) (wrap64 b) = x * 256 + b := by
  rw [dO (by omega) (by omega), dO (by omega) (by omega)]
  refine Go.bits_join .i64 62 (by decide) ?_ 8 (x * 256) b (by omega) (by omega) (by omega) hb0 (by omega) (by omega)
  intro n h0 h1
  rw [IntKind.wrap_i64]
  omega
theorem get_eq (k : Nat) (hk : 9 ≤ k) (s : ByteArray) (i n : Int) (hs : s.size ≤ 9223372036854775807) :
    bq.f k s i n = some (if j4 s i n then (iq n.toNat s i, true) else (0, false)) := by
  refine uq (fun k => bq.mono s i n k) hk ?_
  unfold bq.f
  rw [sW s i n hs]
  by_cases ht : gQ s i n
  · rw [if_pos ht]
    simp only [Option.bind_some, if_true]
    obtain ⟨h0, h1, h2⟩ := ht
    by_cases hz : 1 ≤ n ∧ n ≤ 4
    · have hf : gq.f n = some true := by unfold gq.f; rw [if_pos (by omega)]; simp; omega
      rw [if_pos (show j4 s i n from ⟨h0, hz.1, hz.2, h2⟩), hf]
      have hz' := size_ext h0 h1 h2
      have hb : ∀ j, 0 ≤ j → j < n → bt (s.extract i.toNat (i + n).toNat) j = bt s (i + j) := fun j a b => KW h0 a b h2
      have e0 := hb 0
      have e1 := hb 1
      have e2 := hb 2
      have e3 := hb 3
      have r0 := fZ s (i + 0)
      have r1 := fZ s (i + 1)
      have r2 := fZ s (i + 2)
      have r3 := fZ s (i + 3)
      generalize s.extract i.toNat (i + n).toNat = t at *
      clear hb
      obtain ⟨hz1, hz4⟩ := hz
      have hn : n = 1 ∨ n = 2 ∨ n = 3 ∨ n = 4 := by omega
      have y0 : wrap64 (0 + 1) = 1 := dO (by omega) (by omega)
      have y1 : wrap64 (1 + 1) = 2 := dO (by omega) (by omega)
      have y2 : wrap64 (2 + 1) = 3 := dO (by omega) (by omega)
      have y3 : wrap64 (3 + 1) = 4 := dO (by omega) (by omega)
      rcases hn with rfl | rfl | rfl | rfl
      · have o0 := kM 0 (bt s (i + 0)) (by omega) (by omega) r0.1 r0.2
        simp only [bq.j0, bq.l0, Option.bind_some, Bool.not_true, Bool.false_eq_true, if_false, hz', e0 (by omega) (by omega), o0, y0]
        simp [iq]
      · have o0 := kM 0 (bt s (i + 0)) (by omega) (by omega) r0.1 r0.2
        have o1 := kM (0 * 256 + bt s (i + 0)) (bt s (i + 1)) (by omega) (by omega) r1.1 r1.2
        simp only [bq.j0, bq.l0, Option.bind_some, Bool.not_true, Bool.false_eq_true, if_false, hz', e0 (by omega) (by omega), e1 (by omega) (by omega), o0, o1, y0, y1]
        simp [iq]
      · have o0 := kM 0 (bt s (i + 0)) (by omega) (by omega) r0.1 r0.2
        have o1 := kM (0 * 256 + bt s (i + 0)) (bt s (i + 1)) (by omega) (by omega) r1.1 r1.2
        have o2 := kM ((0 * 256 + bt s (i + 0)) * 256 + bt s (i + 1)) (bt s (i + 2)) (by omega) (by omega) r2.1 r2.2
        simp only [bq.j0, bq.l0, Option.bind_some, Bool.not_true, Bool.false_eq_true, if_false, hz', e0 (by omega) (by omega), e1 (by omega) (by omega), e2 (by omega) (by omega), o0, o1, o2, y0, y1, y2]
        simp [iq]
      · have o0 := kM 0 (bt s (i + 0)) (by omega) (by omega) r0.1 r0.2
        have o1 := kM (0 * 256 + bt s (i + 0)) (bt s (i + 1)) (by omega) (by omega) r1.1 r1.2
        have o2 := kM ((0 * 256 + bt s (i + 0)) * 256 + bt s (i + 1)) (bt s (i + 2)) (by omega) (by omega) r2.1 r2.2
        have o3 := kM (((0 * 256 + bt s (i + 0)) * 256 + bt s (i + 1)) * 256 + bt s (i + 2)) (bt s (i + 3)) (by omega) (by omega) r3.1 r3.2
        simp only [bq.j0, bq.l0, Option.bind_some, Bool.not_true, Bool.false_eq_true, if_false, hz', e0 (by omega) (by omega), e1 (by omega) (by omega), e2 (by omega) (by omega), e3 (by omega) (by omega), o0, o1, o2, o3, y0, y1, y2, y3]
        simp [iq]
    · have hf : gq.f n = some false := by
        unfold gq.f
        by_cases h2 : 1 ≤ n
        · rw [if_pos (by omega)]; simp; omega
        · rw [if_neg (by omega)]
      rw [if_neg (show ¬ j4 s i n from fun h => hz ⟨h.2.1, h.2.2.1⟩), hf]
      simp [bq.j0]
  · rw [if_neg ht, if_neg (show ¬ j4 s i n from fun h => ht ⟨h.1, by have := h.2.1; omega, h.2.2.2⟩)]
    simp [bq.j0]
theorem Dy (s : ByteArray) (i : Int) : iq 1 s i = bt s i := by simp [iq]
theorem ET (k : Nat) (s t : ByteArray) (i j : Int) (h : ∀ m : Nat, m < k → bt s (i + m) = bt t (j + m)) : iq k s i = iq k t j := by
  induction k with
  | zero => rfl
  | succ k ih => simp only [iq]; rw [ih fun m hm => h m (by omega), h k (by omega)]
theorem qV (k : Nat) (s : ByteArray) (i : Int) : 0 ≤ iq k s i ∧ iq k s i < 256 ^ k := by
  induction k with
  | zero => simp [iq]
  | succ k ih =>
    have := fZ s (i + k)
    simp only [iq]
    rw [Int.pow_succ]
    omega
end Go.Proofs.Ytdkkgecdhapfhaa.ZQ
namespace Go.Proofs.Ytdkkgecdhapfhaa.ZQ
open Go.RowKit Go.Proofs.YtdkkgecdhapfhaaW.bD Go.Proofs.YtdkkgecdhapfhaaW.dV Go.Proofs.YtdkkgecdhapfhaaW.eF
attribute [local go_sem] jh ji jZ j3 iC iD jk jl
def bC.f (a0 : ByteArray) (a1 : Int) (a2 : Int) : Option (ByteArray × Bool) := if a1 < 0 then (some ((⟨#[]⟩ : ByteArray), false)) else (if a2 < 0 then (some ((⟨#[]⟩ : ByteArray), false)) else (if a1 > (a0.size : Int) then (some ((⟨#[]⟩ : ByteArray), false)) else (if a2 > (wrap64 ((a0.size : Int) - a1)) then (some ((⟨#[]⟩ : ByteArray), false)) else (if 0 ≤ a1 then (if a1 ≤ (wrap64 (a1 + a2)) then (if (wrap64 (a1 + a2)) ≤ (a0.size : Int) then (some (a0.extract (a1 : Int).toNat ((wrap64 (a1 + a2)) : Int).toNat, true)) else (none)) else (none)) else (none)))))
set_option maxHeartbeats 8000000 in
set_option maxRecDepth 100000 in
theorem bC.calls (a0 : ByteArray) (a1 : Int) (a2 : Int) (r1 : ByteArray) (r2 : Bool) (w : World) (h : bC.f a0 a1 a2 = some (r1, r2)) :
    Calls Try.prog 99 #[.string a0, .int .i64 a1, .int .i64 a2] w fun e w' => e = .returned (.tuple #[.string r1, .bool r2]) ∧ aY w w' := by
  have H : (if a1 < 0 then (some ((⟨#[]⟩ : ByteArray), false)) else (if a2 < 0 then (some ((⟨#[]⟩ : ByteArray), false)) else (if a1 > (a0.size : Int) then (some ((⟨#[]⟩ : ByteArray), false)) else (if a2 > (wrap64 ((a0.size : Int) - a1)) then (some ((⟨#[]⟩ : ByteArray), false)) else (if 0 ≤ a1 then (if a1 ≤ (wrap64 (a1 + a2)) then (if (wrap64 (a1 + a2)) ≤ (a0.size : Int) then (some (a0.extract (a1 : Int).toNat ((wrap64 (a1 + a2)) : Int).toNat, true)) else (none)) else (none)) else (none)))))) = some (r1, r2) := h
  clear h
  by_cases c4 : a1 < 0
  · rw [if_pos c4] at H
    have qj : decide (a1 < 0) = true := decide_eq_true c4
    clear c4
    simp only [Option.some.injEq, Prod.mk.injEq] at H
    obtain ⟨rfl, rfl⟩ := H
    go_enter Try.func99, Try.ntmps99
    go_wp2
    go_ret2
    exact ⟨by first | rfl | (simp; done) | (simp [*]; done), by repeat (first | exact aY.refl _ | apply aY.step)⟩
  · rw [if_neg c4] at H
    have qj : decide (a1 < 0) = false := decide_eq_false c4
    clear c4
    by_cases c5 : a2 < 0
    · rw [if_pos c5] at H
      have oM : decide (a2 < 0) = true := decide_eq_true c5
      clear c5
      simp only [Option.some.injEq, Prod.mk.injEq] at H
      obtain ⟨rfl, rfl⟩ := H
      go_enter Try.func99, Try.ntmps99
      go_wp2
      go_ret2
      exact ⟨by first | rfl | (simp; done) | (simp [*]; done), by repeat (first | exact aY.refl _ | apply aY.step)⟩
    · rw [if_neg c5] at H
      have oM : decide (a2 < 0) = false := decide_eq_false c5
      clear c5
      by_cases c6 : a1 > (a0.size : Int)
      · rw [if_pos c6] at H
        have yU : decide ((a0.size : Int) < a1) = true := decide_eq_true c6
        clear c6
        simp only [Option.some.injEq, Prod.mk.injEq] at H
        obtain ⟨rfl, rfl⟩ := H
        go_enter Try.func99, Try.ntmps99
        go_wp2
        go_ret2
        exact ⟨by first | rfl | (simp; done) | (simp [*]; done), by repeat (first | exact aY.refl _ | apply aY.step)⟩
      · rw [if_neg c6] at H
        have yU : decide ((a0.size : Int) < a1) = false := decide_eq_false c6
        clear c6
        by_cases c7 : a2 > (wrap64 ((a0.size : Int) - a1))
        · rw [if_pos c7] at H
          have sZ : decide ((wrap64 ((a0.size : Int) - a1)) < a2) = true := decide_eq_true c7
          (try (have Iq : decide ((((a0.size : Int) - a1)) < a2) = true := by have h_ : decide ((wrap64 ((a0.size : Int) - a1)) < a2) = true := decide_eq_true c7; rw [B.dO (by omega) (by omega)] at h_; exact h_))
          clear c7
          simp only [Option.some.injEq, Prod.mk.injEq] at H
          obtain ⟨rfl, rfl⟩ := H
          go_enter Try.func99, Try.ntmps99
          go_wp2
          go_ret2
          exact ⟨by first | rfl | (simp; done) | (simp [*]; done), by repeat (first | exact aY.refl _ | apply aY.step)⟩
        · rw [if_neg c7] at H
          have sZ : decide ((wrap64 ((a0.size : Int) - a1)) < a2) = false := decide_eq_false c7
          (try (have Iq : decide ((((a0.size : Int) - a1)) < a2) = false := by have h_ : decide ((wrap64 ((a0.size : Int) - a1)) < a2) = false := decide_eq_false c7; rw [B.dO (by omega) (by omega)] at h_; exact h_))
          clear c7
          by_cases c8 : 0 ≤ a1
          · rw [if_pos c8] at H
            have qR := eq_true c8
            have qU : decide (0 ≤ a1) = true := decide_eq_true c8
            clear c8
            by_cases c9 : a1 ≤ (wrap64 (a1 + a2))
            · rw [if_pos c9] at H
              have sP := eq_true c9
              have Dt : decide (a1 ≤ (wrap64 (a1 + a2))) = true := decide_eq_true c9
              by_cases c10 : (wrap64 (a1 + a2)) ≤ (a0.size : Int)
              · rw [if_pos c10] at H
                have qE := eq_true c10
                have zL : decide ((wrap64 (a1 + a2)) ≤ (a0.size : Int)) = true := decide_eq_true c10
                simp only [Option.some.injEq, Prod.mk.injEq] at H
                obtain ⟨rfl, rfl⟩ := H
                go_enter Try.func99, Try.ntmps99
                go_wp2
                go_ret2
                exact ⟨by first | rfl | (simp; done) | (simp [*]; done), by repeat (first | exact aY.refl _ | apply aY.step)⟩
              · rw [if_neg c10] at H
                exact absurd H (by simp)
            · rw [if_neg c9] at H
              exact absurd H (by simp)
          · rw [if_neg c8] at H
            exact absurd H (by simp)
mutual
def av.j0 : Nat → Int → ByteArray → Bool → Option (Int × Bool)
  | 0, _, _, _ => none
  | k + 1, x2, x8, x28 => if x28 = true then (some (0, false)) else (av.l0 k x2 x8 0 0)
def av.l0 : Nat → Int → ByteArray → Int → Int → Option (Int × Bool)
  | 0, _, _, _, _ => none
  | k + 1, x2, x8, x10, X5 => if X5 < x2 then (if 0 ≤ X5 then (if X5 < (x8.size : Int) then (av.l0 k x2 x8 (wrap64 ((wrap64 (256 * x10)) + (wrap64 (bt x8 X5)))) (wrap64 (X5 + 1))) else (none)) else (none)) else (some (x10, true))
end
def av.f (k : Nat) (a0 : ByteArray) (a1 : Int) (a2 : Int) : Option (Int × Bool) := (bC.f a0 a1 a2).bind fun tq => (if tq.2 = true then (if a2 < 1 then (av.j0 k a2 tq.1 true) else (av.j0 k a2 tq.1 (decide (a2 > 4)))) else (av.j0 k a2 tq.1 true))
set_option maxHeartbeats 8000000 in
set_option maxRecDepth 100000 in
theorem av.calls (k : Nat) (a0 : ByteArray) (a1 : Int) (a2 : Int) (r1 : Int) (r2 : Bool) (w : World) (h : av.f k a0 a1 a2 = some (r1, r2)) :
    Calls Try.prog 75 #[.string a0, .int .i64 a1, .int .i64 a2] w fun e w' => e = .returned (.tuple #[.int .i64 r1, .bool r2]) ∧ aY w w' := by
  have H : ((bC.f a0 a1 a2).bind fun tq => (if tq.2 = true then (if a2 < 1 then (av.j0 k a2 tq.1 true) else (av.j0 k a2 tq.1 (decide (a2 > 4)))) else (av.j0 k a2 tq.1 true))) = some (r1, r2) := h
  clear h
  replace H := zbm H
  obtain ⟨⟨qW, TI⟩, Du, H⟩ := H
  replace H : (if TI = true then (if a2 < 1 then (av.j0 k a2 qW true) else (av.j0 k a2 qW (decide (a2 > 4)))) else (av.j0 k a2 qW true)) = some (r1, r2) := H
  have A4 := aj.mk Du
  clear Du
  have TG := aj.mk H
  clear H
  go_enter Try.func75, Try.ntmps75
  go_upto_region 2 with (first | ((with_reducible refine aQ (f := 99) rfl ?_); refine bP (some 16) rfl rfl Try.func99 (by kernel_rfl) rfl #[.string a0, .int .i64 a1, .int .i64 a2] rfl (by (try simp only [List.map_toArray, List.map_cons, List.map_nil]); first | done | rfl | (simp only [List.length_drop, List.length_take]; rfl) | (simp only [ByteArray.size_append, Int.natCast_add]; rfl) | (rw [B.dO] <;> first | rfl | omega | (simp only [decide_eq_false_iff_not, decide_eq_true_eq, Int.not_lt, Nat.not_lt, gt_iff_lt] at * <;> omega))) ?_; (with_reducible refine (bC.calls a0 a1 a2 qW TI _ A4.out).mono ?_); rintro e w' ⟨rfl, ⟨nd, rfl⟩⟩; refine ⟨_, rfl, ?_⟩))
  (try simp only [Act.put, List.setIfInBounds_toArray, List.set_cons_zero, List.set_cons_succ])
  go_cut [28] (fun v28 wc => ∃ (kq : Nat) (Gi : Bool), v28 = .bool Gi ∧ aj (av.j0 kq a2 qW Gi = some (r1, r2)) ∧ aj (kq ≤ k) ∧ aY w wc)
  case first =>
    have H := TG.out
    clear TG
    by_cases c6 : TI = true
    · subst c6
      have H1 : (if a2 < 1 then (av.j0 k a2 qW true) else (av.j0 k a2 qW (decide (a2 > 4)))) = some (r1, r2) := by rw [if_pos rfl] at H; exact H
      clear H
      have H := H1
      clear H1
      by_cases c7 : a2 < 1
      · rw [if_pos c7] at H
        have sZ : decide (a2 < 1) = true := decide_eq_true c7
        clear c7
        (first | rw [sZ] | rw [NY] | (simp only [gN, ig]; rw [sZ]) | skip)
        have H' := aj.mk H
        clear H
        go_wp2
        go_meet
        case rel => exact ⟨_, (true), (by first | rfl | (simp; done) | (simp [*]; done) | (simp [B.aV]; done) | (simp [B.aW]; done)), H', ⟨by first | omega | exact Nat.le_refl _⟩, by repeat (first | exact aY.refl _ | apply aY.step)⟩
      · rw [if_neg c7] at H
        have sZ : decide (a2 < 1) = false := decide_eq_false c7
        clear c7
        (first | rw [sZ] | rw [NY] | (simp only [gN, ig]; rw [sZ]) | skip)
        have H' := aj.mk H
        clear H
        go_wp2
        go_meet
        case rel => exact ⟨_, (decide (a2 > 4)), (by first | rfl | (simp; done) | (simp [*]; done) | (simp [B.aV]; done) | (simp [B.aW]; done)), H', ⟨by first | omega | exact Nat.le_refl _⟩, by repeat (first | exact aY.refl _ | apply aY.step)⟩
    · replace c6 := Bool.eq_false_iff.mpr c6
      subst c6
      have H1 : (av.j0 k a2 qW true) = some (r1, r2) := by rw [if_neg (show ¬ (false = true) by decide)] at H; exact H
      clear H
      have H := H1
      clear H1
      have H' := aj.mk H
      clear H
      go_wp2
      go_meet
      case rel => exact ⟨_, (true), (by first | rfl | (simp; done) | (simp [*]; done) | (simp [B.aV]; done) | (simp [B.aW]; done)), H', ⟨by first | omega | exact Nat.le_refl _⟩, by repeat (first | exact aY.refl _ | apply aY.step)⟩
  case rest =>
    clear TG
    try clear p2
    try clear c6
    try clear c7
    try clear sZ
    try clear NY
    obtain ⟨kq, Gi, rfl, HA, XZ, ⟨mc4, rfl⟩⟩ := hcut
    cases kq with
    | zero => exact absurd HA.out (by simp [av.j0])
    | succ TH =>
      have H := HA.out
      clear HA
      simp only [av.j0] at H
      by_cases c8 : Gi = true
      · subst c8
        have H1 : (some (0, false)) = some (r1, r2) := by rw [if_pos rfl] at H; exact H
        clear H
        have H := H1
        clear H1
        simp only [Option.some.injEq, Prod.mk.injEq] at H
        obtain ⟨rfl, rfl⟩ := H
        go_wp2
        go_ret2
        exact ⟨by first | rfl | (simp; done) | (simp [*]; done), by repeat (first | exact aY.refl _ | apply aY.step)⟩
      · replace c8 := Bool.eq_false_iff.mpr c8
        subst c8
        have H1 : (av.l0 TH a2 qW 0 0) = some (r1, r2) := by rw [if_neg (show ¬ (false = true) by decide)] at H; exact H
        clear H
        have H := H1
        clear H1
        have H' := aj.mk H
        clear H
        go_wp2
        go_loopg [10, 11] TH (fun kq v10 v11 w' => ∃ (sV : Int) (l6 : Int), v10 = .int .i64 sV ∧ v11 = .int .i64 l6 ∧ aj (av.l0 kq a2 qW sV l6 = some (r1, r2)) ∧ aj (kq ≤ TH) ∧ aY w w')
        case atStart => exact ⟨(0), (0), (by first | rfl | (simp; done) | (simp [*]; done) | (simp [B.aV]; done) | (simp [B.aW]; done)), (by first | rfl | (simp; done) | (simp [*]; done) | (simp [B.aV]; done) | (simp [B.aW]; done)), H', ⟨Nat.le_refl _⟩, by repeat (first | exact aY.refl _ | apply aY.step)⟩
        case round =>
          clear H'
          try clear p2
          try clear c4
          try clear c6
          try clear c7
          try clear sZ
          try clear NY
          try clear c8
          try clear p2
          obtain ⟨sV, l6, rfl, rfl, HA, QB, ⟨m2, rfl⟩⟩ := hrel
          cases gk with
          | zero => exact absurd HA.out (by simp [av.l0])
          | succ k2 =>
            have H := HA.out
            clear HA
            simp only [av.l0] at H
            by_cases c9 : l6 < a2
            · rw [if_pos c9] at H
              have sP : decide (l6 < a2) = true := decide_eq_true c9
              clear c9
              by_cases c10 : 0 ≤ l6
              · rw [if_pos c10] at H
                have qE : decide (0 ≤ l6) = true := decide_eq_true c10
                clear c10
                by_cases c11 : l6 < (qW.size : Int)
                · rw [if_pos c11] at H
                  have K8 : decide (l6 < (qW.size : Int)) = true := decide_eq_true c11
                  clear c11
                  have H' := aj.mk H
                  clear H
                  have X0 : 0 ≤ (l6 : Int) := of_decide_eq_true (by first | (with_reducible assumption) | assumption)
                  have X3 : l6 < (qW.size : Int) := of_decide_eq_true (by first | (with_reducible assumption) | assumption)
                  have adA := ny qW l6
                  replace X0 := eq_true X0
                  replace X3 := eq_true X3
                  go_wp2
                  go_roundg k2
                  case measure => have := XZ.out; have := QB.out; omega
                  case rel => exact ⟨(wrap64 ((wrap64 (256 * sV)) + (wrap64 (bt qW l6)))), (wrap64 (l6 + 1)), (by first | rfl | (simp; done) | (simp [*]; done) | (simp [B.aV]; done) | (simp [B.aW]; done)), (by first | rfl | (simp; done) | (simp [*]; done) | (simp [B.aV]; done) | (simp [B.aW]; done)), H', ⟨by have := XZ.out; have := QB.out; omega⟩, by repeat (first | exact aY.refl _ | apply aY.step)⟩
                · rw [if_neg c11] at H
                  exact absurd H (by simp)
              · rw [if_neg c10] at H
                exact absurd H (by simp)
            · rw [if_neg c9] at H
              have sP : decide (l6 < a2) = false := decide_eq_false c9
              clear c9
              simp only [Option.some.injEq, Prod.mk.injEq] at H
              obtain ⟨rfl, rfl⟩ := H
              go_wp2
              go_ret2
              exact ⟨by first | rfl | (simp; done) | (simp [*]; done), by repeat (first | exact aY.refl _ | apply aY.step)⟩
end Go.Proofs.Ytdkkgecdhapfhaa.ZQ
namespace Go.Proofs.Ytdkkgecdhapfhaa.ZQ
open Go.RowKit Go.Proofs.YtdkkgecdhapfhaaW.bD Go.Proofs.YtdkkgecdhapfhaaW.dV Go.Proofs.YtdkkgecdhapfhaaW.eF Go.Proofs.Ytdkkgecdhapfhaa.B
theorem oN (s : ByteArray) (i n : Int) (hs : s.size ≤ 1000000) :
    bC.f s i n = some (if gQ s i n then (s.extract i.toNat (i + n).toNat, true) else (⟨#[]⟩, false)) := by
  have u : gQ s i n = (0 ≤ i ∧ 0 ≤ n ∧ i + n ≤ (s.size : Int)) := rfl
  unfold bC.f
  by_cases h0 : i < 0
  · rw [if_pos h0, if_neg (by rw [u]; omega)]
  · by_cases h1 : n < 0
    · rw [if_neg h0, if_pos h1, if_neg (by rw [u]; omega)]
    · by_cases h2 : i > (s.size : Int)
      · rw [if_neg h0, if_neg h1, if_pos h2, if_neg (by rw [u]; omega)]
      · rw [if_neg h0, if_neg h1, if_neg h2]
        have e1 : wrap64 ((s.size : Int) - i) = s.size - i := dO (by omega) (by omega)
        rw [e1]
        by_cases h3 : n > (s.size : Int) - i
        · rw [if_pos h3, if_neg (by rw [u]; omega)]
        · have e2 : wrap64 (i + n) = i + n := dO (by omega) (by omega)
          rw [if_neg h3, e2, if_pos (by omega), if_pos (by omega), if_pos (by omega), if_pos (by rw [u]; omega)]
theorem EU (n : Nat) (hn : n ≤ 4) (t : ByteArray) (ht : t.size = n) (d : Nat) : ∀ k j, n - j = d → j ≤ n → d < k →
    av.l0 k n t (iq j t 0) j = some (iq n t 0, true) := by
  induction d with
  | zero =>
    intro k j hd hj hk
    obtain rfl : j = n := by omega
    obtain ⟨k, rfl⟩ : ∃ m, k = m + 1 := ⟨k - 1, by omega⟩
    rw [av.l0, if_neg (by omega)]
  | succ d ih =>
    intro k j hd hj hk
    obtain ⟨k, rfl⟩ : ∃ m, k = m + 1 := ⟨k - 1, by omega⟩
    have hr := qV j t 0
    have hp : (256 : Int) ^ j ≤ 16777216 := by
      have : j = 0 ∨ j = 1 ∨ j = 2 ∨ j = 3 := by omega
      rcases this with rfl | rfl | rfl | rfl <;> simp
    have hb := fZ t j
    rw [av.l0, if_pos (by omega), if_pos (by omega), if_pos (by omega), dO (n := bt t j) (by omega) (by omega), dO (n := 256 * iq j t 0) (by omega) (by omega), dO (n := 256 * iq j t 0 + bt t j) (by omega) (by omega), dO (n := (j : Int) + 1) (by omega) (by omega)]
    have e : 256 * iq j t 0 + bt t j = iq (j + 1) t 0 := by
      simp only [iq]
      rw [show (0 : Int) + (j : Int) = j from by omega]
      omega
    rw [e, show ((j : Int) + 1) = ((j + 1 : Nat) : Int) from by omega]
    exact ih k (j + 1) (by omega) (by omega) (by omega)
theorem xW (k : Nat) (hk : 9 ≤ k) (s : ByteArray) (i n : Int) (hs : s.size ≤ 1000000) :
    av.f k s i n = some (if j4 s i n then (iq n.toNat s i, true) else (0, false)) := by
  obtain ⟨k, rfl⟩ : ∃ m, k = m + 1 := ⟨k - 1, by omega⟩
  unfold av.f
  rw [oN s i n hs]
  simp only [Option.bind_some]
  by_cases ht : gQ s i n
  · simp only [if_pos ht, if_true]
    obtain ⟨h0, h1, h2⟩ := ht
    by_cases c1 : n < 1
    · rw [if_pos c1, av.j0, if_pos rfl, if_neg (fun h => by have := h.2.1; omega)]
    · rw [if_neg c1]
      by_cases c2 : n > 4
      · rw [decide_eq_true c2, av.j0, if_pos rfl, if_neg (fun h => by have := h.2.2.1; omega)]
      · rw [decide_eq_false c2, av.j0, if_neg Bool.false_ne_true, if_pos ⟨h0, by omega, by omega, h2⟩]
        have hz := size_ext h0 h1 h2
        have e : ((n.toNat : Nat) : Int) = n := by omega
        have := EU n.toNat (by omega) (s.extract i.toNat (i + n).toNat) (by omega) n.toNat k 0 (by omega) (by omega) (by omega)
        rw [e] at this
        rw [show (0 : Int) = ((0 : Nat) : Int) from rfl]
        refine Eq.trans this ?_
        congr 2
        refine ET _ _ _ _ _ fun m hm => ?_
        rw [show (0 : Int) + (m : Int) = m from by omega, KW h0 (by omega) (by omega) h2]
  · simp only [if_neg ht, Bool.false_eq_true, if_false]
    rw [av.j0, if_pos rfl, if_neg (fun h => ht ⟨h.1, by have := h.2.1; omega, h.2.2.2⟩)]
end Go.Proofs.Ytdkkgecdhapfhaa.ZQ
namespace Go.Proofs.Ytdkkgecdhapfhaa.B
open Go.RowKit Go.Proofs.YtdkkgecdhapfhaaW.bD
structure uD (T e : TypeId) (B b o : Nat) (cs : Array Value) (p v : Value) (bs : List Value) (w : World) : Prop where
  base : B ≤ b
  blk : w.heap[b]? = some (.cells cs T (0, 0))
  p_ : cs[o]? = some p
  v_ : cs[o + 1]? = some v
  self : p = .pointer none ∨ p = .pointer (some ⟨b, o, none⟩)
  own : w.ownsRow B e 1 v bs.length bs
  ne : v.ownBlock ≠ some b
theorem uD.lt {T e : TypeId} {B b o : Nat} {cs : Array Value} {p v : Value} {bs : List Value} {w : World} (h : uD T e B b o cs p v bs w) : b < w.heap.size := by
  rcases Nat.lt_or_ge b w.heap.size with h' | h'
  · exact h'
  · have := h.blk; rw [Array.getElem?_eq_none h'] at this; cases this
theorem heap_set {w : World} {b o : Nat} {cs : Array Value} {T : TypeId} {fr : Nat × Nat} (h : w.heap[b]? = some (.cells cs T fr)) (x : Value) : (w.setCell ⟨b, o, none⟩ x).heap[b]? = some (.cells (cs.setIfInBounds o x) T fr) := by
  simp [World.setCell, Array.getElem?_modify, h]
theorem Bh {w : World} {B b o : Nat} {e : TypeId} {n k : Nat} {v x : Value} {xs : List Value} (h : w.ownsRow B e n v k xs) (hne : v.ownBlock ≠ some b) : (w.setCell ⟨b, o, none⟩ x).ownsRow B e n v k xs :=
  h.kept (row := some b) ⟨rfl, rfl, rfl, by simp [World.setCell], fun k _ hk => Below.heap_setCell _ _ _ _ (fun e => hk (by simp [e]))⟩ (Or.inr hne)
theorem uD.used {T e : TypeId} {B b o : Nat} {cs : Array Value} {p v : Value} {bs : List Value} {w : World} (h : uD T e B b o cs p v bs w) :
    uD T e B b o (cs.setIfInBounds o (.pointer (some ⟨b, o, none⟩))) (.pointer (some ⟨b, o, none⟩)) v bs (w.setCell ⟨b, o, none⟩ (.pointer (some ⟨b, o, none⟩))) := by
  have ho : o < cs.size := by
    rcases Nat.lt_or_ge o cs.size with h' | h'
    · exact h'
    · have := h.p_; rw [Array.getElem?_eq_none h'] at this; cases this
  exact ⟨h.base, heap_set h.blk _, by simp [ho], by simpa [Array.getElem?_setIfInBounds] using h.v_, .inr rfl, Bh h.own h.ne, h.ne⟩
theorem uD.Ir {T e : TypeId} {B b o : Nat} {cs : Array Value} {v : Value} {bs : List Value} {w : World} (h : uD T e B b o cs (.pointer (some ⟨b, o, none⟩)) v bs w) :
    cs.setIfInBounds o (.pointer (some ⟨b, o, none⟩)) = cs := by
  apply Array.ext_getElem?
  intro i
  rw [Array.getElem?_setIfInBounds]
  by_cases e : o = i
  · subst e
    have := h.p_
    rw [if_pos rfl]
    split
    · exact this.symm
    · rename_i hn; rw [Array.getElem?_eq_none (by omega)] at this; cases this
  · rw [if_neg e]
theorem uD.put {T e : TypeId} {B b o : Nat} {cs : Array Value} {p v v' : Value} {bs bs' : List Value} {w w' : World} (h : uD T e B b o cs p v bs w) (hb : w'.heap[b]? = some (.cells cs T (0, 0))) (hown : w'.ownsRow B e 1 v' bs'.length bs') (hTe : T ≠ e) :
    uD T e B b o (cs.setIfInBounds (o + 1) v') p v' bs' (w'.setCell ⟨b, o + 1, none⟩ v') := by
  have hne := Lib.ownBlock_ne hown hb hTe
  have ho : o + 1 < cs.size := by
    rcases Nat.lt_or_ge (o + 1) cs.size with h' | h'
    · exact h'
    · have := h.v_; rw [Array.getElem?_eq_none h'] at this; cases this
  exact ⟨h.base, heap_set hb _, by simpa [Array.getElem?_setIfInBounds] using h.p_, by simp [ho], h.self, Bh hown hne, hne⟩
theorem uD.set {T e : TypeId} {B b o : Nat} {cs : Array Value} {p v : Value} {bs : List Value} {w : World} (h : uD T e B b o cs p v bs w) (i : Nat) (x : Value) (h1 : i ≠ o) (h2 : i ≠ o + 1) :
    uD T e B b o (cs.setIfInBounds i x) p v bs (w.setCell ⟨b, i, none⟩ x) :=
  ⟨h.base, heap_set h.blk _, by rw [Array.getElem?_setIfInBounds, if_neg h1]; exact h.p_, by rw [Array.getElem?_setIfInBounds, if_neg h2]; exact h.v_, h.self, Bh h.own h.ne, h.ne⟩
theorem uD.drewN {T e : TypeId} {B b o : Nat} {cs : Array Value} {p v : Value} {bs : List Value} {w : World} (h : uD T e B b o cs p v bs w) (n : Nat) : uD T e B b o cs p v bs (w.drewN n) := ⟨h.base, h.blk, h.p_, h.v_, h.self, h.own, h.ne⟩
theorem uD.below {T e : TypeId} {B b o : Nat} {cs : Array Value} {p v : Value} {bs : List Value} {w w' : World} (h : uD T e B b o cs p v bs w) (hb : Below w.heap.size w w') : uD T e B b o cs p v bs w' :=
  ⟨h.base, (hb.block b h.lt).trans h.blk, h.p_, h.v_, h.self, sw h.own hb, h.ne⟩
theorem vG (t s : ByteArray) : Lib.strCells t ++ Lib.strCells s = Lib.strCells (t ++ s) := by
  simp [Lib.strCells]
theorem xX (t : ByteArray) : Lib.strCells t = Lib.byteCells t.data.toList := rfl
end Go.Proofs.Ytdkkgecdhapfhaa.B
namespace Go.Proofs.Ytdkkgecdhapfhaa.ZQ
open Go.Shelf Go.RowKit
set_option maxRecDepth 100000
def uX : Go.Shelf.Ren := ⟨fun | 156 => 123 | 165 => 126 | 166 => 127 | 169 => 128 | 240 => 132 | 241 => 133 | 276 => 135 | 277 => 136 | n => n, fun | 0 => 0 | 3 => 3 | 4 => 4 | 5 => 5 | 9 => 9 | 20 => 20 | 31 => 33 | 37 => 119 | 70 => 164 | 72 => 166 | 75 => 169 | 76 => 170 | 80 => 151 | 127 => 178 | 164 => 179 | n => n, fun n => n⟩
theorem Gj : Lays.n156 Try.prog uX where
  mixed := by kernel_rfl
  f156 := by kernel_rfl
  f165 := by kernel_rfl
  f166 := by kernel_rfl
  f169 := by kernel_rfl
  f240 := by kernel_rfl
  f241 := by kernel_rfl
  f276 := by kernel_rfl
  f277 := by kernel_rfl
  t0 := Try.underlying0
  a0 := Try.isAgg0
  z0 := Try.sizeOf0
  v0 := Try.zeroValue0
  t3 := Try.underlying3
  a3 := Try.isAgg3
  z3 := Try.sizeOf3
  v3 := Try.zeroValue3
  t4 := Try.underlying4
  a4 := Try.isAgg4
  z4 := Try.sizeOf4
  v4 := Try.zeroValue4
  t9 := Try.underlying9
  a9 := Try.isAgg9
  z9 := Try.sizeOf9
  v9 := Try.zeroValue9
  t20 := Try.underlying20
  a20 := Try.isAgg20
  z20 := Try.sizeOf20
  v20 := Try.zeroValue20
  t31 := Try.underlying33
  a31 := Try.isAgg33
  z31 := Try.sizeOf33
  v31 := Try.zeroValue33
  t37 := Try.underlying119
  a37 := Try.isAgg119
  z37 := Try.sizeOf119
  v37 := Try.zeroValue119
  t70 := Try.underlying164
  a70 := Try.isAgg164
  z70 := Try.sizeOf164
  v70 := Try.zeroValue164
  t72 := Try.underlying166
  a72 := Try.isAgg166
  z72 := Try.sizeOf166
  v72 := Try.zeroValue166
  t75 := Try.underlying169
  a75 := Try.isAgg169
  z75 := Try.sizeOf169
  v75 := Try.zeroValue169
  t76 := Try.underlying170
  a76 := Try.isAgg170
  z76 := Try.sizeOf170
  v76 := Try.zeroValue170
  t127 := Try.underlying178
  a127 := Try.isAgg178
  z127 := Try.sizeOf178
  v127 := Try.zeroValue178
  t164 := Try.underlying179
  a164 := Try.isAgg179
  z164 := Try.sizeOf179
  v164 := Try.zeroValue179
theorem uY : Builder.Extra Try.prog uX where
  sizeBuilder := by kernel_rfl
  liesBuilder := by kernel_rfl
  t5 := Try.underlying5
  a5 := Try.isAgg5
  z5 := Try.sizeOf5
  v5 := Try.zeroValue5
  infoByte := by kernel_rfl
  cellsByte := by kernel_rfl
  sizeByte := by kernel_rfl
  neB5 := by decide
end Go.Proofs.Ytdkkgecdhapfhaa.ZQ

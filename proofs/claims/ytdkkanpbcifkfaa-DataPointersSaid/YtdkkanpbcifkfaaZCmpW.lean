/- Writing names behind another one: what the program and the reference write; that it is read back. Conditions: on sizes alone. -/
import Derived.Test.YtdkkanpbcifkfaaZCmp
import Derived.Test.YtdkkanpbcifkfaaZQ8
import Derived.Test.YtdkkanpbcifkfaaZQ4
import Derived.Test.YtdkkanpbcifkfaaZQ3
import Derived.Test.YtdkkanpbcifkfaaZQ9
set_option linter.unusedVariables false
set_option linter.unusedSimpArgs false
namespace Go.Proofs.Ytdkkanpbcifkfaa.ZQ
open Go.RowKit Go.Proofs.YtdkkanpbcifkfaaW.PrintWords Go.Proofs.YtdkkanpbcifkfaaW.PrintLast Go.Proofs.YtdkkanpbcifkfaaW.PrintMore Go.Proofs.Ytdkkanpbcifkfaa.B

/-- Where among a name's ends one begins that is the same as another name. -/
def plL : List ByteArray → Int → ByteArray → Int
  | [], _, _ => -1
  | x :: m, o, r => if same (enc (x :: m)) r then o else plL m (o + 1 + x.size) r
/-- A name written behind another one. -/
def wrL (m : List ByteArray) (a : Int) : List ByteArray → ByteArray → ByteArray
  | [], p => p ++ root
  | x :: l, p => if 0 ≤ plL m 0 (enc (x :: l)) then p ++ putB (49152 + a + plL m 0 (enc (x :: l))) 2 else wrL m a l (p ++ (sg x.size ++ x))
/-- What is written. -/
def wr (base : ByteArray) (a : Int) (n : ByteArray) : ByteArray := match labs base, labs n with
  | some m, some ls => if 0 ≤ a ∧ a ≤ 16000 then wrL m a ls ⟨#[]⟩ else ⟨#[]⟩
  | _, _ => ⟨#[]⟩
theorem len_le_enc (l : List ByteArray) : l.length ≤ (enc l).size := by
  induction l with
  | nil => exact Nat.zero_le _
  | cons x l ih => rw [enc_cons, cut_size]; simp only [List.length_cons]; omega
/-! Reading back. -/
theorem sg_pos (A : ByteArray) (b : Int) (C : ByteArray) (hb : 0 ≤ b ∧ b ≤ 255) : bt (A ++ (sg b ++ C)) A.size = b := by
  rw [bt_append_right (by omega), show ((A.size : Int) - A.size) = 0 from by omega, bt_append_left (by omega) (by rw [sg_size]; omega), sg_bt b hb]
/-- Labels are read one behind the other. -/
theorem read_labels (ls : List ByteArray) : ∀ (k : Nat) (A C t : ByteArray) (l n : Int), (∀ x ∈ ls, okL x) → (t ++ encP ls).size ≤ 254 →
    comp_Read.l (k + ls.length) (A ++ (encP ls ++ C)) A.size l n t = comp_Read.l k (A ++ (encP ls ++ C)) (A.size + (encP ls).size : Nat) l n (t ++ encP ls) := by
  induction ls with
  | nil => intro k A C t l n _ _; simp only [encP, List.length_nil, Nat.add_zero, append_empty, size_mk0]
  | cons x ls ih =>
    intro k A C t l n hok hz
    have hx := hok x (by simp)
    obtain ⟨hx1, hx2⟩ := hx
    have hz' : t.size + (1 + x.size + (encP ls).size) ≤ 254 := by rw [ByteArray.size_append, encP_size_cons] at hz; exact hz
    have em : A ++ (encP (x :: ls) ++ C) = A ++ (sg x.size ++ (x ++ (encP ls ++ C))) := by simp only [encP, ByteArray.append_assoc]
    have hb : bt (A ++ (encP (x :: ls) ++ C)) A.size = x.size := by rw [em]; exact sg_pos A _ _ (by omega)
    have hsz : (A ++ (encP (x :: ls) ++ C)).size = A.size + (1 + x.size + (encP ls).size + C.size) := by rw [ByteArray.size_append, ByteArray.size_append, encP_size_cons]
    have g1 : okGet (A ++ (encP (x :: ls) ++ C)) A.size 1 := ⟨by omega, by omega, by omega, by omega⟩
    have g3 : okTake (A ++ (encP (x :: ls) ++ C)) A.size (1 + (x.size : Int)) := ⟨by omega, by omega, by omega⟩
    have hex : (A ++ (encP (x :: ls) ++ C)).extract ((A.size : Int)).toNat ((A.size : Int) + (1 + (x.size : Int))).toNat = sg x.size ++ x := by
      rw [show ((A.size : Int)).toNat = A.size + 0 from by omega, show ((A.size : Int) + (1 + (x.size : Int))).toNat = A.size + (1 + x.size) from by omega, ByteArray.extract_append_size_add]
      have e2 : encP (x :: ls) ++ C = (sg x.size ++ x) ++ (encP ls ++ C) := by simp only [encP, ByteArray.append_assoc]
      rw [e2]
      exact ByteArray.extract_append_eq_left (by rw [ByteArray.size_append, sg_size])
    show comp_Read.l (k + ls.length + 1) _ _ _ _ _ = _
    rw [comp_Read.l, if_pos g1, hb, if_neg (by omega), if_neg (by omega), if_neg (by omega), if_pos g3, if_neg (by omega), hex]
    have hA : ((A.size : Int) + (1 + (x.size : Int))) = (((A ++ (sg x.size ++ x)).size : Nat) : Int) := by rw [ByteArray.size_append, ByteArray.size_append, sg_size]; omega
    have em2 : A ++ (encP (x :: ls) ++ C) = (A ++ (sg x.size ++ x)) ++ (encP ls ++ C) := by simp only [encP, ByteArray.append_assoc]
    rw [hA, em2, ih k _ C _ l n (fun y hy => hok y (by simp [hy])) (by rw [ByteArray.size_append, ByteArray.size_append, ByteArray.size_append, sg_size]; omega)]
    congr 1
    · rw [ByteArray.size_append, ByteArray.size_append, sg_size, encP_size_cons]; congr 1; omega
    · simp only [encP, ByteArray.append_assoc]
theorem root_sg : root = sg 0 := by
  refine ext_bt (by rw [root_size, sg_size]) fun i h0 h1 => ?_
  rw [root_size] at h1
  have : i = 0 := by omega
  subst this
  rw [root_bt, sg_bt 0 (by omega)]
theorem read_root (k : Nat) (A C t : ByteArray) (l n : Int) : comp_Read.l (k + 1) (A ++ (root ++ C)) A.size l n t = some (t ++ root, (if n = -1 then (A.size : Int) + 1 else n), 0) := by
  have hb : bt (A ++ (root ++ C)) A.size = 0 := by rw [root_sg]; exact sg_pos A 0 C (by omega)
  have g1 : okGet (A ++ (root ++ C)) A.size 1 := ⟨by omega, by omega, by omega, by simp only [ByteArray.size_append, root_size]; omega⟩
  rw [comp_Read.l, if_pos g1, hb, if_pos rfl]
  rfl
/-- A name is read where it stands. -/
theorem read_whole (ls : List ByteArray) (k : Nat) (A C t : ByteArray) (l n : Int) (hok : ∀ x ∈ ls, okL x) (hz : (t ++ encP ls).size ≤ 254) :
    comp_Read.l (k + 1 + ls.length) (A ++ (enc ls ++ C)) A.size l n t = some (t ++ enc ls, (if n = -1 then (A.size : Int) + (enc ls).size else n), 0) := by
  have e : A ++ (enc ls ++ C) = A ++ (encP ls ++ (root ++ C)) := by unfold enc; simp only [ByteArray.append_assoc]
  rw [e, read_labels ls (k + 1) A (root ++ C) t l n hok hz]
  have e2 : A ++ (encP ls ++ (root ++ C)) = (A ++ encP ls) ++ (root ++ C) := by simp only [ByteArray.append_assoc]
  have e3 : ((A.size + (encP ls).size : Nat) : Int) = (((A ++ encP ls).size : Nat) : Int) := by rw [ByteArray.size_append]
  rw [e2, e3, read_root]
  rw [ByteArray.append_assoc, enc_size, ByteArray.size_append]
  congr 2
  (try (congr 1; split <;> first | omega | rfl))
theorem put2_eq (p : Int) (h0 : 0 ≤ p) (h1 : p ≤ 16383) : putB (49152 + p) 2 = sg (192 + p / 256) ++ sg (p % 256) := by
  unfold putB
  rw [if_pos ⟨by omega, by omega, by omega, by simp; omega⟩]
  refine ext_bt (by rw [strOfNums_size, ByteArray.size_append, sg_size, sg_size]; rfl) fun i i0 i1 => ?_
  rw [strOfNums_size] at i1
  rw [bt_nums _ _ (putL_range _ _)]
  have hi : i = 0 ∨ i = 1 := by
    have : (putL (2 : Int).toNat (49152 + p)).length = 2 := rfl
    omega
  rcases hi with rfl | rfl
  · rw [bt_append_left (by omega) (by rw [sg_size]; omega), sg_bt _ (by omega)]
    simp [putL]; omega
  · rw [bt_append_right (by rw [sg_size]; omega), sg_size, show ((1 : Int) - ((1 : Nat) : Int)) = 0 from by omega, sg_bt _ (by omega)]
    simp [putL]; omega
/-- A pointer is followed. -/
theorem read_pointer (k : Nat) (A C t : ByteArray) (l n p : Int) (h0 : 0 ≤ p) (h1 : p ≤ 16383) (hl : p < l) :
    comp_Read.l (k + 1) (A ++ (putB (49152 + p) 2 ++ C)) A.size l n t = comp_Read.l k (A ++ (putB (49152 + p) 2 ++ C)) p p (if n = -1 then (A.size : Int) + 2 else n) t := by
  have ep := put2_eq p h0 h1
  have hz : (A ++ (putB (49152 + p) 2 ++ C)).size = A.size + (2 + C.size) := by rw [ep]; simp only [ByteArray.size_append, sg_size]
  have hb : bt (A ++ (putB (49152 + p) 2 ++ C)) A.size = 192 + p / 256 := by
    rw [ep, ByteArray.append_assoc (a := sg _)]; exact sg_pos A _ _ (by omega)
  have hb2 : bt (A ++ (putB (49152 + p) 2 ++ C)) (A.size + 1) = p % 256 := by
    rw [ep]
    have : A ++ (sg (192 + p / 256) ++ sg (p % 256) ++ C) = (A ++ sg (192 + p / 256)) ++ (sg (p % 256) ++ C) := by simp only [ByteArray.append_assoc]
    rw [this]
    have := sg_pos (A ++ sg (192 + p / 256)) (p % 256) C (by omega)
    rw [ByteArray.size_append, sg_size] at this
    exact this
  have g1 : okGet (A ++ (putB (49152 + p) 2 ++ C)) A.size 1 := ⟨by omega, by omega, by omega, by omega⟩
  have g2 : okGet (A ++ (putB (49152 + p) 2 ++ C)) A.size 2 := ⟨by omega, by omega, by omega, by omega⟩
  have e2 : getN 2 (A ++ (putB (49152 + p) 2 ++ C)) A.size - 49152 = p := by
    simp only [getN]
    rw [show ((A.size : Int) + ((0 : Nat) : Int)) = A.size from by omega, show ((A.size : Int) + ((0 + 1 : Nat) : Int)) = A.size + 1 from by omega, hb, hb2]
    omega
  rw [comp_Read.l, if_pos g1, hb, if_neg (by omega), if_pos (by omega), if_pos g2, e2, if_neg (by omega)]
theorem nums_append' (xs ys : List Int) : strOfNums (xs ++ ys) = strOfNums xs ++ strOfNums ys := by
  refine ByteArray.ext ?_
  rw [ByteArray.data_append]
  simp [strOfNums]
theorem numsOf_append (a b : ByteArray) : numsOf (a ++ b) = numsOf a ++ numsOf b := by
  unfold numsOf; rw [ByteArray.data_append]; simp
theorem lowB_append (a b : ByteArray) : lowB (a ++ b) = lowB a ++ lowB b := by
  unfold lowB; rw [numsOf_append, List.map_append, nums_append']
theorem lowB_size (a : ByteArray) : (lowB a).size = a.size := by unfold lowB; rw [strOfNums_size, List.length_map, numsOf_length]
theorem same_iff {a b : ByteArray} : same a b = true ↔ isN a = true ∧ isN b = true ∧ lowB a = lowB b := by
  unfold same; simp only [Bool.and_eq_true, decide_eq_true_eq]; exact ⟨fun h => ⟨h.1.1, h.1.2, h.2⟩, fun h => ⟨⟨h.1, h.2.1⟩, h.2.2⟩⟩
theorem isN_enc {l : List ByteArray} (hok : ∀ x ∈ l, okL x) (hz : (enc l).size ≤ 255) : isN (enc l) = true := isN_iff.mpr ⟨l, rfl, hok, hz⟩
end Go.Proofs.Ytdkkanpbcifkfaa.ZQ

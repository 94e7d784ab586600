/- What the functions of package octet compute. -/
import Derived.Test.YtdkkanpbcifkfaaZB
import Derived.Test.YtdkkanpbcifkfaaZQ4
set_option linter.unusedVariables false
set_option linter.unusedSimpArgs false
namespace Go.Proofs.Ytdkkanpbcifkfaa.ZQ
open Go.RowKit Go.Proofs.YtdkkanpbcifkfaaW.PrintWords Go.Proofs.YtdkkanpbcifkfaaW.PrintLast Go.Proofs.YtdkkanpbcifkfaaW.PrintMore Go.Proofs.Ytdkkanpbcifkfaa.B

/-! Numbers as bytes. -/
def putL : Nat → Int → List Int
  | 0, _ => []
  | s + 1, n => n / 256 ^ s % 256 :: putL s n
def okPut (n size : Int) : Prop := 1 ≤ size ∧ size ≤ 4 ∧ 0 ≤ n ∧ n < 256 ^ size.toNat
instance (n size : Int) : Decidable (okPut n size) := by unfold okPut; infer_instance
def putB (n size : Int) : ByteArray := if okPut n size then strOfNums (putL size.toNat n) else ⟨#[]⟩
def okTake (s : ByteArray) (i n : Int) : Prop := 0 ≤ i ∧ 0 ≤ n ∧ i + n ≤ (s.size : Int)
instance (s : ByteArray) (i n : Int) : Decidable (okTake s i n) := by unfold okTake; infer_instance
def getN : Nat → ByteArray → Int → Int
  | 0, _, _ => 0
  | k + 1, s, i => getN k s i * 256 + bt s (i + k)
def okGet (s : ByteArray) (i n : Int) : Prop := 0 ≤ i ∧ 1 ≤ n ∧ n ≤ 4 ∧ i + n ≤ (s.size : Int)
instance (s : ByteArray) (i n : Int) : Decidable (okGet s i n) := by unfold okGet; infer_instance
theorem take_eq (s : ByteArray) (i n : Int) (hs : s.size ≤ 9223372036854775807) :
    octet_Take.f s i n = some (if okTake s i n then (s.extract i.toNat (i + n).toNat, true) else (⟨#[]⟩, false)) := by
  unfold octet_Take.f okTake
  rw [if_pos (by omega)]
  split <;> rename_i h <;> simp [h]
theorem or_join (x b : Int) (hx0 : 0 ≤ x) (hx : x < 16777216) (hb0 : 0 ≤ b) (hb : b ≤ 255) : Go.bits .or .i64 (wrap64 (x * 256)) (wrap64 b) = x * 256 + b := by
  rw [w64 (by omega) (by omega), w64 (by omega) (by omega)]
  refine Go.bits_join .i64 62 (by decide) ?_ 8 (x * 256) b (by omega) (by omega) (by omega) hb0 (by omega) (by omega)
  intro n h0 h1
  rw [IntKind.wrap_i64]
  omega
theorem get_eq (k : Nat) (hk : 9 ≤ k) (s : ByteArray) (i n : Int) (hs : s.size ≤ 9223372036854775807) :
    octet_Get.f k s i n = some (if okGet s i n then (getN n.toNat s i, true) else (0, false)) := by
  refine at_rounds (fun k => octet_Get.mono s i n k) hk ?_
  unfold octet_Get.f
  rw [take_eq s i n hs]
  by_cases ht : okTake s i n
  · rw [if_pos ht]
    simp only [Option.bind_some, if_true]
    obtain ⟨h0, h1, h2⟩ := ht
    by_cases hz : 1 ≤ n ∧ n ≤ 4
    · have hf : octet_sized.f n = some true := by unfold octet_sized.f; rw [if_pos (by omega)]; simp; omega
      rw [if_pos (show okGet s i n from ⟨h0, hz.1, hz.2, h2⟩), hf]
      have hz' := size_ext h0 h1 h2
      have hb : ∀ j, 0 ≤ j → j < n → bt (s.extract i.toNat (i + n).toNat) j = bt s (i + j) := fun j a b => bt_ext h0 a b h2
      have e0 := hb 0
      have e1 := hb 1
      have e2 := hb 2
      have e3 := hb 3
      have r0 := bt_range s (i + 0)
      have r1 := bt_range s (i + 1)
      have r2 := bt_range s (i + 2)
      have r3 := bt_range s (i + 3)
      generalize s.extract i.toNat (i + n).toNat = t at *
      clear hb
      obtain ⟨hz1, hz4⟩ := hz
      have hn : n = 1 ∨ n = 2 ∨ n = 3 ∨ n = 4 := by omega
      have y0 : wrap64 (0 + 1) = 1 := w64 (by omega) (by omega)
      have y1 : wrap64 (1 + 1) = 2 := w64 (by omega) (by omega)
      have y2 : wrap64 (2 + 1) = 3 := w64 (by omega) (by omega)
      have y3 : wrap64 (3 + 1) = 4 := w64 (by omega) (by omega)
      rcases hn with rfl | rfl | rfl | rfl
      · have o0 := or_join 0 (bt s (i + 0)) (by omega) (by omega) r0.1 r0.2
        simp only [octet_Get.j0, octet_Get.l0, Option.bind_some, Bool.not_true, Bool.false_eq_true, if_false, hz', e0 (by omega) (by omega), o0, y0]
        simp [getN]
      · have o0 := or_join 0 (bt s (i + 0)) (by omega) (by omega) r0.1 r0.2
        have o1 := or_join (0 * 256 + bt s (i + 0)) (bt s (i + 1)) (by omega) (by omega) r1.1 r1.2
        simp only [octet_Get.j0, octet_Get.l0, Option.bind_some, Bool.not_true, Bool.false_eq_true, if_false, hz', e0 (by omega) (by omega), e1 (by omega) (by omega), o0, o1, y0, y1]
        simp [getN]
      · have o0 := or_join 0 (bt s (i + 0)) (by omega) (by omega) r0.1 r0.2
        have o1 := or_join (0 * 256 + bt s (i + 0)) (bt s (i + 1)) (by omega) (by omega) r1.1 r1.2
        have o2 := or_join ((0 * 256 + bt s (i + 0)) * 256 + bt s (i + 1)) (bt s (i + 2)) (by omega) (by omega) r2.1 r2.2
        simp only [octet_Get.j0, octet_Get.l0, Option.bind_some, Bool.not_true, Bool.false_eq_true, if_false, hz', e0 (by omega) (by omega), e1 (by omega) (by omega), e2 (by omega) (by omega), o0, o1, o2, y0, y1, y2]
        simp [getN]
      · have o0 := or_join 0 (bt s (i + 0)) (by omega) (by omega) r0.1 r0.2
        have o1 := or_join (0 * 256 + bt s (i + 0)) (bt s (i + 1)) (by omega) (by omega) r1.1 r1.2
        have o2 := or_join ((0 * 256 + bt s (i + 0)) * 256 + bt s (i + 1)) (bt s (i + 2)) (by omega) (by omega) r2.1 r2.2
        have o3 := or_join (((0 * 256 + bt s (i + 0)) * 256 + bt s (i + 1)) * 256 + bt s (i + 2)) (bt s (i + 3)) (by omega) (by omega) r3.1 r3.2
        simp only [octet_Get.j0, octet_Get.l0, Option.bind_some, Bool.not_true, Bool.false_eq_true, if_false, hz', e0 (by omega) (by omega), e1 (by omega) (by omega), e2 (by omega) (by omega), e3 (by omega) (by omega), o0, o1, o2, o3, y0, y1, y2, y3]
        simp [getN]
    · have hf : octet_sized.f n = some false := by
        unfold octet_sized.f
        by_cases h2 : 1 ≤ n
        · rw [if_pos (by omega)]; simp; omega
        · rw [if_neg (by omega)]
      rw [if_neg (show ¬ okGet s i n from fun h => hz ⟨h.2.1, h.2.2.1⟩), hf]
      simp [octet_Get.j0]
  · rw [if_neg ht, if_neg (show ¬ okGet s i n from fun h => ht ⟨h.1, by have := h.2.1; omega, h.2.2.2⟩)]
    simp [octet_Get.j0]

theorem putL_range (s : Nat) (n : Int) : ∀ x ∈ putL s n, 0 ≤ x ∧ x ≤ 255 := by
  induction s with
  | zero => simp [putL]
  | succ s ih =>
    intro x hx
    simp only [putL, List.mem_cons] at hx
    rcases hx with rfl | hx
    · omega
    · exact ih x hx
theorem getN_one (s : ByteArray) (i : Int) : getN 1 s i = bt s i := by simp [getN]
theorem getN_congr (k : Nat) (s t : ByteArray) (i j : Int) (h : ∀ m : Nat, m < k → bt s (i + m) = bt t (j + m)) : getN k s i = getN k t j := by
  induction k with
  | zero => rfl
  | succ k ih => simp only [getN]; rw [ih fun m hm => h m (by omega), h k (by omega)]
theorem getN_range (k : Nat) (s : ByteArray) (i : Int) : 0 ≤ getN k s i ∧ getN k s i < 256 ^ k := by
  induction k with
  | zero => simp [getN]
  | succ k ih =>
    have := bt_range s (i + k)
    simp only [getN]
    rw [Int.pow_succ]
    omega
end Go.Proofs.Ytdkkanpbcifkfaa.ZQ

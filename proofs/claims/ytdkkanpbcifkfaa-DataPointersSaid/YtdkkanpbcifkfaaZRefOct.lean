/- What the reference's functions on numbers and bytes compute: the same plain functions. Conditions: on sizes alone. -/
import Derived.Test.YtdkkanpbcifkfaaZOct
import Derived.Test.YtdkkanpbcifkfaaZQ5
set_option linter.unusedVariables false
set_option linter.unusedSimpArgs false
namespace Go.Proofs.Ytdkkanpbcifkfaa.ZQ
open Go.RowKit Go.Proofs.YtdkkanpbcifkfaaW.PrintWords Go.Proofs.YtdkkanpbcifkfaaW.PrintLast Go.Proofs.YtdkkanpbcifkfaaW.PrintMore Go.Proofs.Ytdkkanpbcifkfaa.B

theorem ref_take_eq (s : ByteArray) (i n : Int) (hs : s.size ≤ 1000000) :
    wellspringref01_Take.f s i n = some (if okTake s i n then (s.extract i.toNat (i + n).toNat, true) else (⟨#[]⟩, false)) := by
  have u : okTake s i n = (0 ≤ i ∧ 0 ≤ n ∧ i + n ≤ (s.size : Int)) := rfl
  unfold wellspringref01_Take.f
  by_cases h0 : i < 0
  · rw [if_pos h0, if_neg (by rw [u]; omega)]
  · by_cases h1 : n < 0
    · rw [if_neg h0, if_pos h1, if_neg (by rw [u]; omega)]
    · by_cases h2 : i > (s.size : Int)
      · rw [if_neg h0, if_neg h1, if_pos h2, if_neg (by rw [u]; omega)]
      · rw [if_neg h0, if_neg h1, if_neg h2]
        have e1 : wrap64 ((s.size : Int) - i) = s.size - i := w64 (by omega) (by omega)
        rw [e1]
        by_cases h3 : n > (s.size : Int) - i
        · rw [if_pos h3, if_neg (by rw [u]; omega)]
        · have e2 : wrap64 (i + n) = i + n := w64 (by omega) (by omega)
          rw [if_neg h3, e2, if_pos (by omega), if_pos (by omega), if_pos (by omega), if_pos (by rw [u]; omega)]


theorem ref_get_l0 (n : Nat) (hn : n ≤ 4) (t : ByteArray) (ht : t.size = n) (d : Nat) : ∀ k j, n - j = d → j ≤ n → d < k →
    wellspringref01_Get.l0 k n t (getN j t 0) j = some (getN n t 0, true) := by
  induction d with
  | zero =>
    intro k j hd hj hk
    obtain rfl : j = n := by omega
    obtain ⟨k, rfl⟩ : ∃ m, k = m + 1 := ⟨k - 1, by omega⟩
    rw [wellspringref01_Get.l0, if_neg (by omega)]
  | succ d ih =>
    intro k j hd hj hk
    obtain ⟨k, rfl⟩ : ∃ m, k = m + 1 := ⟨k - 1, by omega⟩
    have hr := getN_range j t 0
    have hp : (256 : Int) ^ j ≤ 16777216 := by
      have : j = 0 ∨ j = 1 ∨ j = 2 ∨ j = 3 := by omega
      rcases this with rfl | rfl | rfl | rfl <;> simp
    have hb := bt_range t j
    rw [wellspringref01_Get.l0, if_pos (by omega), if_pos (by omega), if_pos (by omega), w64 (n := bt t j) (by omega) (by omega), w64 (n := 256 * getN j t 0) (by omega) (by omega), w64 (n := 256 * getN j t 0 + bt t j) (by omega) (by omega), w64 (n := (j : Int) + 1) (by omega) (by omega)]
    have e : 256 * getN j t 0 + bt t j = getN (j + 1) t 0 := by
      simp only [getN]
      rw [show (0 : Int) + (j : Int) = j from by omega]
      omega
    rw [e, show ((j : Int) + 1) = ((j + 1 : Nat) : Int) from by omega]
    exact ih k (j + 1) (by omega) (by omega) (by omega)
theorem ref_get_eq (k : Nat) (hk : 9 ≤ k) (s : ByteArray) (i n : Int) (hs : s.size ≤ 1000000) :
    wellspringref01_Get.f k s i n = some (if okGet s i n then (getN n.toNat s i, true) else (0, false)) := by
  obtain ⟨k, rfl⟩ : ∃ m, k = m + 1 := ⟨k - 1, by omega⟩
  unfold wellspringref01_Get.f
  rw [ref_take_eq s i n hs]
  simp only [Option.bind_some]
  by_cases ht : okTake s i n
  · simp only [if_pos ht, if_true]
    obtain ⟨h0, h1, h2⟩ := ht
    by_cases c1 : n < 1
    · rw [if_pos c1, wellspringref01_Get.j0, if_pos rfl, if_neg (fun h => by have := h.2.1; omega)]
    · rw [if_neg c1]
      by_cases c2 : n > 4
      · rw [decide_eq_true c2, wellspringref01_Get.j0, if_pos rfl, if_neg (fun h => by have := h.2.2.1; omega)]
      · rw [decide_eq_false c2, wellspringref01_Get.j0, if_neg Bool.false_ne_true, if_pos ⟨h0, by omega, by omega, h2⟩]
        have hz := size_ext h0 h1 h2
        have e : ((n.toNat : Nat) : Int) = n := by omega
        have := ref_get_l0 n.toNat (by omega) (s.extract i.toNat (i + n).toNat) (by omega) n.toNat k 0 (by omega) (by omega) (by omega)
        rw [e] at this
        rw [show (0 : Int) = ((0 : Nat) : Int) from rfl]
        refine Eq.trans this ?_
        congr 2
        refine getN_congr _ _ _ _ _ fun m hm => ?_
        rw [show (0 : Int) + (m : Int) = m from by omega, bt_ext h0 (by omega) (by omega) h2]
  · simp only [if_neg ht, Bool.false_eq_true, if_false]
    rw [wellspringref01_Get.j0, if_pos rfl, if_neg (fun h => ht ⟨h.1, by have := h.2.1; omega, h.2.2.2⟩)]
end Go.Proofs.Ytdkkanpbcifkfaa.ZQ

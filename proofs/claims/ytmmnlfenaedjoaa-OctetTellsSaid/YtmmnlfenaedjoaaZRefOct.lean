/- What the reference's functions on numbers and bytes compute: the same plain functions. Conditions: on sizes alone. -/
import Derived.Test.YtmmnlfenaedjoaaZOct
import Derived.Test.YtmmnlfenaedjoaaZQ2
import Derived.Test.YtmmnlfenaedjoaaZQ2
import Derived.Test.YtmmnlfenaedjoaaZQ2
set_option linter.unusedVariables false
set_option linter.unusedSimpArgs false
namespace Go.Proofs.Ytmmnlfenaedjoaa.ZQ
open Go.RowKit Go.Proofs.YtmmnlfenaedjoaaW.PrintWords Go.Proofs.YtmmnlfenaedjoaaW.PrintLast Go.Proofs.YtmmnlfenaedjoaaW.PrintMore Go.Proofs.Ytmmnlfenaedjoaa.B

theorem ref_take_eq (s : ByteArray) (i n : Int) (hs : s.size ≤ 1000000) :
    wellspringref01_Take.f s i n = some (if okTake s i n then (s.extract i.toNat (i + n).toNat, true) else (⟨#[]⟩, false)) := by
  have u : okTake s i n = (0 ≤ i ∧ 0 ≤ n ∧ i + n ≤ (s.size : Int)) := rfl
  unfold wellspringref01_Take.f
  by_cases h0 : i < 0
  · rw [if_pos h0, if_neg (by rw [u]; omega)]
  · by_cases h1 : n < 0
    · rw [if_neg h0, if_pos h1, if_neg (by rw [u]; omega)]
    · by_cases h2 : i > (s.size : Int)
      · rw [if_neg h0, if_neg h1, if_pos h2, if_neg (by rw [u]; omega)]
      · rw [if_neg h0, if_neg h1, if_neg h2]
        have e1 : wrap64 ((s.size : Int) - i) = s.size - i := w64 (by omega) (by omega)
        rw [e1]
        by_cases h3 : n > (s.size : Int) - i
        · rw [if_pos h3, if_neg (by rw [u]; omega)]
        · have e2 : wrap64 (i + n) = i + n := w64 (by omega) (by omega)
          rw [if_neg h3, e2, if_pos (by omega), if_pos (by omega), if_pos (by omega), if_pos (by rw [u]; omega)]


theorem ref_get_l0 (n : Nat) (hn : n ≤ 4) (t : ByteArray) (ht : t.size = n) (d : Nat) : ∀ k j, n - j = d → j ≤ n → d < k →
    wellspringref01_Get.l0 k n t (getN j t 0) j = some (getN n t 0, true) := by
  induction d with
  | zero =>
    intro k j hd hj hk
    obtain rfl : j = n := by omega
    obtain ⟨k, rfl⟩ : ∃ m, k = m + 1 := ⟨k - 1, by omega⟩
    rw [wellspringref01_Get.l0, if_neg (by omega)]
  | succ d ih =>
    intro k j hd hj hk
    obtain ⟨k, rfl⟩ : ∃ m, k = m + 1 := ⟨k - 1, by omega⟩
    have hr := getN_range j t 0
    have hp : (256 : Int) ^ j ≤ 16777216 := by
      have : j = 0 ∨ j = 1 ∨ j = 2 ∨ j = 3 := by omega
      rcases this with rfl | rfl | rfl | rfl <;> simp
    have hb := bt_range t j
    rw [wellspringref01_Get.l0, if_pos (by omega), if_pos (by omega), if_pos (by omega), w64 (n := bt t j) (by omega) (by omega), w64 (n := 256 * getN j t 0) (by omega) (by omega), w64 (n := 256 * getN j t 0 + bt t j) (by omega) (by omega), w64 (n := (j : Int) + 1) (by omega) (by omega)]
    have e : 256 * getN j t 0 + bt t j = getN (j + 1) t 0 := by
      simp only [getN]
      rw [show (0 : Int) + (j : Int) = j from by omega]
      omega
    rw [e, show ((j : Int) + 1) = ((j + 1 : Nat) : Int) from by omega]
    exact ih k (j + 1) (by omega) (by omega) (by omega)
theorem ref_get_eq (k : Nat) (hk : 9 ≤ k) (s : ByteArray) (i n : Int) (hs : s.size ≤ 1000000) :
    wellspringref01_Get.f k s i n = some (if okGet s i n then (getN n.toNat s i, true) else (0, false)) := by
  obtain ⟨k, rfl⟩ : ∃ m, k = m + 1 := ⟨k - 1, by omega⟩
  unfold wellspringref01_Get.f
  rw [ref_take_eq s i n hs]
  simp only [Option.bind_some]
  by_cases ht : okTake s i n
  · simp only [if_pos ht, if_true]
    obtain ⟨h0, h1, h2⟩ := ht
    by_cases c1 : n < 1
    · rw [if_pos c1, wellspringref01_Get.j0, if_pos rfl, if_neg (fun h => by have := h.2.1; omega)]
    · rw [if_neg c1]
      by_cases c2 : n > 4
      · rw [decide_eq_true c2, wellspringref01_Get.j0, if_pos rfl, if_neg (fun h => by have := h.2.2.1; omega)]
      · rw [decide_eq_false c2, wellspringref01_Get.j0, if_neg Bool.false_ne_true, if_pos ⟨h0, by omega, by omega, h2⟩]
        have hz := size_ext h0 h1 h2
        have e : ((n.toNat : Nat) : Int) = n := by omega
        have := ref_get_l0 n.toNat (by omega) (s.extract i.toNat (i + n).toNat) (by omega) n.toNat k 0 (by omega) (by omega) (by omega)
        rw [e] at this
        rw [show (0 : Int) = ((0 : Nat) : Int) from rfl]
        refine Eq.trans this ?_
        congr 2
        refine getN_congr _ _ _ _ _ fun m hm => ?_
        rw [show (0 : Int) + (m : Int) = m from by omega, bt_ext h0 (by omega) (by omega) h2]
  · simp only [if_neg ht, Bool.false_eq_true, if_false]
    rw [wellspringref01_Get.j0, if_pos rfl, if_neg (fun h => ht ⟨h.1, by have := h.2.1; omega, h.2.2.2⟩)]
theorem and255 (x : Int) (h0 : 0 ≤ x) (h1 : x ≤ 9223372036854775807) : Go.bits .and .i64 x 255 = x % 256 := by
  refine Go.bits_mask .i64 63 (by decide) ?_ 8 (by decide) x h0 (by omega)
  intro n h0 h1
  rw [IntKind.wrap_i64]
  omega
theorem ref_put_good (n size : Int) (h : okPut n size) : wellspringref01_Put.f 9 n size = some (strOfNums (putL size.toNat n)) := by
  obtain ⟨h1, h4, h0, hn⟩ := h
  have hs : size = 1 ∨ size = 2 ∨ size = 3 ∨ size = 4 := by omega
  have hz : ¬ n < 0 := by omega
  have hb : n ≤ 4294967295 := by
    rcases hs with rfl | rfl | rfl | rfl <;> simp at hn <;> omega
  have a0 := and255 n h0 (by omega)
  have a1 := and255 (n / 256) (by omega) (by omega)
  have a2 := and255 (n / 65536) (by omega) (by omega)
  have a3 := and255 (n / 16777216) (by omega) (by omega)
  rcases hs with rfl | rfl | rfl | rfl
  · simp at hn
    have e : ¬ 0 < n / 256 := by omega
    simp [wellspringref01_Put.f, wellspringref01_Put.j0, wellspringref01_Put.l0, wrap64, shr, IntKind.bits, e, hz, putL, a0]
  · simp at hn
    have e : ¬ 0 < n / 65536 := by omega
    simp [wellspringref01_Put.f, wellspringref01_Put.j0, wellspringref01_Put.l0, wrap64, shr, IntKind.bits, e, hz, putL, a0, a1]
  · simp at hn
    have e : ¬ 0 < n / 16777216 := by omega
    simp [wellspringref01_Put.f, wellspringref01_Put.j0, wellspringref01_Put.l0, wrap64, shr, IntKind.bits, e, hz, putL, a0, a1, a2]
  · simp at hn
    have e : ¬ 0 < n / 4294967296 := by omega
    simp [wellspringref01_Put.f, wellspringref01_Put.j0, wellspringref01_Put.l0, wrap64, shr, IntKind.bits, e, hz, putL, a0, a1, a2, a3]
theorem ref_put_bad (n size : Int) (h : ¬ okPut n size) (hn : n ≤ 9223372036854775807) : wellspringref01_Put.f 9 n size = some ⟨#[]⟩ := by
  unfold okPut at h
  by_cases h1 : size < 1
  · simp [wellspringref01_Put.f, wellspringref01_Put.j0, h1]
  · by_cases h4 : size > 4
    · simp [wellspringref01_Put.f, wellspringref01_Put.j0, h1, h4]
    · by_cases h0 : n < 0
      · simp [wellspringref01_Put.f, wellspringref01_Put.j0, h1, h4, h0]
      · have hb : 256 ^ size.toNat ≤ n := by
          refine Int.not_lt.mp fun hc => h ⟨by omega, by omega, by omega, hc⟩
        have hs : size = 1 ∨ size = 2 ∨ size = 3 ∨ size = 4 := by omega
        rcases hs with rfl | rfl | rfl | rfl
        · simp at hb
          have e : 0 < n / 256 := by omega
          simp [wellspringref01_Put.f, wellspringref01_Put.j0, wellspringref01_Put.l0, wrap64, shr, IntKind.bits, e, h0]
        · simp at hb
          have e : 0 < n / 65536 := by omega
          simp [wellspringref01_Put.f, wellspringref01_Put.j0, wellspringref01_Put.l0, wrap64, shr, IntKind.bits, e, h0]
        · simp at hb
          have e : 0 < n / 16777216 := by omega
          simp [wellspringref01_Put.f, wellspringref01_Put.j0, wellspringref01_Put.l0, wrap64, shr, IntKind.bits, e, h0]
        · simp at hb
          have e : 0 < n / 4294967296 := by omega
          simp [wellspringref01_Put.f, wellspringref01_Put.j0, wellspringref01_Put.l0, wrap64, shr, IntKind.bits, e, h0]
theorem ref_put_eq (k : Nat) (hk : 9 ≤ k) (n size : Int) (hn : n ≤ 9223372036854775807) : wellspringref01_Put.f k n size = some (putB n size) := by
  refine at_rounds (fun k => wellspringref01_Put.mono n size k) hk ?_
  unfold putB
  by_cases h : okPut n size
  · rw [if_pos h]; exact ref_put_good n size h
  · rw [if_neg h]; exact ref_put_bad n size h hn
end Go.Proofs.Ytmmnlfenaedjoaa.ZQ

/- What records hold: what program and reference tell of the data at any place: the same plain function. Conditions: on sizes alone. -/
import Derived.Test.YtdkkanpbcifkfaaZCmpW
import Derived.Test.YtdkkanpbcifkfaaZQ10
import Derived.Test.YtdkkanpbcifkfaaZQ11
set_option linter.unusedVariables false
set_option linter.unusedSimpArgs false
namespace Go.Proofs.Ytdkkanpbcifkfaa.ZQ
open Go.RowKit Go.Proofs.YtdkkanpbcifkfaaW.PrintWords Go.Proofs.YtdkkanpbcifkfaaW.PrintLast Go.Proofs.YtdkkanpbcifkfaaW.PrintMore Go.Proofs.Ytdkkanpbcifkfaa.B

/-- What reading tells, whatever the rounds. -/
def rdR (msg : ByteArray) (i : Int) : ByteArray × Int × Int := (comp_Read.f (rounds i) msg i).getD (⟨#[]⟩, 0, 0)
theorem rd_at (msg : ByteArray) (i : Int) (hm : msg.size ≤ 100000) : comp_Read.f (rounds i) msg i = some (rdR msg i) := by
  obtain ⟨R, h1, _⟩ := read_ends (rounds i) msg i hm (Nat.le_refl _)
  unfold rdR; rw [h1]; rfl
theorem rd_eq (k : Nat) (msg : ByteArray) (i : Int) (hm : msg.size ≤ 100000) (hk : rounds i ≤ k) : comp_Read.f k msg i = some (rdR msg i) := read_mono_k hk (rd_at msg i hm)
theorem ref_rd_eq (k : Nat) (msg : ByteArray) (i : Int) (hm : msg.size ≤ 100000) (hk : rounds i ≤ k) : wellspringref04_Read.f k msg i = some (rdR msg i) := by
  obtain ⟨R, h1, h2⟩ := read_ends k msg i hm hk
  rw [rd_eq k msg i hm hk] at h1
  rw [h2, h1]
theorem rd_tells (msg : ByteArray) (i : Int) (hm : msg.size ≤ 100000) :
    ((rdR msg i).2.2 = 0 ∧ isN (rdR msg i).1 = true ∧ 0 ≤ i ∧ i < (rdR msg i).2.1 ∧ (rdR msg i).2.1 ≤ (msg.size : Int)) ∨ (((rdR msg i).2.2 = 2 ∨ (rdR msg i).2.2 = 3) ∧ (rdR msg i).1 = ⟨#[]⟩ ∧ (rdR msg i).2.1 = 0) := read_tells hm (rd_at msg i hm)
/-- So many names from a place, up to an end: the names and the place behind them. -/
def rdL (msg : ByteArray) (e : Int) : Nat → Int → List ByteArray → Option (List ByteArray × Int)
  | 0, i, l => some (l, i)
  | n + 1, i, l => if (rdR msg i).2.2 = 0 then (if (rdR msg i).2.1 > e then none else rdL msg e n (rdR msg i).2.1 (l ++ [(rdR msg i).1])) else none
theorem rdL_range (msg : ByteArray) (e : Int) (hm : msg.size ≤ 100000) : ∀ (n : Nat) (i : Int) (l : List ByteArray) (R : List ByteArray × Int), rdL msg e n i l = some R → i ≤ e → i ≤ R.2 ∧ R.2 ≤ e ∧ R.1.length = l.length + n ∧ (∃ l', R.1 = l ++ l' ∧ ∀ x ∈ l', isN x = true)
  | 0, i, l, R, h, hi => by cases h; exact ⟨Int.le_refl _, hi, rfl, [], by simp, by simp⟩
  | n + 1, i, l, R, h, hi => by
    rw [rdL] at h
    by_cases h0 : (rdR msg i).2.2 = 0
    · rw [if_pos h0] at h
      by_cases h1 : (rdR msg i).2.1 > e
      · rw [if_pos h1] at h; cases h
      · rw [if_neg h1] at h
        obtain ⟨a1, a2, a3, l', a4, a5⟩ := rdL_range msg e hm n _ _ R h (by omega)
        rcases rd_tells msg i hm with ⟨_, b2, _, b4, _⟩ | ⟨b1, _⟩
        · refine ⟨by omega, a2, by rw [a3, List.length_append, List.length_singleton]; omega, (rdR msg i).1 :: l', by rw [a4]; simp, ?_⟩
          intro x hx
          rcases List.mem_cons.mp hx with rfl | hx
          · exact b2
          · exact a5 x hx
        · omega
    · rw [if_neg h0] at h; cases h
/-- Places that are read. -/
def K0 : Nat := 101000
theorem rounds_le {msg : ByteArray} {i : Int} {k : Nat} (hm : msg.size ≤ 100000) (hi : i ≤ (msg.size : Int)) (hk : K0 ≤ k) : rounds i ≤ k := by unfold rounds; unfold K0 at hk; omega
theorem read_l0 (msg : ByteArray) (e s0 s1 s2 : Int) (a b : ByteArray) (hm : msg.size ≤ 100000) (he : e ≤ (msg.size : Int)) (h2 : 0 ≤ s2 ∧ s2 ≤ 1000) (c : Int) (hc : c ≤ 100) : ∀ (n k : Nat) (i x : Int) (l : List ByteArray), K0 + n ≤ k → x + n = c → 0 ≤ x → 0 ≤ i → i ≤ e → l.length + n ≤ 1000 →
    data_read.l0 (k + 1) msg i e c x s0 s1 s2 a b l = (match rdL msg e n i l with
      | some R => some (a, msg.extract R.2.toNat e.toNat, R.1, (((msg.extract R.2.toNat e.toNat).size : Int) == s2))
      | none => some (⟨#[]⟩, ⟨#[]⟩, [], false))
  | 0, k, i, x, l, hk, hx, hx0, hi, hie, hl => by
    rw [data_read.l0, if_neg (by omega), if_pos hi, if_pos hie, if_pos he, rdL]
  | n + 1, k, i, x, l, hk, hx, hx0, hi, hie, hl => by
    obtain ⟨k, rfl⟩ : ∃ m, k = m + 1 := ⟨k - 1, by omega⟩
    rw [data_read.l0, if_pos (by omega), rd_eq (k + 1) msg i hm (rounds_le hm (by omega) (by omega)), rdL]
    simp only [Option.bind_some]
    by_cases h0 : (rdR msg i).2.2 = 0
    · rw [if_pos h0, if_pos h0]
      by_cases h1 : (rdR msg i).2.1 > e
      · rw [if_pos h1, if_pos h1]
      · rcases rd_tells msg i hm with ⟨_, _, _, b4, _⟩ | ⟨b1, _⟩
        · rw [if_neg h1, if_neg h1, if_pos (by omega), w64 (by omega) (by omega)]
          exact read_l0 msg e s0 s1 s2 a b hm he h2 c hc n k _ (x + 1) _ (by omega) (by omega) (by omega) (by omega) (by omega) (by rw [List.length_append, List.length_singleton]; omega)
        · omega
    · rw [if_neg h0, if_neg h0]
/-! The texts. -/
def txA (s : ByteArray) : Nat → Int → Bool
  | 0, _ => false
  | k + 1, i => if i < (s.size : Int) then txA s k (i + 1 + bt s i) else decide (i = s.size)
def txts (s : ByteArray) : Bool := decide (0 < s.size) && txA s (s.size + 1) 0
theorem txA_ge (s : ByteArray) {k : Nat} {i : Int} (h : (s.size : Int) < i) : txA s k i = false := by
  cases k with
  | zero => rfl
  | succ k => rw [txA, if_neg (by omega)]; simp; omega
theorem texts_l0 (s : ByteArray) (hs : s.size ≤ 100000) (d : Nat) : ∀ (k m : Nat) (i : Int), 0 ≤ i → i ≤ (s.size : Int) → s.size - i.toNat ≤ d → d + 1 ≤ k → d + 1 ≤ m → data_texts.l0 k (s.extract i.toNat s.size) = some (txA s m i) := by
  induction d with
  | zero =>
    intro k m i h0 h1 h2 hk hm
    obtain ⟨k, rfl⟩ : ∃ j, k = j + 1 := ⟨k - 1, by omega⟩
    obtain ⟨m, rfl⟩ : ∃ j, m = j + 1 := ⟨m - 1, by omega⟩
    rw [data_texts.l0, if_pos (toList_nil.mpr (by rw [ByteArray.size_extract]; omega)), txA, if_neg (by omega), decide_eq_true (by omega)]
  | succ d ih =>
    intro k m i h0 h1 h2 hk hm
    obtain ⟨k, rfl⟩ : ∃ j, k = j + 1 := ⟨k - 1, by omega⟩
    obtain ⟨m, rfl⟩ : ∃ j, m = j + 1 := ⟨m - 1, by omega⟩
    have hz : (s.extract i.toNat s.size).size = s.size - i.toNat := by rw [ByteArray.size_extract]; omega
    by_cases hi : i < (s.size : Int)
    · have hb : bt (s.extract i.toNat s.size) 0 = bt s i := by
        rw [bt_extract (by omega) (by omega)]; congr 1; omega
      have hr := bt_range s i
      rw [data_texts.l0, if_neg (by rw [toList_nil]; omega), if_pos (by omega), hb, w64 (n := bt s i) (by omega) (by omega), w64 (n := 1 + bt s i) (by omega) (by omega), txA, if_pos hi]
      by_cases h3 : 1 + bt s i > ((s.extract i.toNat s.size).size : Int)
      · rw [if_pos h3, txA_ge s (by omega)]
      · rw [if_neg h3, if_pos (by omega), if_pos (by omega)]
        have e : (s.extract i.toNat s.size).extract (1 + bt s i).toNat (s.extract i.toNat s.size).size = s.extract (i + 1 + bt s i).toNat s.size := by
          rw [ByteArray.extract_extract, hz]
          congr 1 <;> omega
        rw [e]
        exact ih k m _ (by omega) (by omega) (by omega) (by omega) (by omega)
    · rw [data_texts.l0, if_pos (toList_nil.mpr (by omega)), txA, if_neg hi, decide_eq_true (by omega)]
theorem texts_eq (k : Nat) (hk : K0 ≤ k) (s : ByteArray) (hs : s.size ≤ 100000) : data_texts.f k s = some (txts s) := by
  unfold data_texts.f txts
  by_cases h : s.toList = ([] : List UInt8)
  · rw [if_pos h]; rw [toList_nil] at h; rw [h]; rfl
  · rw [if_neg h]
    rw [toList_nil] at h
    unfold K0 at hk
    have := texts_l0 s hs s.size k (s.size + 1) 0 (by omega) (by omega) (by omega) (by omega) (by omega)
    rw [show (0 : Int).toNat = 0 from rfl, ByteArray.extract_zero_size] at this
    rw [this, decide_eq_true (by omega), Bool.true_and]
theorem ref_texts_l0 (s : ByteArray) (hs : s.size ≤ 100000) (d : Nat) : ∀ (k m : Nat) (i : Int), 0 ≤ i → (i : Int) ≤ s.size + 300 → 0 < i ∨ 0 < s.size → s.size - i.toNat ≤ d → d + 1 ≤ k → d + 1 ≤ m → wellspringref05_texts.l0 k s i = some (txA s m i) := by
  induction d with
  | zero =>
    intro k m i h0 h1 hp h2 hk hm
    obtain ⟨k, rfl⟩ : ∃ j, k = j + 1 := ⟨k - 1, by omega⟩
    obtain ⟨m, rfl⟩ : ∃ j, m = j + 1 := ⟨m - 1, by omega⟩
    have hlt : ¬ i < (s.size : Int) := by omega
    rw [wellspringref05_texts.l0, if_neg hlt, txA, if_neg hlt]
    by_cases h : i = (s.size : Int)
    · rw [if_pos h, decide_eq_true (by omega), decide_eq_true h]
    · rw [if_neg h, decide_eq_false h]
  | succ d ih =>
    intro k m i h0 h1 hp h2 hk hm
    obtain ⟨k, rfl⟩ : ∃ j, k = j + 1 := ⟨k - 1, by omega⟩
    obtain ⟨m, rfl⟩ : ∃ j, m = j + 1 := ⟨m - 1, by omega⟩
    have hr := bt_range s i
    rw [wellspringref05_texts.l0, txA]
    by_cases hi : i < (s.size : Int)
    · rw [if_pos hi, if_pos hi, if_pos h0, w64 (n := bt s i) (by omega) (by omega), w64 (n := i + 1) (by omega) (by omega), w64 (by omega) (by omega)]
      exact ih k m _ (by omega) (by omega) (by omega) (by omega) (by omega) (by omega)
    · rw [if_neg hi, if_neg hi]
      by_cases h : i = (s.size : Int)
      · rw [if_pos h, decide_eq_true (by omega), decide_eq_true h]
      · rw [if_neg h, decide_eq_false h]
theorem ref_texts_eq (k : Nat) (hk : K0 ≤ k) (s : ByteArray) (hs : s.size ≤ 100000) : wellspringref05_texts.f k s = some (txts s) := by
  unfold wellspringref05_texts.f txts
  unfold K0 at hk
  by_cases h : 0 < s.size
  · rw [ref_texts_l0 s hs s.size k (s.size + 1) 0 (by omega) (by omega) (by omega) (by omega) (by omega) (by omega), decide_eq_true h, Bool.true_and]
  · obtain ⟨k, rfl⟩ : ∃ j, k = j + 1 := ⟨k - 1, by omega⟩
    rw [wellspringref05_texts.l0, if_neg (by omega), if_pos (by omega), decide_eq_false h]; rfl
end Go.Proofs.Ytdkkanpbcifkfaa.ZQ

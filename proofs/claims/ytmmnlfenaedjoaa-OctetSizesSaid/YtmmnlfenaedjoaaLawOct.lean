import Derived.Test.YtmmnlfenaedjoaaOct
import Derived.Test.YtmmnlfenaedjoaaQ3
import Derived.Test.YtmmnlfenaedjoaaQ4
import Derived.Test.YtmmnlfenaedjoaaQ5
import Derived.Test.YtmmnlfenaedjoaaQ5
import Derived.Test.YtmmnlfenaedjoaaQ6
/- The statements of layer 1, over numbers and bytes. -/
set_option linter.unusedVariables false
set_option linter.unusedSimpArgs false
namespace Go.Proofs.Ytmmnlfenaedjoaa.Q
open Go.RowKit Go.Proofs.YtmmnlfenaedjoaaW.PrintWords Go.Proofs.YtmmnlfenaedjoaaW.PrintLast Go.Proofs.YtmmnlfenaedjoaaW.PrintMore Go.Proofs.Ytmmnlfenaedjoaa.B

theorem olive (k : Nat) (hk : 9 ≤ k) : wellspringlaw01_live.f k = some true := by
  refine at_rounds (fun k => wellspringlaw01_live.mono k) hk ?_
  decide +kernel

theorem pow_le4 {size : Int} (h1 : 1 ≤ size) (h4 : size ≤ 4) : (256 : Int) ^ size.toNat ≤ 4294967296 := by
  have hs : size = 1 ∨ size = 2 ∨ size = 3 ∨ size = 4 := by omega
  rcases hs with rfl | rfl | rfl | rfl <;> simp
theorem pow_ge256 {size : Int} (h1 : 1 ≤ size) (h4 : size ≤ 4) : 256 ≤ (256 : Int) ^ size.toNat := by
  have hs : size = 1 ∨ size = 2 ∨ size = 3 ∨ size = 4 := by omega
  rcases hs with rfl | rfl | rfl | rfl <;> simp
theorem pow_pos256 (s : Nat) : 0 < (256 : Int) ^ s := by
  induction s with
  | zero => simp
  | succ s ih => rw [Int.pow_succ]; omega
theorem back_j0 (k : Nat) (hk : 10 ≤ k) (n size : Int) (s : ByteArray) (hn : n ≤ 9223372036854775807) (hs : s.size ≤ 70000) : wellspringlaw01_OctetBack.j0 k n size s = some true := by
  obtain ⟨k, rfl⟩ : ∃ m, k = m + 1 := ⟨k - 1, by omega⟩
  simp only [wellspringlaw01_OctetBack.j0, get_eq k (by omega) s n size (by omega), take_eq s n size (by omega), olive k (by omega), Option.bind_some]
  by_cases h : okGet s n size
  · have ht : okTake s n size := ⟨h.1, by have := h.2.1; omega, h.2.2.2⟩
    have hp := put_getN s n size h
    have hb := (getN_range size.toNat s n).2
    have h4 := h.2.2.1
    have hb' := pow_le4 h.2.1 h4
    have hq := put_eq k (by omega) (getN size.toNat s n) size (by omega)
    simp only [if_pos h, if_pos ht, hq, Option.bind_some, hp, if_true]
  · simp only [if_neg h]; rfl

theorem OctetBack : wellspringlaw01_OctetBack.Pure := by
  intro n size s wn wsz ws
  obtain ⟨n0, n1⟩ := wf_i64 wn
  refine ⟨10, ?_⟩
  unfold wellspringlaw01_OctetBack.f
  by_cases hs : (s.size : Int) > 70000
  · rw [if_pos hs, olive 10 (by omega)]; rfl
  · rw [if_neg hs, put_eq 10 (by omega) n size n1]
    simp only [Option.bind_some]
    by_cases hp : okPut n size
    · have hz := putB_size n size hp
      have hne : ¬ (putB n size).toList = ([] : List UInt8) := fun h => (putB_nil n size).mp h hp
      have h4 := hp.2.1
      have h1 := hp.1
      rw [if_neg hne, if_pos (by omega), if_pos (by rw [ByteArray.size_append]; omega)]
      have hg : okGet (s ++ putB n size ++ s) s.size size := ⟨by omega, h1, h4, by simp only [ByteArray.size_append]; omega⟩
      rw [get_eq 10 (by omega) _ _ _ (by simp only [ByteArray.size_append]; omega), if_pos hg]
      simp only [Option.bind_some]
      simp only [if_pos hz, if_pos (getN_put_in n size hp s s), if_true]
      exact back_j0 10 (by omega) n size s n1 (by omega)
    · rw [if_pos ((putB_nil n size).mpr hp)]
      exact back_j0 10 (by omega) n size s n1 (by omega)

/-! Order. -/
theorem less_cons (x y : Int) (hx : 0 ≤ x ∧ x ≤ 255) (hy : 0 ≤ y ∧ y ≤ 255) (l m : List UInt8) :
    Op.bytesLess (UInt8.ofNat x.toNat :: l) (UInt8.ofNat y.toNat :: m) = (decide (x < y) || (decide (x = y) && Op.bytesLess l m)) := by
  have a : (UInt8.ofNat x.toNat).toNat = x.toNat := by rw [UInt8.toNat_ofNat']; omega
  have b : (UInt8.ofNat y.toNat).toNat = y.toNat := by rw [UInt8.toNat_ofNat']; omega
  have e1 : (UInt8.ofNat x.toNat < UInt8.ofNat y.toNat) = (x < y) := by rw [UInt8.lt_iff_toNat_lt, a, b]; exact propext ⟨fun h => by omega, fun h => by omega⟩
  have e2 : (UInt8.ofNat x.toNat == UInt8.ofNat y.toNat) = decide (x = y) := by
    rw [Bool.eq_iff_iff]
    simp only [beq_iff_eq, decide_eq_true_eq]
    rw [← UInt8.toNat_inj, a, b]
    omega
  simp only [Op.bytesLess, e1, e2]
theorem emod_two (a P : Int) (hP : 0 < P) : a % (P * 256) = P * (a / P % 256) + a % P := by
  have h1 := Int.mul_ediv_add_emod a P
  have h2 := Int.mul_ediv_add_emod (a / P) 256
  have h3 := Int.emod_nonneg a (show P ≠ 0 by omega)
  have h4 := Int.emod_lt_of_pos a hP
  have h5 := Int.emod_nonneg (a / P) (show (256 : Int) ≠ 0 by omega)
  have h6 := Int.emod_lt_of_pos (a / P) (show (0 : Int) < 256 by omega)
  have e : a = P * 256 * (a / P / 256) + (P * (a / P % 256) + a % P) := by
    rw [Int.mul_assoc, ← Int.add_assoc, ← Int.mul_add, h2, h1]
  have b1 : P * (a / P % 256) ≤ P * 255 := Int.mul_le_mul_of_nonneg_left (by omega) (by omega)
  have b2 : 0 ≤ P * (a / P % 256) := Int.mul_nonneg (by omega) h5
  conv => lhs; rw [e]
  rw [Int.add_comm, Int.add_mul_emod_self_left]
  exact Int.emod_eq_of_lt (by omega) (by omega)
theorem less_put (s : Nat) (a b : Int) : Op.bytesLess ((putL s a).map fun n => UInt8.ofNat n.toNat) ((putL s b).map fun n => UInt8.ofNat n.toNat) = decide (a % 256 ^ s < b % 256 ^ s) := by
  induction s with
  | zero => simp [putL, Op.bytesLess]
  | succ s ih =>
    simp only [putL, List.map_cons]
    rw [less_cons _ _ (by omega) (by omega), ih]
    have hP := pow_pos256 s
    have ea : a % 256 ^ (s + 1) = 256 ^ s * (a / 256 ^ s % 256) + a % 256 ^ s := by
      rw [Int.pow_succ]; exact emod_two a _ hP
    have eb : b % 256 ^ (s + 1) = 256 ^ s * (b / 256 ^ s % 256) + b % 256 ^ s := by
      rw [Int.pow_succ]; exact emod_two b _ hP
    have ra := Int.emod_nonneg a (show (256 : Int) ^ s ≠ 0 by omega)
    have rb := Int.emod_nonneg b (show (256 : Int) ^ s ≠ 0 by omega)
    have la := Int.emod_lt_of_pos a hP
    have lb := Int.emod_lt_of_pos b hP
    rw [ea, eb]
    generalize a / 256 ^ s % 256 = x at *
    generalize b / 256 ^ s % 256 = y at *
    generalize a % 256 ^ s = u at *
    generalize b % 256 ^ s = v at *
    generalize (256 : Int) ^ s = P at *
    rw [Bool.eq_iff_iff]
    simp only [Bool.or_eq_true, Bool.and_eq_true, decide_eq_true_eq]
    rcases Int.lt_trichotomy x y with h | h | h
    · have : P * (x + 1) ≤ P * y := Int.mul_le_mul_of_nonneg_left (by omega) (by omega)
      rw [Int.mul_add] at this
      constructor
      · intro _; omega
      · intro _; exact .inl h
    · subst h
      constructor
      · rintro (h | ⟨_, h⟩) <;> omega
      · intro h; exact .inr ⟨rfl, by omega⟩
    · have : P * (y + 1) ≤ P * x := Int.mul_le_mul_of_nonneg_left (by omega) (by omega)
      rw [Int.mul_add] at this
      constructor
      · rintro (h' | ⟨h', _⟩) <;> omega
      · intro _; omega

theorem OctetOrder : wellspringlaw01_OctetOrder.Pure := by
  intro a b size wa wb wsz
  obtain ⟨a0, a1⟩ := wf_i64 wa
  obtain ⟨b0, b1⟩ := wf_i64 wb
  refine ⟨9, ?_⟩
  unfold wellspringlaw01_OctetOrder.f
  rw [put_eq 9 (by omega) a size a1, put_eq 9 (by omega) b size b1, olive 9 (by omega)]
  simp only [Option.bind_some]
  by_cases ha : okPut a size
  · rw [if_neg (fun h => (putB_nil a size).mp h ha)]
    by_cases hb : okPut b size
    · rw [if_neg (fun h => (putB_nil b size).mp h hb)]
      unfold putB
      rw [if_pos ha, if_pos hb, toList_nums, toList_nums, less_put]
      obtain ⟨_, _, c0, c1⟩ := ha
      obtain ⟨_, _, d0, d1⟩ := hb
      rw [Int.emod_eq_of_lt c0 c1, Int.emod_eq_of_lt d0 d1]
      simp
    · rw [if_pos ((putB_nil b size).mpr hb)]
  · rw [if_pos ((putB_nil a size).mpr ha)]

/-! Lays. -/
theorem lay_eq (s : ByteArray) (i : Int) (p : ByteArray) (hs : s.size ≤ 1000000) (hp : p.size ≤ 1000000) :
    octet_Lay.f s i p = some (if okTake s i p.size then (s.extract 0 i.toNat ++ p ++ s.extract (i + p.size).toNat s.size, true) else (⟨#[]⟩, false)) := by
  unfold octet_Lay.f
  rw [take_eq s i _ (by omega)]
  by_cases h : okTake s i p.size
  · obtain ⟨h0, _, h2⟩ := h
    have e : wrap64 (i + (p.size : Int)) = i + p.size := w64 (by omega) (by omega)
    simp only [if_pos (show okTake s i p.size from ⟨h0, by omega, h2⟩), Option.bind_some, if_true, e]
    rw [if_pos h0, if_pos (by omega), if_pos (by simp only [ByteArray.size_extract]; omega), if_pos (by omega), if_pos h2, if_pos (by simp only [ByteArray.size_append, ByteArray.size_extract]; omega)]
  · simp only [if_neg h, Option.bind_some]; rfl
theorem ref_take_eq (s : ByteArray) (i n : Int) (hs : s.size ≤ 1000000) :
    wellspringref01_Take.f s i n = some (if okTake s i n then (s.extract i.toNat (i + n).toNat, true) else (⟨#[]⟩, false)) := by
  have u : okTake s i n = (0 ≤ i ∧ 0 ≤ n ∧ i + n ≤ (s.size : Int)) := rfl
  unfold wellspringref01_Take.f
  by_cases h0 : i < 0
  · rw [if_pos h0, if_neg (by rw [u]; omega)]
  · by_cases h1 : n < 0
    · rw [if_neg h0, if_pos h1, if_neg (by rw [u]; omega)]
    · by_cases h2 : i > (s.size : Int)
      · rw [if_neg h0, if_neg h1, if_pos h2, if_neg (by rw [u]; omega)]
      · rw [if_neg h0, if_neg h1, if_neg h2]
        have e1 : wrap64 ((s.size : Int) - i) = s.size - i := w64 (by omega) (by omega)
        rw [e1]
        by_cases h3 : n > (s.size : Int) - i
        · rw [if_pos h3, if_neg (by rw [u]; omega)]
        · have e2 : wrap64 (i + n) = i + n := w64 (by omega) (by omega)
          rw [if_neg h3, e2, if_pos (by omega), if_pos (by omega), if_pos (by omega), if_pos (by rw [u]; omega)]

theorem lays_j0 (k : Nat) (hk : 10 ≤ k) (s : ByteArray) (i : Int) (p : ByteArray) (b : Bool) (hb : b = false → s.size ≤ 70000 ∧ p.size ≤ 70000) : wellspringlaw01_OctetLays.j0 k s i p b = some true := by
  obtain ⟨k, rfl⟩ : ∃ m, k = m + 1 := ⟨k - 1, by omega⟩
  cases b with
  | true => simp only [wellspringlaw01_OctetLays.j0, olive k (by omega)]; rfl
  | false =>
    obtain ⟨hs, hp⟩ := hb rfl
    simp only [wellspringlaw01_OctetLays.j0, olive k (by omega), lay_eq s i p (by omega) (by omega), ref_take_eq s i _ (show s.size ≤ 1000000 by omega), Bool.false_eq_true, if_false, Option.bind_some]
    by_cases h : okTake s i p.size
    · simp only [if_pos h]
      obtain ⟨h0, h1, h2⟩ := h
      have z1 : (s.extract 0 i.toNat).size = i.toNat := by simp only [ByteArray.size_extract]; omega
      have z2 : (s.extract (i + p.size).toNat s.size).size = s.size - (i + p.size).toNat := by simp only [ByteArray.size_extract]; omega
      have hz : (s.extract 0 i.toNat ++ p ++ s.extract (i + p.size).toNat s.size).size = s.size := by
        simp only [ByteArray.size_append, z1, z2]; omega
      have e : wrap64 (i + (p.size : Int)) = i + p.size := w64 (by omega) (by omega)
      have x0 : (s.extract 0 i.toNat ++ p ++ s.extract (i + p.size).toNat s.size).extract 0 i.toNat = s.extract 0 i.toNat := by
        have := extract_app_left (s.extract 0 i.toNat) (p ++ s.extract (i + p.size).toNat s.size)
        rw [z1, ← ByteArray.append_assoc] at this
        exact this
      have x1 : (s.extract 0 i.toNat ++ p ++ s.extract (i + p.size).toNat s.size).extract i.toNat (i + p.size).toNat = p := by
        have a1 : (s.extract 0 i.toNat ++ p).size = (i + p.size).toNat := by rw [ByteArray.size_append, z1]; omega
        have := extract_app_right (s.extract 0 i.toNat) p
        rw [z1, a1] at this
        rw [ByteArray.extract_append, this, a1]
        have e0 : (s.extract (i + p.size).toNat s.size).extract (i.toNat - (i + p.size).toNat) ((i + p.size).toNat - (i + p.size).toNat) = ⟨#[]⟩ := eq_empty (by simp only [ByteArray.size_extract]; omega)
        rw [e0, append_empty]
      have x2 : (s.extract 0 i.toNat ++ p ++ s.extract (i + p.size).toNat s.size).extract (i + p.size).toNat (s.extract 0 i.toNat ++ p ++ s.extract (i + p.size).toNat s.size).size = s.extract (i + p.size).toNat s.size := by
        have a1 : (s.extract 0 i.toNat ++ p).size = (i + p.size).toNat := by rw [ByteArray.size_append, z1]; omega
        have := extract_app_right (s.extract 0 i.toNat ++ p) (s.extract (i + p.size).toNat s.size)
        rw [a1] at this
        exact this
      generalize s.extract 0 i.toNat ++ p ++ s.extract (i + p.size).toNat s.size = t at *
      have ht : okTake t i p.size := ⟨h0, h1, by omega⟩
      simp only [take_eq t i _ (show t.size ≤ 9223372036854775807 by omega), if_pos ht, x1, e, Option.bind_some, if_true, hz, if_pos h0, if_pos (show i ≤ (s.size : Int) by omega), x0, if_pos (show 0 ≤ i + (p.size : Int) by omega), if_pos h2]
      rw [hz] at x2
      rw [x2, if_pos rfl]
    · simp only [if_neg h, Bool.false_eq_true, if_false, if_pos (toList_nil.mpr size_mk0)]
theorem OctetLays : wellspringlaw01_OctetLays.Pure := by
  intro s i p ws wi wp
  refine ⟨10, ?_⟩
  unfold wellspringlaw01_OctetLays.f
  by_cases hs : (s.size : Int) > 70000
  · rw [if_pos hs]; exact lays_j0 10 (by omega) s i p true (fun h => by cases h)
  · rw [if_neg hs]
    refine lays_j0 10 (by omega) s i p _ fun h => ?_
    simp at h
    omega

/-! Takes. -/
theorem takes_j1 (k : Nat) (hk : 10 ≤ k) (s : ByteArray) (i : Int) (hs : s.size ≤ 70000) (h0 : 0 ≤ i) (h1 : i ≤ 100000) : wellspringlaw01_OctetTakes.j1 k s i false = some true := by
  obtain ⟨k, rfl⟩ : ∃ m, k = m + 1 := ⟨k - 1, by omega⟩
  have e2 : wrap64 (i + 2) = i + 2 := w64 (by omega) (by omega)
  simp only [wellspringlaw01_OctetTakes.j1, Bool.false_eq_true, if_false, get_eq k (by omega) s i 4 (by omega), get_eq k (by omega) s i 2 (by omega), e2, get_eq k (by omega) s (i + 2) 2 (by omega), Option.bind_some, olive k (by omega)]
  by_cases a : i + 4 ≤ (s.size : Int)
  · have q4 : okGet s i 4 := ⟨h0, by omega, by omega, a⟩
    have q2 : okGet s i 2 := ⟨h0, by omega, by omega, by omega⟩
    have q3 : okGet s (i + 2) 2 := ⟨by omega, by omega, by omega, by omega⟩
    simp only [if_pos q4, if_pos q2, if_pos q3]
    have hv : getN (4 : Int).toNat s i = wrap64 (wrap64 (getN (2 : Int).toNat s i * 65536) + getN (2 : Int).toNat s (i + 2)) := by
      have r0 := bt_range s (i + 0)
      have r1 := bt_range s (i + 1)
      have r2 := bt_range s (i + 2)
      have r3 := bt_range s (i + 3)
      have c0 : bt s (i + 2 + 0) = bt s (i + 2) := by congr 1; omega
      have c1 : bt s (i + 2 + 1) = bt s (i + 3) := by congr 1; omega
      simp [getN] at *
      rw [c1]
      rw [w64 (n := (bt s i * 256 + bt s (i + 1)) * 65536) (by omega) (by omega), w64 (by omega) (by omega)]
      omega
    rw [hv]
    simp
  · have q4 : ¬ okGet s i 4 := fun h => by have := h.2.2.2; omega
    have q3 : ¬ okGet s (i + 2) 2 := fun h => by have := h.2.2.2; omega
    simp only [if_neg q4, if_neg q3]
    by_cases q2 : okGet s i 2
    · simp [if_pos q2]
    · simp [if_neg q2]
theorem takes_j0 (k : Nat) (hk : 11 ≤ k) (s : ByteArray) (i n : Int) (b : Bool) (hb : b = false → s.size ≤ 70000 ∧ 0 ≤ i ∧ 0 ≤ n ∧ i ≤ 100000 ∧ n ≤ 100000) : wellspringlaw01_OctetTakes.j0 k s i n b = some true := by
  obtain ⟨k, rfl⟩ : ∃ m, k = m + 1 := ⟨k - 1, by omega⟩
  cases b with
  | true => simp only [wellspringlaw01_OctetTakes.j0, olive k (by omega)]; rfl
  | false =>
    obtain ⟨hs, h0, h1, h2, h3⟩ := hb rfl
    have e1 : wrap64 (i + n) = i + n := w64 (by omega) (by omega)
    have e2 : wrap64 (n + 2) = n + 2 := w64 (by omega) (by omega)
    simp only [wellspringlaw01_OctetTakes.j0, e1, e2, take_eq s i n (by omega), take_eq s (i + n) 2 (by omega), take_eq s i (n + 2) (by omega), Bool.false_eq_true, if_false, Option.bind_some]
    have hj := takes_j1 k (by omega) s i hs h0 h2
    by_cases a : i + n + 2 ≤ (s.size : Int)
    · have q1 : okTake s i n := ⟨h0, h1, by omega⟩
      have q2 : okTake s (i + n) 2 := ⟨by omega, by omega, by omega⟩
      have q3 : okTake s i (n + 2) := ⟨h0, by omega, by omega⟩
      simp only [if_pos q1, if_pos q2, if_pos q3]
      have hx := ext_split (s := s) h0 h1 (show (0 : Int) ≤ 2 by omega)
      have hz : (s.extract i.toNat (i + n).toNat).size + (s.extract (i + n).toNat (i + n + 2).toNat).size ≤ 9223372036854775807 := by simp only [ByteArray.size_extract]; omega
      have e3 : i + (n + 2) = i + n + 2 := by omega
      rw [if_pos hz, e3, hx]
      simp [hj]
    · have q2 : ¬ okTake s (i + n) 2 := fun h => by have := h.2.2; omega
      have q3 : ¬ okTake s i (n + 2) := fun h => by have := h.2.2; omega
      simp only [if_neg q2, if_neg q3]
      by_cases q1 : okTake s i n
      · simp [if_pos q1, hj]
      · simp [if_neg q1, hj]
theorem OctetTakes : wellspringlaw01_OctetTakes.Pure := by
  intro s i n ws wi wn
  refine ⟨11, ?_⟩
  unfold wellspringlaw01_OctetTakes.f
  have ht := takes_j0 11 (by omega) s i n true (fun h => by cases h)
  by_cases hs : (s.size : Int) > 70000
  · rw [if_pos hs]; exact ht
  · rw [if_neg hs]
    by_cases h0 : i < 0
    · rw [if_pos h0]; exact ht
    · rw [if_neg h0]
      by_cases h1 : n < 0
      · rw [if_pos h1]; exact ht
      · rw [if_neg h1]
        by_cases h2 : i > 100000
        · rw [if_pos h2]; exact ht
        · rw [if_neg h2]
          refine takes_j0 11 (by omega) s i n _ fun h => ?_
          simp at h
          omega

/-! Sizes. -/
theorem sizes_step (k : Nat) (hk : 9 ≤ k) (n : Int) (last : ByteArray) (size : Int) (hn : n ≤ 9223372036854775807) (h1 : 1 ≤ size) (h4 : size ≤ 4)
    (hl : last = if 1 < size then putB n (size - 1) else ⟨#[]⟩) :
    wellspringlaw01_OctetSizes.l0 (k + 2) n last size = (if okPut n size then wellspringlaw01_OctetSizes.l0 (k + 1) n (putB n size) (size + 1) else wellspringlaw01_OctetSizes.l0 k n last (size + 1)) := by
  have e : wrap64 (size + 1) = size + 1 := w64 (by omega) (by omega)
  by_cases h : okPut n size
  · have hne : ¬ (putB n size).toList = ([] : List UInt8) := fun hh => (putB_nil n size).mp hh h
    have hz := putB_size n size h
    rw [if_pos h]
    conv => lhs; rw [wellspringlaw01_OctetSizes.l0]
    rw [if_pos h4, put_eq (k + 1) (by omega) n size hn]
    simp only [Option.bind_some]
    rw [if_neg hne, if_pos hz, e]
    by_cases hl0 : last.toList = ([] : List UInt8)
    · rw [if_pos hl0]
    · have h2 : 1 < size := by
        refine Int.not_le.mp fun hc => hl0 ?_
        rw [hl, if_neg (by omega)]; exact toList_nil.mpr rfl
      rw [if_pos h2] at hl
      have ho : okPut n (size - 1) := by
        by_cases hq : okPut n (size - 1)
        · exact hq
        · exact absurd ((putB_nil n (size - 1)).mpr hq) (by rw [← hl]; exact hl0)
      have hlz := putB_size n (size - 1) ho
      have hv : putB n size = (⟨#[0]⟩ : ByteArray) ++ last := by
        subst hl
        unfold putB
        rw [if_pos h, if_pos ho]
        have e2 : size.toNat = (size - 1).toNat + 1 := by omega
        rw [e2]
        have e3 : putL ((size - 1).toNat + 1) n = 0 :: putL (size - 1).toNat n := by
          simp only [putL]
          have := ho.2.2.2
          have := ho.2.2.1
          rw [Int.ediv_eq_zero_of_lt (by omega) (by omega)]; rfl
        rw [e3]
        refine ByteArray.ext ?_
        rw [ByteArray.data_append]
        simp [strOfNums]
      rw [if_neg hl0, if_pos (by rw [hl]; omega), if_pos (by rw [hv])]
  · have hnil := (putB_nil n size).mpr h
    rw [if_neg h]
    conv => lhs; rw [wellspringlaw01_OctetSizes.l0]
    rw [if_pos h4, put_eq (k + 1) (by omega) n size hn]
    simp only [Option.bind_some]
    rw [if_pos hnil]
    have hl0 : last.toList = ([] : List UInt8) := by
      by_cases h2 : 1 < size
      · rw [hl, if_pos h2]
        refine (putB_nil _ _).mpr fun ho => h ⟨h1, h4, ho.2.2.1, ?_⟩
        have e2 : size.toNat = (size - 1).toNat + 1 := by omega
        have := ho.2.2.2
        have := ho.2.2.1
        rw [e2, Int.pow_succ]
        omega
      · rw [hl, if_neg h2]; exact toList_nil.mpr rfl
    rw [if_pos hl0]
    by_cases h5 : n ≥ 0
    · have h6 : ¬ n < 256 := by
        intro hc
        refine h ⟨h1, h4, h5, ?_⟩
        have := pow_ge256 h1 h4
        omega
      rw [if_pos h5, decide_eq_false h6]
      conv => lhs; rw [wellspringlaw01_OctetSizes.j1]
      rw [if_neg Bool.false_ne_true, e]
    · rw [if_neg h5]
      conv => lhs; rw [wellspringlaw01_OctetSizes.j1]
      rw [if_neg Bool.false_ne_true, e]
theorem sizes_end (k : Nat) (hk : 9 ≤ k) (n : Int) (last : ByteArray) (hn : n ≤ 9223372036854775807) (hl : last = putB n 4) : wellspringlaw01_OctetSizes.l0 (k + 1) n last 5 = some true := by
  rw [wellspringlaw01_OctetSizes.l0, if_neg (by omega), put_eq k hk n 0 hn, put_eq k hk n 5 hn, olive k hk]
  have n0 : (putB n 0).toList = ([] : List UInt8) := (putB_nil n 0).mpr fun h => by have := h.1; omega
  have n5 : (putB n 5).toList = ([] : List UInt8) := (putB_nil n 5).mpr fun h => by have := h.2.1; omega
  simp only [Option.bind_some, if_pos n0, if_pos n5]
  by_cases h : okPut n 4
  · have hne : ¬ last.toList = ([] : List UInt8) := by rw [hl]; exact fun hh => (putB_nil n 4).mp hh h
    have := h.2.2.1
    have h2 := h.2.2.2
    simp at h2
    rw [if_pos (by omega), if_pos (by rw [bne_iff_ne.mpr hne, decide_eq_true h2]; rfl)]
  · have hnil : last.toList = ([] : List UInt8) := by rw [hl]; exact (putB_nil n 4).mpr h
    have hb : (last.toList != ([] : List UInt8)) = false := bne_eq_false_iff_eq.mpr hnil
    rw [hb]
    by_cases h5 : n ≥ 0
    · have h6 : ¬ n < 4294967296 := fun hc => h ⟨by omega, by omega, h5, by simpa using hc⟩
      rw [if_pos h5, if_pos (by rw [decide_eq_false h6]; rfl)]
    · rw [if_neg h5]; rfl
theorem sizes_go (n : Int) (hn : n ≤ 9223372036854775807) (d : Nat) : ∀ (k : Nat) (size : Int) (last : ByteArray), 9 + 2 * d < k → 1 ≤ size → size + d = 5 →
    (last = if 1 < size then putB n (size - 1) else ⟨#[]⟩) → wellspringlaw01_OctetSizes.l0 k n last size = some true := by
  induction d with
  | zero =>
    intro k size last hk h1 hd hl
    obtain rfl : size = 5 := by omega
    obtain ⟨k, rfl⟩ : ∃ m, k = m + 1 := ⟨k - 1, by omega⟩
    exact sizes_end k (by omega) n last hn (by rw [hl, if_pos (by omega)]; rfl)
  | succ d ih =>
    intro k size last hk h1 hd hl
    obtain ⟨k, rfl⟩ : ∃ m, k = m + 2 := ⟨k - 2, by omega⟩
    rw [sizes_step k (by omega) n last size hn h1 (by omega) hl]
    have e : size + 1 - 1 = size := by omega
    by_cases h : okPut n size
    · rw [if_pos h]
      exact ih (k + 1) (size + 1) _ (by omega) (by omega) (by omega) (by rw [if_pos (by omega), e])
    · rw [if_neg h]
      refine ih k (size + 1) _ (by omega) (by omega) (by omega) ?_
      rw [if_pos (by omega), e]
      have hz : (putB n size).size = 0 := toList_nil.mp ((putB_nil n size).mpr h)
      rw [eq_empty hz, hl]
      by_cases h2 : 1 < size
      · rw [if_pos h2]
        refine eq_empty (toList_nil.mp ((putB_nil _ _).mpr fun ho => h ⟨h1, by omega, ho.2.2.1, ?_⟩))
        have e2 : size.toNat = (size - 1).toNat + 1 := by omega
        have := ho.2.2.2
        have := ho.2.2.1
        rw [e2, Int.pow_succ]
        omega
      · rw [if_neg h2]
theorem OctetSizes : wellspringlaw01_OctetSizes.Pure := by
  intro n wn
  obtain ⟨n0, n1⟩ := wf_i64 wn
  exact ⟨18, sizes_go n n1 4 18 1 ⟨#[]⟩ (by omega) (by omega) (by omega) (by rw [if_neg (by omega)])⟩
end Go.Proofs.Ytmmnlfenaedjoaa.Q

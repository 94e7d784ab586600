/- What the functions on names of the program and of the reference compute: the same plain functions. No conditions but on sizes. -/
import Derived.Test.YtdkkanpbcifkfaaZNm
import Derived.Test.YtdkkanpbcifkfaaZQ6
import Derived.Test.YtdkkanpbcifkfaaZQ7
set_option linter.unusedVariables false
set_option linter.unusedSimpArgs false
namespace Go.Proofs.Ytdkkanpbcifkfaa.ZQ
open Go.RowKit Go.Proofs.YtdkkanpbcifkfaaW.PrintWords Go.Proofs.YtdkkanpbcifkfaaW.PrintLast Go.Proofs.YtdkkanpbcifkfaaW.PrintMore Go.Proofs.Ytdkkanpbcifkfaa.B

theorem toList_root {n : ByteArray} : n.toList = ([0] : List UInt8) ↔ n = root := by
  have : root.toList = ([0] : List UInt8) := by rw [Lib.toList_data]; rfl
  rw [← this, toList_inj]
theorem split_l0 (d : Nat) : ∀ (k : Nat) (n : ByteArray) (acc : List ByteArray), n.size ≤ d → 1 ≤ n.size → d ≤ 255 → acc.length + d ≤ 1000 → 2 * d + 2 ≤ k →
    name_split.l0 k n acc = some (match labsF n.size n with | some l => (acc ++ l, true) | none => ([], false)) := by
  induction d with
  | zero => intro k n acc h1 h2; omega
  | succ d ih =>
    intro k n acc h1 h2 h3 h4 hk
    obtain ⟨k, rfl⟩ : ∃ m, k = m + 2 := ⟨k - 2, by omega⟩
    rw [name_split.l0, if_pos (by omega), name_split.j1, labsF_size h2]
    by_cases hr : n = root
    · have hb : (n.toList != ([0] : List UInt8)) = false := bne_eq_false_iff_eq.mpr (toList_root.mpr hr)
      have hb2 : (n.toList == ([0] : List UInt8)) = true := beq_iff_eq.mpr (toList_root.mpr hr)
      rw [hb, if_neg Bool.false_ne_true, if_pos hr, hb2]
      simp
    · have hb : (n.toList != ([0] : List UInt8)) = true := bne_iff_ne.mpr fun h => hr (toList_root.mp h)
      have hbr := bt_range n 0
      rw [hb, if_pos rfl, if_pos (by omega), if_neg hr, w64 (n := bt n 0) (by omega) (by omega), w64 (n := bt n 0 + 1) (by omega) (by omega), w64 (n := 1 + bt n 0) (by omega) (by omega)]
      by_cases c1 : bt n 0 < 1
      · rw [if_pos c1, if_neg (by omega)]
      · rw [if_neg c1]
        by_cases c2 : bt n 0 > 63
        · rw [if_pos c2, if_neg (by omega)]
        · rw [if_neg c2]
          by_cases c3 : bt n 0 + 1 ≥ (n.size : Int)
          · rw [if_pos c3, if_neg (by omega)]
          · rw [if_neg c3, if_pos (by omega), if_pos (by omega), if_pos (by omega), if_pos (by omega), if_pos (by omega)]
            have e : (1 + bt n 0).toNat = 1 + (bt n 0).toNat := by omega
            rw [e, ih k _ _ (by rw [ByteArray.size_extract]; omega) (by rw [ByteArray.size_extract]; omega) (by omega) (by simp; omega) (by omega)]
            cases labsF (n.extract (1 + (bt n 0).toNat) n.size).size (n.extract (1 + (bt n 0).toNat) n.size) with
            | none => rfl
            | some l => simp
/-- The labels that name.split tells. -/
def splitR (n : ByteArray) : List ByteArray × Bool := match labs n with | some l => (l, true) | none => ([], false)
theorem split_eq (k : Nat) (hk : 600 ≤ k) (n : ByteArray) (hs : n.size ≤ 1000000000) : name_split.f k n = some (splitR n) := by
  unfold name_split.f splitR labs
  by_cases h : n.size ≤ 255
  · rw [if_neg (by omega), if_pos h]
    by_cases h0 : n.size = 0
    · obtain ⟨k, rfl⟩ : ∃ m, k = m + 2 := ⟨k - 2, by omega⟩
      have hb2 : (n.toList == ([0] : List UInt8)) = false := beq_eq_false_iff_ne.mpr fun h => by rw [toList_root] at h; rw [h, root_size] at h0; omega
      rw [name_split.l0, if_neg (by omega), name_split.j1, if_neg Bool.false_ne_true, hb2, labsF, if_pos h0]
    · rw [split_l0 255 k n [] h (by omega) (by omega) (by simp) (by omega), labsF_le 255 n h]
      simp
  · rw [if_pos (by omega), if_neg h]
theorem splitR_snd (n : ByteArray) : (splitR n).2 = isN n := by
  unfold splitR isN
  cases labs n <;> rfl
theorem check_eq (k : Nat) (hk : 600 ≤ k) (n : ByteArray) (hs : n.size ≤ 1000000000) : name_Check.f k n = some (isN n) := by
  unfold name_Check.f
  rw [split_eq k hk n hs]
  simp only [Option.bind_some, splitR_snd]
theorem low_eq (n : ByteArray) (hs : n.size ≤ 1000000000) : name_low.f n = some (lowB n) := by unfold name_low.f; rw [if_pos (by omega)]
theorem small_eq (n : ByteArray) (hs : n.size ≤ 1000000000) : wellspringref02_Small.f n = some (lowB n) := by unfold wellspringref02_Small.f; rw [if_pos (by omega)]
theorem toList_beq (a b : ByteArray) : (a.toList == b.toList) = decide (a = b) := by
  rw [Bool.eq_iff_iff]
  simp only [beq_iff_eq, decide_eq_true_eq]
  exact toList_inj
/-! The reference. -/
theorem ext_full (n : ByteArray) : n.extract 0 n.size = n := ByteArray.extract_zero_size
theorem labels_l0 (d : Nat) : ∀ (k : Nat) (n : ByteArray) (i : Nat) (acc : List ByteArray), i < n.size → n.size - i ≤ d → n.size ≤ 255 → acc.length + d ≤ 1000 → d + 2 ≤ k →
    ∃ o, wellspringref02_Labels.l0 k n acc i = some o ∧ (match labsF (n.extract i n.size).size (n.extract i n.size) with | some l => o = (acc ++ l, true) | none => o.2 = false) := by
  induction d with
  | zero => intro k n i acc h1 h2; omega
  | succ d ih =>
    intro k n i acc h1 h2 h3 h4 hk
    obtain ⟨k, rfl⟩ : ∃ m, k = m + 1 := ⟨k - 1, by omega⟩
    have hz : (n.extract i n.size).size = n.size - i := by rw [ByteArray.size_extract]; omega
    have hb : bt (n.extract i n.size) 0 = bt n i := by
      rw [bt_extract (by omega) (by rw [hz]; omega)]
      congr 1
    have hbr := bt_range n i
    rw [wellspringref02_Labels.l0, if_pos (by omega), if_pos (by omega), labsF_size (by rw [hz]; omega), hb, w64 (n := bt n i) (by omega) (by omega)]
    by_cases c0 : bt n i = 0
    · rw [if_pos c0]
      refine ⟨_, rfl, ?_⟩
      by_cases hr : n.extract i n.size = root
      · have h5 := congrArg ByteArray.size hr
        rw [hz, root_size] at h5
        rw [if_pos hr, w64 (by omega) (by omega)]
        have : (i : Int) = (n.size : Int) - 1 := by omega
        simp [this]
      · have h5 : n.size - i ≠ 1 := by
          intro h6
          refine hr (ext_bt (by rw [hz, root_size]; exact h6) fun j j0 j1 => ?_)
          rw [hz] at j1
          have : j = 0 := by omega
          subst this
          rw [hb, c0, root_bt]
        rw [if_neg hr, if_neg (by omega), w64 (by omega) (by omega)]
        simp
        omega
    · have hr : n.extract i n.size ≠ root := by
        intro h5
        rw [h5, root_bt] at hb
        exact c0 hb.symm
      rw [if_neg c0, if_neg hr]
      by_cases c2 : bt n i > 63
      · rw [if_pos c2, if_neg (by omega)]
        exact ⟨_, rfl, rfl⟩
      · rw [if_neg c2, w64 (n := (n.size : Int) - i) (by omega) (by omega)]
        by_cases c3 : bt n i ≥ (n.size : Int) - i
        · rw [if_pos c3, if_neg (by rw [hz]; omega)]
          exact ⟨_, rfl, rfl⟩
        · rw [if_neg c3, w64 (n := (i : Int) + 1) (by omega) (by omega), w64 (n := (i : Int) + 1 + bt n i) (by omega) (by omega), if_pos (by omega), if_pos (by omega), if_pos (by omega), if_pos (by omega)]
          have e : ((i : Int) + 1 + bt n i) = ((i + 1 + (bt n i).toNat : Nat) : Int) := by omega
          have e1 : ((i : Int) + 1).toNat = i + 1 := by omega
          rw [e, e1, Int.toNat_natCast]
          by_cases c4 : i + 1 + (bt n i).toNat < n.size
          · obtain ⟨o, ho, hm⟩ := ih k n (i + 1 + (bt n i).toNat) (acc ++ [n.extract (i + 1) (i + 1 + (bt n i).toNat)]) (by omega) (by omega) h3 (by simp; omega) (by omega)
            refine ⟨o, ho, ?_⟩
            rw [if_pos (by rw [hz]; omega)]
            have x1 : (n.extract i n.size).extract 1 (1 + (bt n i).toNat) = n.extract (i + 1) (i + 1 + (bt n i).toNat) := by
              rw [ByteArray.extract_extract]; congr 1; omega
            have x2 : (n.extract i n.size).extract (1 + (bt n i).toNat) (n.extract i n.size).size = n.extract (i + 1 + (bt n i).toNat) n.size := by
              rw [hz, ByteArray.extract_extract]; congr 1 <;> omega
            rw [x1, x2]
            cases hl : labsF (n.extract (i + 1 + (bt n i).toNat) n.size).size (n.extract (i + 1 + (bt n i).toNat) n.size) with
            | none => rw [hl] at hm; simpa using hm
            | some l => rw [hl] at hm; simpa using hm
          · obtain ⟨k, rfl⟩ : ∃ m, k = m + 1 := ⟨k - 1, by omega⟩
            rw [if_neg (by rw [hz]; omega), wellspringref02_Labels.l0, if_neg (by omega)]
            exact ⟨_, rfl, rfl⟩
theorem labels_eq (k : Nat) (hk : 600 ≤ k) (n : ByteArray) (hs : n.size ≤ 1000000000) :
    ∃ o, wellspringref02_Labels.f k n = some o ∧ (match labs n with | some l => o = (l, true) | none => o.2 = false) := by
  obtain ⟨k, rfl⟩ : ∃ m, k = m + 1 := ⟨k - 1, by omega⟩
  unfold wellspringref02_Labels.f labs
  by_cases h0 : n.size = 0
  · rw [if_pos (by omega), wellspringref02_Labels.j0, if_pos rfl, if_pos (by omega), labsF, if_pos h0]
    exact ⟨_, rfl, rfl⟩
  · rw [if_neg (by omega)]
    by_cases h : n.size ≤ 255
    · have hd : decide ((n.size : Int) > 255) = false := decide_eq_false (by omega)
      rw [hd, wellspringref02_Labels.j0, if_neg Bool.false_ne_true, if_pos h, labsF_le 255 n h]
      have := labels_l0 255 k n 0 [] (by omega) (by omega) h (by simp) (by omega)
      rw [ext_full] at this
      simpa using this
    · have hd : decide ((n.size : Int) > 255) = true := decide_eq_true (by omega)
      rw [hd, wellspringref02_Labels.j0, if_pos rfl, if_neg h]
      exact ⟨_, rfl, rfl⟩
theorem ref_check_eq (k : Nat) (hk : 600 ≤ k) (n : ByteArray) (hs : n.size ≤ 1000000000) : wellspringref02_Check.f k n = some (isN n) := by
  obtain ⟨o, ho, hm⟩ := labels_eq k hk n hs
  unfold wellspringref02_Check.f isN
  rw [ho]
  simp only [Option.bind_some]
  cases hl : labs n with
  | none => rw [hl] at hm; simpa using hm
  | some l => rw [hl] at hm; simp at hm; rw [hm]; rfl
theorem ref_same_eq (k : Nat) (hk : 600 ≤ k) (a b : ByteArray) (ha : a.size ≤ 1000000000) (hb : b.size ≤ 1000000000) : wellspringref02_Same.f k a b = some (same a b) := by
  unfold wellspringref02_Same.f same
  rw [ref_check_eq k hk a ha, ref_check_eq k hk b hb, small_eq a ha, small_eq b hb]
  simp only [Option.bind_some, toList_beq]
  cases isN a <;> cases isN b <;> simp
end Go.Proofs.Ytdkkanpbcifkfaa.ZQ

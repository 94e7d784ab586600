/- Small letters: of a name's parts, twice, and of names. -/
import Derived.Test.YtdkkanpbcifkfaaZCmpW
set_option linter.unusedVariables false
set_option linter.unusedSimpArgs false
namespace Go.Proofs.Ytdkkanpbcifkfaa.ZQ
open Go.RowKit Go.Proofs.YtdkkanpbcifkfaaW.PrintWords Go.Proofs.YtdkkanpbcifkfaaW.PrintLast Go.Proofs.YtdkkanpbcifkfaaW.PrintMore Go.Proofs.Ytdkkanpbcifkfaa.B

theorem numsOf_range (s : ByteArray) : ∀ x ∈ numsOf s, 0 ≤ x ∧ x ≤ 255 := by
  intro x hx
  unfold numsOf at hx
  obtain ⟨b, _, rfl⟩ := List.mem_map.mp hx
  have := b.toNat_lt
  omega
theorem smallI_range {x : Int} (h : 0 ≤ x ∧ x ≤ 255) : 0 ≤ smallI x ∧ smallI x ≤ 255 := by unfold smallI; split <;> omega
theorem smallI_idem (x : Int) : smallI (smallI x) = smallI x := by
  unfold smallI
  by_cases h : 65 ≤ x ∧ x ≤ 90
  · rw [if_pos h, if_neg (by omega)]
  · rw [if_neg h, if_neg h]
theorem numsOf_nums (xs : List Int) (h : ∀ x ∈ xs, 0 ≤ x ∧ x ≤ 255) : numsOf (strOfNums xs) = xs := by
  unfold numsOf
  rw [strOfNums_data, List.map_map]
  conv => rhs; rw [← List.map_id xs]
  refine List.map_congr_left fun x hx => ?_
  have := h x hx
  simp [UInt8.toNat_ofNat']
  omega
theorem nums_low (s : ByteArray) : numsOf (lowB s) = (numsOf s).map smallI := by
  unfold lowB
  refine numsOf_nums _ fun x hx => ?_
  obtain ⟨y, hy, rfl⟩ := List.mem_map.mp hx
  exact smallI_range (numsOf_range s y hy)
theorem lowB_idem (s : ByteArray) : lowB (lowB s) = lowB s := by
  show strOfNums ((numsOf (lowB s)).map smallI) = strOfNums ((numsOf s).map smallI)
  rw [nums_low, List.map_map]
  exact congrArg strOfNums (List.map_congr_left fun x _ => smallI_idem x)
theorem lowB_sg (b : Int) (h : 0 ≤ b ∧ b ≤ 63) : lowB (sg b) = sg b := by
  have e : numsOf (sg b) = [b] := numsOf_nums [b] (by intro x hx; simp only [List.mem_singleton] at hx; omega)
  unfold lowB
  rw [e]
  have : smallI b = b := by unfold smallI; rw [if_neg (by omega)]
  rw [List.map_cons, List.map_nil, this]
  rfl
theorem lowB_root : lowB root = root := by rw [root_sg]; exact lowB_sg 0 (by omega)
theorem okL_low {x : ByteArray} (h : okL x) : okL (lowB x) := by unfold okL at *; rw [lowB_size]; exact h
theorem lowB_enc : ∀ (l : List ByteArray), (∀ x ∈ l, okL x) → lowB (enc l) = enc (l.map lowB)
  | [], _ => by rw [enc_nil, List.map_nil, enc_nil, lowB_root]
  | x :: l, h => by
    have hx := h x (by simp)
    rw [enc_cons, lowB_append, lowB_append, lowB_enc l (fun y hy => h y (by simp [hy])), List.map_cons, enc_cons, lowB_size, lowB_sg _ (by have := hx.2; omega)]
theorem okL_map {l : List ByteArray} (h : ∀ x ∈ l, okL x) : ∀ x ∈ l.map lowB, okL x := by
  intro x hx
  obtain ⟨y, hy, rfl⟩ := List.mem_map.mp hx
  exact okL_low (h y hy)
theorem isN_low {n : ByteArray} (h : isN n = true) : isN (lowB n) = true := by
  obtain ⟨l, rfl, hok, hz⟩ := isN_iff.mp h
  rw [lowB_enc l hok]
  refine isN_enc (okL_map hok) ?_
  rw [← lowB_enc l hok, lowB_size]; exact hz
end Go.Proofs.Ytdkkanpbcifkfaa.ZQ

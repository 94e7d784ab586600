/- The statements CompReads, CompNames and CompPrefix, over numbers and bytes. -/
import Derived.Test.YtdkkanpbcifkfaaZCmp
import Derived.Test.YtdkkanpbcifkfaaZQ10
import Derived.Test.YtdkkanpbcifkfaaZQ13
import Derived.Test.YtdkkanpbcifkfaaZQ15
set_option linter.unusedVariables false
set_option linter.unusedSimpArgs false
namespace Go.Proofs.Ytdkkanpbcifkfaa.ZQ
open Go.RowKit Go.Proofs.YtdkkanpbcifkfaaW.PrintWords Go.Proofs.YtdkkanpbcifkfaaW.PrintLast Go.Proofs.YtdkkanpbcifkfaaW.PrintMore Go.Proofs.Ytdkkanpbcifkfaa.B

theorem clive (k : Nat) (hk : 20 ≤ k) : wellspringlaw04_live.f k = some true := by
  refine at_rounds (fun k => wellspringlaw04_live.mono k) hk ?_
  decide +kernel
theorem CompReads : wellspringlaw04_CompReads.Pure := by
  intro msg i ws wi
  refine ⟨rounds i, ?_⟩
  have hk : 20 ≤ rounds i := by unfold rounds; omega
  unfold wellspringlaw04_CompReads.f
  rw [clive _ hk]
  by_cases hs : (msg.size : Int) > 2000
  · rw [if_pos hs]; rfl
  · rw [if_neg hs]
    obtain ⟨R, h1, h2⟩ := read_ends (rounds i) msg i (by omega) (Nat.le_refl _)
    rw [h1, h2]
    simp
theorem CompNames : wellspringlaw04_CompNames.Pure := by
  intro msg i ws wi
  refine ⟨rounds i + 600, ?_⟩
  have hk : 20 ≤ rounds i + 600 := by unfold rounds; omega
  unfold wellspringlaw04_CompNames.f
  rw [clive _ hk]
  by_cases hs : (msg.size : Int) > 2000
  · rw [if_pos hs]; rfl
  · rw [if_neg hs]
    obtain ⟨R, h1, h2⟩ := read_ends (rounds i + 600) msg i (by omega) (by omega)
    rw [h1]
    simp only [Option.bind_some]
    rcases read_tells (by omega) h1 with ⟨e, hn, h0, h3, h4⟩ | ⟨he, hn, h0⟩
    · obtain ⟨l, hl, _, hz⟩ := isN_iff.mp hn
      rw [if_pos e, ref_check_eq _ (by omega) _ (by omega), hn]
      simp only [Option.bind_some, if_true]
      rw [if_pos h0, if_pos h3, if_pos h4]
    · have e0 : ¬ R.2.2 = 0 := by rcases he with he | he <;> omega
      rw [if_neg e0, hn, if_pos (toList_nil.mpr rfl), if_pos h0]
      rcases he with he | he
      · rw [if_pos he]
      · rw [if_neg (by omega), if_pos he]
theorem prefix_j1 (k : Nat) (hk : 30 ≤ k) (msg : ByteArray) (i cut : Int) (n : ByteArray) (nx e : Int) (hm : msg.size ≤ 3000) (hr : rounds i ≤ k - 1) (hc0 : 0 ≤ cut) (hc1 : cut ≤ (msg.size : Int))
    (h : comp_Read.f (k - 1) msg i = some (n, nx, e)) : wellspringlaw04_CompPrefix.j1 k msg i cut n nx e false = some true := by
  obtain ⟨k, rfl⟩ : ∃ m, k = m + 1 := ⟨k - 1, by omega⟩
  simp only [Nat.add_sub_cancel] at h hr
  rw [wellspringlaw04_CompPrefix.j1]
  have hz : (msg.extract 0 cut.toNat).size = cut.toNat := by rw [ByteArray.size_extract]; omega
  obtain ⟨R, h1, _⟩ := read_ends k (msg.extract 0 cut.toNat) i (by omega) hr
  have hsp : msg = msg.extract 0 cut.toNat ++ msg.extract cut.toNat msg.size := by
    rw [ByteArray.extract_append_extract, show min 0 cut.toNat = 0 from by omega, show max cut.toNat msg.size = msg.size from by omega, ByteArray.extract_zero_size]
  have key : R.2.2 = 0 → R = (n, nx, e) := by
    intro h0
    have := read_longer k _ (msg.extract cut.toNat msg.size) i i (-1) ⟨#[]⟩ R h0 ((read_f (by omega)).mp h1)
    rw [← hsp, (read_f (by omega)).mp h] at this
    exact (Option.some.inj this).symm
  simp only [Bool.false_eq_true, if_false, if_pos hc0, if_pos hc1, h1, Option.bind_some, clive k (by omega)]
  by_cases h0 : R.2.2 = 0
  · have hR := key h0
    subst hR
    simp only at h0
    subst h0
    simp
  · simp [h0]
theorem CompPrefix : wellspringlaw04_CompPrefix.Pure := by
  intro msg i cut ws wi wc
  refine ⟨rounds i + 40, ?_⟩
  unfold wellspringlaw04_CompPrefix.f
  have ht : wellspringlaw04_CompPrefix.j0 (rounds i + 40) msg i cut true = some true := by
    show wellspringlaw04_CompPrefix.j0 (rounds i + 39 + 1) msg i cut true = some true
    rw [wellspringlaw04_CompPrefix.j0, if_pos rfl, clive _ (by omega)]; rfl
  by_cases hs : (msg.size : Int) > 2000
  · rw [if_pos hs]; exact ht
  · rw [if_neg hs]
    by_cases c0 : cut < 0
    · rw [if_pos c0]; exact ht
    · rw [if_neg c0]
      by_cases c1 : cut > (msg.size : Int)
      · rw [decide_eq_true c1]; exact ht
      · rw [decide_eq_false c1]
        show wellspringlaw04_CompPrefix.j0 (rounds i + 39 + 1) msg i cut false = some true
        obtain ⟨R, h1, _⟩ := read_ends (rounds i + 39) msg i (by omega) (by omega)
        obtain ⟨S, h2, _⟩ := read_ends (rounds i + 39) (msg ++ (⟨#[0, 1]⟩ : ByteArray)) i (by rw [ByteArray.size_append]; show _ + 2 ≤ _; omega) (by omega)
        rw [wellspringlaw04_CompPrefix.j0, if_neg Bool.false_ne_true, h1, h2]
        simp only [Option.bind_some]
        rw [if_pos (by omega)]
        obtain ⟨R1, R2, R3⟩ := R
        have hj : ∀ b, b = false → wellspringlaw04_CompPrefix.j1 (rounds i + 39) msg i cut R1 R2 R3 b = some true := by
          rintro b rfl
          obtain ⟨R', h3, _⟩ := read_ends (rounds i + 38) msg i (by omega) (by omega)
          have h4 := read_mono_k (k' := rounds i + 39) (by omega) h3
          rw [h1] at h4
          obtain rfl := Option.some.inj h4
          exact prefix_j1 (rounds i + 39) (by unfold rounds; omega) msg i cut R1 R2 R3 (by omega) (by omega) (by omega) (by omega) h3
        by_cases h0 : R3 = 0
        · subst h0
          have := read_longer (rounds i + 39) msg (⟨#[0, 1]⟩ : ByteArray) i i (-1) ⟨#[]⟩ _ rfl ((read_f (by omega)).mp h1)
          rw [(read_f (by rw [ByteArray.size_append]; show _ + 2 ≤ _; omega)).mp h2] at this
          obtain rfl := Option.some.inj this
          simp only [if_true]
          exact hj _ (by simp)
        · rw [if_neg h0]
          exact hj _ rfl
end Go.Proofs.Ytdkkanpbcifkfaa.ZQ

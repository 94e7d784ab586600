/- Reading names out of messages: that a reading ends; that the reference reads the same; what is read; that a longer message is read alike. Conditions: on sizes alone. -/
import Derived.Test.YtdkkanpbcifkfaaZNmF
import Derived.Test.YtdkkanpbcifkfaaZRefOct
import Derived.Test.YtdkkanpbcifkfaaZQ8
import Derived.Test.YtdkkanpbcifkfaaZQ9
set_option linter.unusedVariables false
set_option linter.unusedSimpArgs false
namespace Go.Proofs.Ytdkkanpbcifkfaa.ZQ
open Go.RowKit Go.Proofs.YtdkkanpbcifkfaaW.PrintWords Go.Proofs.YtdkkanpbcifkfaaW.PrintLast Go.Proofs.YtdkkanpbcifkfaaW.PrintMore Go.Proofs.Ytdkkanpbcifkfaa.B

theorem get2_ge {msg : ByteArray} {i : Int} (h : 192 ≤ bt msg i) : 49152 ≤ getN 2 msg i ∧ getN 2 msg i ≤ 65535 := by
  have h1 := bt_range msg i
  have h2 := bt_range msg (i + 1)
  simp [getN]
  omega
theorem wsum (a b : Nat) (c : Int) (h : (b : Int) = 1 + c) (ha : a ≤ 254) (hb : c ≤ 63) (h0 : 0 ≤ c) : wrap64 (((a + b : Nat) : Int) + 1) = a + (1 + c) + 1 := by
  rw [w64 (by omega) (by omega)]; omega
set_option maxHeartbeats 4000000 in
/-- A reading ends, and the reference reads the same. -/
theorem read_both (d : Nat) : ∀ (k : Nat) (msg : ByteArray) (i l n : Int) (t : ByteArray), l.toNat + (255 - t.size) < d → d + 10 ≤ k → msg.size ≤ 100000 → t.size ≤ 254 → (n = -1 ∨ 0 ≤ n) →
    ∃ R, comp_Read.l k msg i l n t = some R ∧ wellspringref04_Read.l0 k msg i t n l = some R := by
  induction d with
  | zero => intro k msg i l n t h; omega
  | succ d ih =>
    intro k msg i l n t hd hk hm ht hn
    obtain ⟨k, rfl⟩ : ∃ m, k = m + 1 := ⟨k - 1, by omega⟩
    rw [comp_Read.l, wellspringref04_Read.l0, ref_get_eq k (by omega) msg i 1 (by omega), ref_get_eq k (by omega) msg i 2 (by omega)]
    simp only [Option.bind_some]
    by_cases g1 : okGet msg i 1
    · have hr := bt_range msg i
      have e1 : getN (1 : Int).toNat msg i = bt msg i := getN_one msg i
      have hi0 := g1.1
      have hi1 := g1.2.2.2
      simp only [if_pos g1, e1, if_true]
      by_cases c0 : bt msg i = 0
      · simp only [if_pos c0]
        have z : t.size + 1 ≤ 9223372036854775807 := by omega
        simp only [if_pos z]
        rw [w64 (n := i + 1) (by omega) (by omega)]
        rcases hn with rfl | hn
        · rw [if_pos (show (-1 : Int) < 0 by omega), if_pos rfl]; exact ⟨_, rfl, rfl⟩
        · rw [if_neg (show ¬ n < 0 by omega), if_neg (show ¬ n = -1 by omega)]; exact ⟨_, rfl, rfl⟩
      · simp only [if_neg c0]
        by_cases c1 : 192 ≤ bt msg i
        · have hg := get2_ge c1
          simp only [if_pos c1, if_pos (show bt msg i ≥ 192 from c1)]
          by_cases g2 : okGet msg i 2
          · have e2 : getN (2 : Int).toNat msg i = getN 2 msg i := rfl
            have hi2 := g2.2.2.2
            simp only [if_pos g2, e2, if_true]
            rw [w64 (n := getN 2 msg i - 49152) (by omega) (by omega), w64 (n := i + 2) (by omega) (by omega)]
            by_cases c2 : getN 2 msg i - 49152 ≥ l
            · rw [if_pos c2, if_pos c2]
              exact ⟨_, rfl, rfl⟩
            · rw [if_neg c2, if_neg c2]
              rcases hn with rfl | hn
              · rw [if_pos (show (-1 : Int) < 0 by omega), if_pos rfl]
                exact ih k msg _ _ _ t (by omega) (by omega) hm ht (.inr (by omega))
              · rw [if_neg (show ¬ n < 0 by omega), if_neg (show ¬ n = -1 by omega)]
                exact ih k msg _ _ _ t (by omega) (by omega) hm ht (.inr hn)
          · simp only [if_neg g2, Bool.false_eq_true, if_false]
            exact ⟨_, rfl, rfl⟩
        · simp only [if_neg c1, if_neg (show ¬ bt msg i ≥ 192 from c1)]
          by_cases c2 : 63 < bt msg i
          · rw [if_pos c2, if_pos (show bt msg i > 63 from c2)]
            exact ⟨_, rfl, rfl⟩
          · rw [if_neg c2, if_neg (show ¬ bt msg i > 63 from c2), w64 (n := bt msg i + 1) (by omega) (by omega), ref_take_eq msg i _ (by omega), show bt msg i + 1 = 1 + bt msg i from by omega]
            simp only [Option.bind_some]
            by_cases g3 : okTake msg i (1 + bt msg i)
            · have hz := size_ext g3.1 g3.2.1 g3.2.2
              simp only [if_pos g3, if_true]
              have hsz : t.size + (msg.extract i.toNat (i + (1 + bt msg i)).toNat).size ≤ 9223372036854775807 := by omega
              rw [if_pos hsz, ByteArray.size_append, wsum _ _ _ hz ht (by omega) (by omega)]
              clear hsz
              by_cases c3 : (t.size : Int) + (1 + bt msg i) ≥ 255
              · rw [if_pos c3, if_pos (show (t.size : Int) + (1 + bt msg i) + 1 > 255 by omega)]
                exact ⟨_, rfl, rfl⟩
              · have hb := g3.2.2
                rw [if_neg c3, if_neg (show ¬ (t.size : Int) + (1 + bt msg i) + 1 > 255 by omega), w64 (n := i + bt msg i) (by omega) (by omega), w64 (n := i + bt msg i + 1) (by omega) (by omega), show i + bt msg i + 1 = i + (1 + bt msg i) from by omega]
                exact ih k msg _ _ _ _ (by rw [ByteArray.size_append]; omega) (by omega) hm (by rw [ByteArray.size_append]; omega) hn
            · simp only [if_neg g3, Bool.false_eq_true, if_false]
              exact ⟨_, rfl, rfl⟩
    · simp only [if_neg g1, Bool.false_eq_true, if_false]
      exact ⟨_, rfl, rfl⟩
theorem read_mono_k {k k' : Nat} (hk : k ≤ k') {msg : ByteArray} {i : Int} {R : ByteArray × Int × Int} (h : comp_Read.f k msg i = some R) : comp_Read.f k' msg i = some R := at_rounds (fun k => comp_Read.mono msg i k) hk h
/-- The rounds that a reading wants. -/
def rounds (i : Int) : Nat := i.toNat + 300
theorem read_ends (k : Nat) (msg : ByteArray) (i : Int) (hm : msg.size ≤ 100000) (hk : rounds i ≤ k) : ∃ R, comp_Read.f k msg i = some R ∧ wellspringref04_Read.f k msg i = some R := by
  unfold rounds at hk
  obtain ⟨R, h1, h2⟩ := read_both (i.toNat + 256) k msg i i (-1) ⟨#[]⟩ (by rw [size_mk0]; omega) (by omega) hm (by decide) (.inl rfl)
  refine ⟨R, ?_, h2⟩
  unfold comp_Read.f
  rw [if_pos (by omega)]
  exact h1
/-- What a reading has read so far: labels. -/
def pre (t : ByteArray) : Prop := ∃ ls, t = encP ls ∧ ∀ x ∈ ls, okL x
theorem pre_nil : pre ⟨#[]⟩ := ⟨[], rfl, by simp⟩
theorem pre_snoc {t x : ByteArray} (h : pre t) (hx : okL x) : pre (t ++ (sg x.size ++ x)) := by
  obtain ⟨ls, rfl, hok⟩ := h
  refine ⟨ls ++ [x], ?_, ?_⟩
  · rw [encP_append]; simp only [encP]; rw [append_empty]
  · intro y hy
    rcases List.mem_append.mp hy with hy | hy
    · exact hok y hy
    · rw [List.mem_singleton] at hy; subst hy; exact hx
theorem label_ext {msg : ByteArray} {i : Int} (h : okTake msg i (1 + bt msg i)) (h1 : 1 ≤ bt msg i) (h2 : bt msg i ≤ 63) : ∃ x, okL x ∧ msg.extract i.toNat (i + (1 + bt msg i)).toNat = sg x.size ++ x := by
  obtain ⟨g0, g1, g2⟩ := h
  have hz := size_ext g0 g1 g2
  refine ⟨msg.extract (i.toNat + 1) (i + (1 + bt msg i)).toNat, ?_, ?_⟩
  · unfold okL; rw [ByteArray.size_extract]; omega
  · have e : (msg.extract (i.toNat + 1) (i + (1 + bt msg i)).toNat).size = (bt msg i).toNat := by rw [ByteArray.size_extract]; omega
    rw [e]
    have h3 : msg.extract i.toNat (i.toNat + 1) = sg ((bt msg i).toNat : Nat) := by
      refine ext_bt (by rw [sg_size, ByteArray.size_extract]; omega) fun j j0 j1 => ?_
      rw [ByteArray.size_extract] at j1
      have : j = 0 := by omega
      subst this
      rw [bt_extract (by omega) (by rw [ByteArray.size_extract]; omega), sg_bt _ (by omega)]
      rw [show ((i.toNat : Nat) : Int) + 0 = i from by omega]
      omega
    rw [← h3, ByteArray.extract_append_extract]
    congr 1 <;> omega
/-- What is read is a name, and lies within the message. -/
theorem read_name (k : Nat) : ∀ (msg : ByteArray) (a i l n : Int) (t : ByteArray) (R : ByteArray × Int × Int), 0 ≤ a → pre t → t.size ≤ 254 → ((n = -1 ∧ a ≤ i) ∨ (a < n ∧ n ≤ (msg.size : Int))) → comp_Read.l k msg i l n t = some R →
    (R.2.2 = 0 ∧ isN R.1 = true ∧ a < R.2.1 ∧ R.2.1 ≤ (msg.size : Int)) ∨ ((R.2.2 = 2 ∨ R.2.2 = 3) ∧ R.1 = ⟨#[]⟩ ∧ R.2.1 = 0) := by
  induction k with
  | zero => intro msg a i l n t R _ _ _ _ h; simp [comp_Read.l] at h
  | succ k ih =>
    intro msg a i l n t R ha hp ht hn h
    rw [comp_Read.l] at h
    by_cases g1 : okGet msg i 1
    · have hr := bt_range msg i
      have hi0 := g1.1
      have hi1 := g1.2.2.2
      rw [if_pos g1] at h
      by_cases c0 : bt msg i = 0
      · rw [if_pos c0] at h
        cases h
        left
        refine ⟨rfl, ?_, ?_⟩
        · obtain ⟨ls, rfl, hok⟩ := hp
          exact isN_iff.mpr ⟨ls, rfl, hok, by rw [ByteArray.size_append]; show _ + root.size ≤ 255; rw [root_size]; omega⟩
        · rcases hn with ⟨rfl, hn⟩ | hn
          · rw [if_pos rfl]; exact ⟨(by show a < i + 1; omega), (by show i + 1 ≤ (msg.size : Int); omega)⟩
          · rw [if_neg (by omega)]; exact hn
      · rw [if_neg c0] at h
        by_cases c1 : 192 ≤ bt msg i
        · rw [if_pos c1] at h
          have hg := get2_ge c1
          by_cases g2 : okGet msg i 2
          · rw [if_pos g2] at h
            have hi2 := g2.2.2.2
            by_cases c2 : getN 2 msg i - 49152 ≥ l
            · rw [if_pos c2] at h
              cases h; right; exact ⟨.inr rfl, rfl, rfl⟩
            · rw [if_neg c2] at h
              rcases hn with ⟨rfl, hn⟩ | hn
              · rw [if_pos rfl] at h
                exact ih msg a _ _ _ t R ha hp ht (.inr ⟨by omega, by omega⟩) h
              · rw [if_neg (by omega)] at h
                exact ih msg a _ _ _ t R ha hp ht (.inr hn) h
          · rw [if_neg g2] at h
            cases h; right; exact ⟨.inl rfl, rfl, rfl⟩
        · rw [if_neg c1] at h
          by_cases c2 : 63 < bt msg i
          · rw [if_pos c2] at h
            cases h; right; exact ⟨.inr rfl, rfl, rfl⟩
          · rw [if_neg c2] at h
            by_cases g3 : okTake msg i (1 + bt msg i)
            · rw [if_pos g3] at h
              by_cases c3 : (t.size : Int) + (1 + bt msg i) ≥ 255
              · rw [if_pos c3] at h
                cases h; right; exact ⟨.inr rfl, rfl, rfl⟩
              · rw [if_neg c3] at h
                have hz := size_ext g3.1 g3.2.1 g3.2.2
                obtain ⟨x, hx, hxe⟩ := label_ext g3 (by omega) (by omega)
                refine ih msg a _ _ _ _ R ha ?_ (by rw [ByteArray.size_append]; omega) ?_ h
                · rw [hxe]; exact pre_snoc hp hx
                · rcases hn with ⟨rfl, hn⟩ | hn
                  · exact .inl ⟨rfl, by omega⟩
                  · exact .inr hn
            · rw [if_neg g3] at h
              cases h; right; exact ⟨.inl rfl, rfl, rfl⟩
    · rw [if_neg g1] at h
      cases h; right; exact ⟨.inl rfl, rfl, rfl⟩
theorem read_f {k : Nat} {msg : ByteArray} {i : Int} {R : ByteArray × Int × Int} (hm : msg.size ≤ 100000) : comp_Read.f k msg i = some R ↔ comp_Read.l k msg i i (-1) ⟨#[]⟩ = some R := by
  unfold comp_Read.f; rw [if_pos (by omega)]
/-- What is read, of the whole. -/
theorem read_tells {k : Nat} {msg : ByteArray} {i : Int} {R : ByteArray × Int × Int} (hm : msg.size ≤ 100000) (h : comp_Read.f k msg i = some R) :
    (R.2.2 = 0 ∧ isN R.1 = true ∧ 0 ≤ i ∧ i < R.2.1 ∧ R.2.1 ≤ (msg.size : Int)) ∨ ((R.2.2 = 2 ∨ R.2.2 = 3) ∧ R.1 = ⟨#[]⟩ ∧ R.2.1 = 0) := by
  rw [read_f hm] at h
  by_cases h0 : 0 ≤ i
  · rcases read_name k msg i i i (-1) ⟨#[]⟩ R h0 pre_nil (by decide) (.inl ⟨rfl, Int.le_refl _⟩) h with ⟨h1, h2, h3, h4⟩ | h1
    · exact .inl ⟨h1, h2, h0, h3, h4⟩
    · exact .inr h1
  · cases k with
    | zero => simp [comp_Read.l] at h
    | succ k =>
      rw [comp_Read.l, if_neg (fun g => h0 g.1)] at h
      cases h; right; exact ⟨.inl rfl, rfl, rfl⟩
end Go.Proofs.Ytdkkanpbcifkfaa.ZQ

/- What records hold, the data at any place: program and reference tell the same. Conditions: on sizes alone. -/
import Derived.Test.YtdkkanpbcifkfaaZDat
set_option linter.unusedVariables false
set_option linter.unusedSimpArgs false
namespace Go.Proofs.Ytdkkanpbcifkfaa.ZQ
open Go.RowKit Go.Proofs.YtdkkanpbcifkfaaW.PrintWords Go.Proofs.YtdkkanpbcifkfaaW.PrintLast Go.Proofs.YtdkkanpbcifkfaaW.PrintMore Go.Proofs.Ytdkkanpbcifkfaa.B

theorem cat_append (l m : List ByteArray) : strings_Join.cat (l ++ m) = strings_Join.cat l ++ strings_Join.cat m := by
  induction l with
  | nil => exact (empty_append _).symm
  | cons x l ih => rw [List.cons_append, strings_Join.cat, ih, strings_Join.cat, ByteArray.append_assoc]
theorem cat_one (x : ByteArray) : strings_Join.cat [x] = x := append_empty x
theorem isN_size {n : ByteArray} (h : isN n = true) : n.size ≤ 255 := by
  obtain ⟨l, _, _, hz⟩ := isN_iff.mp h; exact hz
theorem cat_size : ∀ {l : List ByteArray}, (∀ x ∈ l, isN x = true) → (strings_Join.cat l).size ≤ 255 * l.length
  | [], _ => Nat.zero_le _
  | x :: l, h => by
    have h1 := isN_size (h x (by simp))
    have h2 := cat_size (l := l) (fun y hy => h y (by simp [hy]))
    rw [strings_Join.cat, ByteArray.size_append, List.length_cons]
    omega
/-- What is told of data that are right so far. -/
def fin2 (d : ByteArray) : ByteArray × Int := if (d.size : Int) > 65535 then (⟨#[]⟩, 4) else (d, 0)
theorem fin2_some (d : ByteArray) : (if (d.size : Int) > 65535 then some ((⟨#[]⟩ : ByteArray), (4 : Int)) else some (d, 0)) = some (fin2 d) := by
  unfold fin2; split <;> rfl
/-- The data at a place. -/
def expS (msg : ByteArray) (i size : Int) (s : Int × Int × Int) : ByteArray × Int :=
  if s.1 ≤ size then (match rdL msg (i + size) s.2.1.toNat (i + s.1) [] with
    | some R => if R.2 + s.2.2 = i + size then fin2 (msg.extract i.toNat (i + s.1).toNat ++ strings_Join.cat R.1 ++ msg.extract R.2.toNat (i + size).toNat) else (⟨#[]⟩, 4)
    | none => (⟨#[]⟩, 4)) else (⟨#[]⟩, 4)
def expd (msg : ByteArray) (i size kind : Int) : ByteArray × Int :=
  if okTake msg i size then (match data_Expand.shp kind with
    | some s => expS msg i size s
    | none => if kind = 16 then (if txts (msg.extract i.toNat (i + size).toNat) = true then fin2 (msg.extract i.toNat (i + size).toNat) else (⟨#[]⟩, 4)) else fin2 (msg.extract i.toNat (i + size).toNat))
  else (⟨#[]⟩, 2)
theorem shp_cases {kind : Int} {s : Int × Int × Int} (h : data_Expand.shp kind = some s) : 0 ≤ s.1 ∧ s.1 ≤ 16 ∧ 0 ≤ s.2.1 ∧ s.2.1 ≤ 2 ∧ 0 ≤ s.2.2 ∧ s.2.2 ≤ 20 ∧ kind ≠ 16 ∧ (s.1 = 0 → s.2.1 = 0 → False) := by
  unfold data_Expand.shp at h
  repeat' split at h
  all_goals (first | (cases h; subst_vars; decide) | cases h)
theorem fin_eq (k : Nat) (hk : K0 ≤ k) (kind : Int) (hkind : kind ≠ 16) (d : ByteArray) : data_Expand.fin k kind d true = some (fin2 d) := by
  unfold data_Expand.fin
  rw [if_pos rfl, if_neg hkind, fin2_some]
theorem fin_false (k : Nat) (kind : Int) (d : ByteArray) : data_Expand.fin k kind d false = some (⟨#[]⟩, 4) := by
  unfold data_Expand.fin; rw [if_neg Bool.false_ne_true]
theorem take_none (msg : ByteArray) (i size kind : Int) (k : Nat) (hk : K0 ≤ k) (hm : msg.size ≤ 100000) (f : ByteArray → Option Bool) (hf : ∀ s, s.size ≤ 100000 → f s = some (txts s)) (t : ByteArray) (ht : t.size ≤ 100000) :
    (if kind = 16 then ((f t).bind fun b => if b = true then (if (t.size : Int) > 65535 then some ((⟨#[]⟩ : ByteArray), (4 : Int)) else some (t, 0)) else some (⟨#[]⟩, 4)) else (if (t.size : Int) > 65535 then some (⟨#[]⟩, 4) else some (t, 0))) =
      some (if kind = 16 then (if txts t = true then fin2 t else (⟨#[]⟩, 4)) else fin2 t) := by
  rw [hf t ht, fin2_some]
  simp only [Option.bind_some]
  split
  · split <;> rfl
  · rfl
theorem exp_shape (k : Nat) (hk : K0 + 10 ≤ k) (msg : ByteArray) (i size kind : Int) (hm : msg.size ≤ 100000) (ht : okTake msg i size) (s : Int × Int × Int) (hs : data_Expand.shp kind = some s) : data_Expand.g k msg i size kind s = some (expS msg i size s) := by
  obtain ⟨h0, h1, h2⟩ := ht
  obtain ⟨a1, a2, a3, a4, a5, a6, a7, a8⟩ := shp_cases hs
  obtain ⟨s0, s1, s2⟩ := s
  simp only at a1 a2 a3 a4 a5 a6 a8
  have e1 : wrap64 (i + size) = i + size := w64 (by omega) (by omega)
  have e2 : wrap64 (i + size - i) = size := by rw [w64 (by omega) (by omega)]; omega
  have e3 : wrap64 (i + s0) = i + s0 := w64 (by omega) (by omega)
  unfold data_Expand.g data_read.f expS
  simp only [e1, e2, e3]
  by_cases c : s0 ≤ size
  · rw [if_pos c, if_pos c, if_pos h0, if_pos (by omega), if_pos (by omega)]
    obtain ⟨k, rfl⟩ : ∃ j, k = j + 1 := ⟨k - 1, by omega⟩
    rw [read_l0 msg (i + size) s0 s1 s2 _ _ hm h2 ⟨a5, by omega⟩ s1 (by omega) s1.toNat k (i + s0) 0 [] (by omega) (by omega) (Int.le_refl _) (by omega) (by omega) (by simp only [List.length_nil]; omega)]
    have hz : (msg.extract i.toNat (i + s0).toNat).size ≤ 16 := by rw [ByteArray.size_extract]; omega
    cases hr : rdL msg (i + size) s1.toNat (i + s0) [] with
    | none =>
      simp only [Option.bind_some]
      rw [if_pos (by decide), if_pos (by decide), fin_false]
    | some R =>
      obtain ⟨b1, b2, b3, l', b4, b5⟩ := rdL_range msg _ hm _ _ _ R hr (by omega)
      have hcz := cat_size b5
      rw [List.nil_append] at b4
      rw [← b4] at hcz
      rw [List.length_nil, Nat.zero_add] at b3
      have hbz : (msg.extract R.2.toNat (i + size).toNat).size = (i + size - R.2).toNat := by rw [ByteArray.size_extract]; omega
      simp only [Option.bind_some]
      rw [if_pos (by omega), if_pos (by omega)]
      by_cases d : R.2 + s2 = i + size
      · rw [if_pos d, show (((msg.extract R.2.toNat (i + size).toNat).size : Int) == s2) = true from beq_iff_eq.mpr (by omega), fin_eq k.succ (by omega) kind a7]
      · rw [if_neg d, show (((msg.extract R.2.toNat (i + size).toNat).size : Int) == s2) = false from beq_eq_false_iff_ne.mpr (by omega), fin_false]
  · rw [if_neg c, if_neg c]
    simp only [Option.bind_some]
    rw [if_pos (by decide), if_pos (by decide), fin_false]
theorem exp_eq (k : Nat) (hk : K0 + 10 ≤ k) (msg : ByteArray) (i size kind : Int) (hm : msg.size ≤ 100000) : data_Expand.f k msg i size kind = some (expd msg i size kind) := by
  unfold data_Expand.f expd
  rw [take_eq msg i size (by omega)]
  simp only [Option.bind_some]
  by_cases ht : okTake msg i size
  · rw [if_pos ht, if_pos ht]
    simp only [if_true]
    cases hs : data_Expand.shp kind with
    | some s => exact exp_shape k hk msg i size kind hm ht s hs
    | none =>
      have hz : (msg.extract i.toNat (i + size).toNat).size ≤ 100000 := by rw [ByteArray.size_extract]; omega
      have := take_none msg i size kind k (by omega) hm (data_texts.f k) (fun s h => texts_eq k (by omega) s h) _ hz
      unfold data_Expand.fin
      rw [if_pos rfl]
      exact this
  · rw [if_neg ht, if_neg ht]; rfl
/-! The reference. -/
theorem ref_shape_eq (k : Nat) (hk : 1 ≤ k) (kind : Int) : wellspringref05_shape.f k kind = some ((data_Expand.shp kind).getD (0, 0, 0)) := by
  obtain ⟨k, rfl⟩ : ∃ j, k = j + 1 := ⟨k - 1, by omega⟩
  unfold wellspringref05_shape.f data_Expand.shp
  simp only [wellspringref05_shape.j0]
  by_cases h1 : kind = 1
  · subst h1; rfl
  by_cases h2 : kind = 28
  · subst h2; rfl
  by_cases h3 : kind = 2
  · subst h3; rfl
  by_cases h4 : kind = 5
  · subst h4; rfl
  by_cases h5 : kind = 12
  · subst h5; rfl
  by_cases h6 : kind = 6
  · subst h6; rfl
  by_cases h7 : kind = 15
  · subst h7; rfl
  by_cases h8 : kind = 33
  · subst h8; rfl
  simp [h1, h2, h3, h4, h5, h6, h7, h8]
theorem ref_over (msg : ByteArray) (i size s0 s1 s2 : Int) (hm : msg.size ≤ 100000) (ht : okTake msg i size) (h2 : 0 ≤ s2 ∧ s2 ≤ 1000) (hs : s1 ≤ 100) : ∀ (n k : Nat) (j x : Int) (out : ByteArray), K0 + n ≤ k → x + n = s1 → 0 ≤ x → i + size < j → j ≤ (msg.size : Int) → out.size + 300 * n ≤ 1000000 →
    wellspringref05_Expand.l0 (k + 1) msg i size out j x s0 s1 s2 = some (⟨#[]⟩, 4)
  | 0, k, j, x, out, hk, hx, hx0, hj, hjm, ho => by
    obtain ⟨t0, t1, t2⟩ := ht
    rw [wellspringref05_Expand.l0, if_neg (by omega), w64 (n := j + s2) (by omega) (by omega), w64 (n := i + size) (by omega) (by omega), if_neg (by omega)]
  | n + 1, k, j, x, out, hk, hx, hx0, hj, hjm, ho => by
    obtain ⟨k, rfl⟩ : ∃ m, k = m + 1 := ⟨k - 1, by omega⟩
    rw [wellspringref05_Expand.l0, if_pos (by omega), ref_rd_eq (k + 1) msg j hm (rounds_le hm (by omega) (by omega))]
    simp only [Option.bind_some]
    rcases rd_tells msg j hm with ⟨b1, b2, _, b4, b5⟩ | ⟨b1, _⟩
    · have hz := isN_size b2
      rw [if_pos b1, if_pos (by omega), w64 (n := x + 1) (by omega) (by omega)]
      exact ref_over msg i size s0 s1 s2 hm ht h2 hs n k _ _ _ (by omega) (by omega) (by omega) (by omega) b5 (by rw [ByteArray.size_append]; omega)
    · rw [if_neg (by omega)]
theorem ref_l0 (msg : ByteArray) (i size s0 s1 s2 : Int) (a : ByteArray) (hm : msg.size ≤ 100000) (ht : okTake msg i size) (h2 : 0 ≤ s2 ∧ s2 ≤ 1000) (hs : s1 ≤ 100) : ∀ (n k : Nat) (j x : Int) (l : List ByteArray), K0 + n ≤ k → x + n = s1 → 0 ≤ x → 0 ≤ j → j ≤ i + size → (a ++ strings_Join.cat l).size + 300 * n ≤ 800000 →
    wellspringref05_Expand.l0 (k + 1) msg i size (a ++ strings_Join.cat l) j x s0 s1 s2 = some (match rdL msg (i + size) n j l with
      | some R => if R.2 + s2 = i + size then fin2 (a ++ strings_Join.cat R.1 ++ msg.extract R.2.toNat (i + size).toNat) else (⟨#[]⟩, 4)
      | none => (⟨#[]⟩, 4))
  | 0, k, j, x, l, hk, hx, hx0, hj0, hj, ho => by
    obtain ⟨t0, t1, t2⟩ := ht
    rw [wellspringref05_Expand.l0, if_neg (by omega), w64 (n := j + s2) (by omega) (by omega), w64 (n := i + size) (by omega) (by omega), rdL]
    simp only
    by_cases c : j + s2 = i + size
    · have hz : (msg.extract j.toNat (i + size).toNat).size ≤ 100000 := by rw [ByteArray.size_extract]; omega
      rw [if_pos c, if_pos c, if_pos hj0, if_pos hj, if_pos t2, if_pos (by omega), fin2_some]
    · rw [if_neg c, if_neg c]
  | n + 1, k, j, x, l, hk, hx, hx0, hj0, hj, ho => by
    have ht0 := ht
    obtain ⟨t0, t1, t2⟩ := ht
    obtain ⟨k, rfl⟩ : ∃ m, k = m + 1 := ⟨k - 1, by omega⟩
    rw [wellspringref05_Expand.l0, if_pos (by omega), ref_rd_eq (k + 1) msg j hm (rounds_le hm (by omega) (by omega)), rdL]
    simp only [Option.bind_some]
    rcases rd_tells msg j hm with ⟨b1, b2, _, b4, b5⟩ | ⟨b1, _⟩
    · have hz := isN_size b2
      rw [if_pos b1, if_pos b1, if_pos (by omega), w64 (n := x + 1) (by omega) (by omega)]
      by_cases c : (rdR msg j).2.1 > i + size
      · rw [if_pos c]
        exact ref_over msg i size s0 s1 s2 hm ht0 h2 hs n k _ _ _ (by omega) (by omega) (by omega) (by omega) b5 (by rw [ByteArray.size_append]; omega)
      · rw [if_neg c]
        have e : a ++ strings_Join.cat l ++ (rdR msg j).1 = a ++ strings_Join.cat (l ++ [(rdR msg j).1]) := by rw [cat_append, cat_one, ByteArray.append_assoc]
        rw [e]
        exact ref_l0 msg i size s0 s1 s2 a hm ht0 h2 hs n k _ _ _ (by omega) (by omega) (by omega) (by omega) (by omega) (by rw [← e, ByteArray.size_append]; omega)
    · rw [if_neg (by omega), if_neg (by omega)]
theorem ref_exp_eq (k : Nat) (hk : K0 + 10 ≤ k) (msg : ByteArray) (i size kind : Int) (hm : msg.size ≤ 100000) : wellspringref05_Expand.f k msg i size kind = some (expd msg i size kind) := by
  unfold wellspringref05_Expand.f expd
  rw [ref_take_eq msg i size (by omega), ref_shape_eq k (by omega)]
  simp only [Option.bind_some]
  by_cases ht : okTake msg i size
  · rw [if_pos ht, if_pos ht]
    simp only [if_true]
    obtain ⟨t0, t1, t2⟩ := ht
    have hz : (msg.extract i.toNat (i + size).toNat).size = size.toNat := by rw [ByteArray.size_extract]; omega
    cases hs : data_Expand.shp kind with
    | none =>
      simp only [Option.getD_none]
      rw [if_pos (by decide)]
      exact take_none msg i size kind k (by omega) hm (wellspringref05_texts.f k) (fun s h => ref_texts_eq k (by omega) s h) _ (by omega)
    | some s =>
      obtain ⟨a1, a2, a3, a4, a5, a6, a7, a8⟩ := shp_cases hs
      obtain ⟨s0, s1, s2⟩ := s
      simp only at a1 a2 a3 a4 a5 a6 a8
      simp only [Option.getD_some]
      have main : (if s0 > size then some ((⟨#[]⟩ : ByteArray), (4 : Int)) else (if 0 ≤ s0 then (if s0 ≤ ((msg.extract i.toNat (i + size).toNat).size : Int) then (wellspringref05_Expand.l0 k msg i size ((msg.extract i.toNat (i + size).toNat).extract 0 (s0 : Int).toNat) (wrap64 (i + s0)) 0 s0 s1 s2) else none) else none)) = some (expS msg i size (s0, s1, s2)) := by
        unfold expS
        simp only
        by_cases c : s0 > size
        · rw [if_pos c, if_neg (by omega)]
        · rw [if_neg c, if_pos a1, if_pos (by omega), if_pos (by omega), w64 (by omega) (by omega)]
          obtain ⟨k, rfl⟩ : ∃ j, k = j + 1 := ⟨k - 1, by omega⟩
          have e : (msg.extract i.toNat (i + size).toNat).extract 0 s0.toNat = msg.extract i.toNat (i + s0).toNat := by
            rw [ByteArray.extract_extract]; congr 1 <;> omega
          have hz2 : (msg.extract i.toNat (i + s0).toNat).size ≤ 16 := by rw [ByteArray.size_extract]; omega
          have h := ref_l0 msg i size s0 s1 s2 (msg.extract i.toNat (i + s0).toNat) hm ⟨t0, t1, t2⟩ ⟨a5, by omega⟩ (by omega) s1.toNat k (i + s0) 0 [] (by omega) (by omega) (Int.le_refl _) (by omega) (by omega) (by simp only [strings_Join.cat, append_empty]; omega)
          simp only [strings_Join.cat, append_empty] at h
          rw [e, h]
      have hne : ¬ ((s0 == 0 && (s1 == 0 && (s2 == 0))) = true) := by
        intro h
        simp only [Bool.and_eq_true, beq_iff_eq] at h
        exact a8 h.1 h.2.1
      rw [if_neg hne]
      exact main
  · rw [if_neg ht, if_neg ht]; rfl
end Go.Proofs.Ytdkkanpbcifkfaa.ZQ

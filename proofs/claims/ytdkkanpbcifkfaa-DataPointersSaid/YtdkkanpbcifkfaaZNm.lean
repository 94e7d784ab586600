/- Names as lists of labels: plain facts on bytes. No conditions. -/
import Derived.Test.YtdkkanpbcifkfaaZRow
set_option linter.unusedVariables false
set_option linter.unusedSimpArgs false
namespace Go.Proofs.Ytdkkanpbcifkfaa.B
open Go.RowKit Go.Proofs.YtdkkanpbcifkfaaW.PrintWords
/-- One byte. -/
def sg (b : Int) : ByteArray := strOfNums [b]
def root : ByteArray := ⟨#[0]⟩
theorem sg_size (b : Int) : (sg b).size = 1 := by unfold sg; rw [strOfNums_size]; rfl
theorem root_size : root.size = 1 := rfl
theorem sg_bt (b : Int) (h : 0 ≤ b ∧ b ≤ 255) : bt (sg b) 0 = b := by
  unfold sg; rw [bt_nums [b] 0 (by simpa using h)]; rfl
theorem root_bt : bt root 0 = 0 := by decide
/-- A name's labels, without its end. -/
def encP : List ByteArray → ByteArray
  | [] => ⟨#[]⟩
  | x :: l => sg x.size ++ x ++ encP l
def enc (l : List ByteArray) : ByteArray := encP l ++ root
def okL (x : ByteArray) : Prop := 1 ≤ x.size ∧ x.size ≤ 63
instance (x : ByteArray) : Decidable (okL x) := by unfold okL; infer_instance
theorem enc_nil : enc [] = root := empty_append _
theorem enc_cons (x : ByteArray) (l : List ByteArray) : enc (x :: l) = sg x.size ++ x ++ enc l := by unfold enc; rw [encP, ByteArray.append_assoc]
theorem encP_append (l m : List ByteArray) : encP (l ++ m) = encP l ++ encP m := by
  induction l with
  | nil => simp only [List.nil_append, encP]; exact (empty_append _).symm
  | cons x l ih => simp only [List.cons_append, encP, ih, ByteArray.append_assoc]
theorem enc_size_pos (l : List ByteArray) : 1 ≤ (enc l).size := by unfold enc; rw [ByteArray.size_append, root_size]; omega
theorem encP_size_cons (x : ByteArray) (l : List ByteArray) : (encP (x :: l)).size = 1 + x.size + (encP l).size := by simp only [encP, ByteArray.size_append, sg_size]
theorem enc_size (l : List ByteArray) : (enc l).size = (encP l).size + 1 := by unfold enc; rw [ByteArray.size_append, root_size]
/-- Taking apart what is one byte, a label, and more. -/
theorem cut_bt {b : Int} {x r : ByteArray} (h : 0 ≤ b ∧ b ≤ 255) : bt (sg b ++ x ++ r) 0 = b := by
  rw [ByteArray.append_assoc, bt_append_left (by omega) (by rw [sg_size]; omega), sg_bt b h]
theorem cut_label {b : Int} {x r : ByteArray} : (sg b ++ x ++ r).extract 1 (1 + x.size) = x := by
  rw [ByteArray.append_assoc, show (1 : Nat) = (sg b).size + 0 from by rw [sg_size], show (sg b).size + 0 + x.size = (sg b).size + x.size from by omega, ByteArray.extract_append_size_add, ByteArray.extract_append_eq_left rfl]
theorem cut_rest {b : Int} {x r : ByteArray} : (sg b ++ x ++ r).extract (1 + x.size) (sg b ++ x ++ r).size = r := by
  have : (sg b ++ x).size = 1 + x.size := by rw [ByteArray.size_append, sg_size]
  have h := extract_app_right (sg b ++ x) r
  rw [this] at h
  exact h
theorem cut_size {b : Int} {x r : ByteArray} : (sg b ++ x ++ r).size = 1 + x.size + r.size := by simp only [ByteArray.size_append, sg_size]
/-- A text that begins with a length. -/
theorem uncut (n : ByteArray) (k : Nat) (hk : (k : Int) = bt n 0) (hlt : 1 + k ≤ n.size) : n = sg k ++ n.extract 1 (1 + k) ++ n.extract (1 + k) n.size := by
  have h1 : n.extract 0 1 = sg k := by
    have hz : (n.extract 0 1).size = 1 := by rw [ByteArray.size_extract]; omega
    refine ext_bt (by rw [hz, sg_size]) fun i h0 hi => ?_
    have : i = 0 := by omega
    subst this
    have hr := bt_range n 0
    rw [bt_extract (by omega) (by rw [hz]; omega), sg_bt _ (by omega), hk]
    rfl
  rw [← h1, ByteArray.extract_append_extract, show min 0 1 = 0 from rfl, show max 1 (1 + k) = 1 + k from by omega, ByteArray.extract_append_extract]
  rw [show min 0 (1 + k) = 0 from by omega, show max (1 + k) n.size = n.size from by omega, ByteArray.extract_zero_size]
/-- A text's labels, if it is a name (its size aside). -/
def labsF : Nat → ByteArray → Option (List ByteArray)
  | 0, _ => none
  | k + 1, n =>
    if n.size = 0 then none
    else if n = root then some []
    else if 1 ≤ bt n 0 ∧ bt n 0 ≤ 63 ∧ bt n 0 + 1 < (n.size : Int) then
      (labsF k (n.extract (1 + (bt n 0).toNat) n.size)).map (n.extract 1 (1 + (bt n 0).toNat) :: ·)
    else none
theorem labsF_sound : ∀ (k : Nat) (n : ByteArray) (l : List ByteArray), labsF k n = some l → n = enc l ∧ ∀ x ∈ l, okL x
  | 0, _, _, h => by simp [labsF] at h
  | k + 1, n, l, h => by
    rw [labsF] at h
    split at h
    · cases h
    · split at h
      · rename_i hr
        cases h
        exact ⟨by rw [enc_nil]; exact hr, by simp⟩
      · split at h
        · rename_i hc
          obtain ⟨m, hm, rfl⟩ := Option.map_eq_some_iff.mp h
          obtain ⟨e, hok⟩ := labsF_sound k _ m hm
          have hz : (n.extract 1 (1 + (bt n 0).toNat)).size = (bt n 0).toNat := by rw [ByteArray.size_extract]; omega
          refine ⟨?_, ?_⟩
          · rw [enc_cons, hz, ← e]
            exact uncut n _ (by omega) (by omega)
          · intro x hx
            rcases List.mem_cons.mp hx with rfl | hx
            · unfold okL; omega
            · exact hok x hx
        · cases h
theorem enc_ne_root (x : ByteArray) (l : List ByteArray) (h : okL x) : enc (x :: l) ≠ root := by
  intro e
  have := congrArg ByteArray.size e
  have h2 := enc_size_pos l
  have h1 := h.1
  rw [enc_cons, cut_size, root_size] at this
  omega
theorem labsF_enc : ∀ (k : Nat) (l : List ByteArray), (∀ x ∈ l, okL x) → (enc l).size ≤ k → labsF k (enc l) = some l
  | 0, l, _, hk => by have := enc_size_pos l; omega
  | k + 1, [], _, _ => by
    rw [labsF, enc_nil, if_neg (by rw [root_size]; omega), if_pos rfl]
  | k + 1, x :: l, hok, hk => by
    have hx := hok x (by simp)
    have h1 := enc_size_pos l
    have hr := enc_ne_root x l hx
    obtain ⟨hx1, hx2⟩ := hx
    rw [enc_cons] at hk hr ⊢
    rw [cut_size] at hk
    rw [labsF, if_neg (by rw [cut_size]; omega), if_neg hr, cut_bt (by omega), cut_size, if_pos (by omega)]
    have e : ((x.size : Int)).toNat = x.size := by omega
    have hc := @cut_rest (x.size : Int) x (enc l)
    rw [cut_size] at hc
    rw [e, cut_label, hc, labsF_enc k l (fun y hy => hok y (by simp [hy])) (by omega)]
    rfl
/-- A text's labels, if it is a name. -/
def labs (n : ByteArray) : Option (List ByteArray) := if n.size ≤ 255 then labsF 255 n else none
theorem labs_some {n : ByteArray} {l : List ByteArray} (h : labs n = some l) : n = enc l ∧ (∀ x ∈ l, okL x) ∧ n.size ≤ 255 := by
  unfold labs at h
  split at h
  · exact ⟨(labsF_sound _ _ _ h).1, (labsF_sound _ _ _ h).2, by assumption⟩
  · cases h
theorem labs_enc {l : List ByteArray} (hok : ∀ x ∈ l, okL x) (hz : (enc l).size ≤ 255) : labs (enc l) = some l := by
  unfold labs
  rw [if_pos hz, labsF_enc _ _ hok hz]
theorem labsF_le : ∀ (k : Nat) (n : ByteArray), n.size ≤ k → labsF k n = labsF n.size n := by
  intro k n hk
  cases h : labsF k n with
  | some l =>
    obtain ⟨e, hok⟩ := labsF_sound _ _ _ h
    subst e
    exact (labsF_enc _ _ hok (Nat.le_refl _)).symm
  | none =>
    cases h2 : labsF n.size n with
    | none => rfl
    | some l =>
      obtain ⟨e, hok⟩ := labsF_sound _ _ _ h2
      rw [e] at h hk
      rw [labsF_enc k l hok hk] at h
      cases h
theorem labsF_size {n : ByteArray} (h : 1 ≤ n.size) : labsF n.size n = if n = root then some [] else if 1 ≤ bt n 0 ∧ bt n 0 ≤ 63 ∧ bt n 0 + 1 < (n.size : Int) then
      (labsF (n.extract (1 + (bt n 0).toNat) n.size).size (n.extract (1 + (bt n 0).toNat) n.size)).map (n.extract 1 (1 + (bt n 0).toNat) :: ·) else none := by
  obtain ⟨k, hk⟩ : ∃ k, n.size = k + 1 := ⟨n.size - 1, by omega⟩
  conv => lhs; rw [hk, labsF]
  rw [if_neg (by omega)]
  split
  · rfl
  · split
    · rw [labsF_le k _ (by rw [ByteArray.size_extract]; omega)]
    · rfl
/-- Is it a name? -/
def isN (n : ByteArray) : Bool := (labs n).isSome
/-- Are two names the same? -/
def same (a b : ByteArray) : Bool := isN a && isN b && decide (lowB a = lowB b)
theorem isN_iff {n : ByteArray} : isN n = true ↔ ∃ l, n = enc l ∧ (∀ x ∈ l, okL x) ∧ n.size ≤ 255 := by
  unfold isN
  constructor
  · intro h
    obtain ⟨l, hl⟩ := Option.isSome_iff_exists.mp h
    exact ⟨l, labs_some hl⟩
  · rintro ⟨l, rfl, h1, h2⟩
    rw [labs_enc h1 h2]; rfl
end Go.Proofs.Ytdkkanpbcifkfaa.B

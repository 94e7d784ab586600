/- Writing names behind another one: what the program and the reference write; that it is read back. Conditions: on sizes alone. -/
import Derived.Test.YtdkkanpbcifkfaaZCmp
import Derived.Test.YtdkkanpbcifkfaaZQ7
import Derived.Test.YtdkkanpbcifkfaaZQ7
import Derived.Test.YtdkkanpbcifkfaaZQ3
import Derived.Test.YtdkkanpbcifkfaaZQ2
import Derived.Test.YtdkkanpbcifkfaaZQ2
import Derived.Test.YtdkkanpbcifkfaaZQ2
import Derived.Test.YtdkkanpbcifkfaaZQ8
set_option linter.unusedVariables false
set_option linter.unusedSimpArgs false
namespace Go.Proofs.Ytdkkanpbcifkfaa.ZQ
open Go.RowKit Go.Proofs.YtdkkanpbcifkfaaW.PrintWords Go.Proofs.YtdkkanpbcifkfaaW.PrintLast Go.Proofs.YtdkkanpbcifkfaaW.PrintMore Go.Proofs.Ytdkkanpbcifkfaa.B

/-- Where among a name's ends one begins that is the same as another name. -/
def plL : List ByteArray → Int → ByteArray → Int
  | [], _, _ => -1
  | x :: m, o, r => if same (enc (x :: m)) r then o else plL m (o + 1 + x.size) r
/-- A name written behind another one. -/
def wrL (m : List ByteArray) (a : Int) : List ByteArray → ByteArray → ByteArray
  | [], p => p ++ root
  | x :: l, p => if 0 ≤ plL m 0 (enc (x :: l)) then p ++ putB (49152 + a + plL m 0 (enc (x :: l))) 2 else wrL m a l (p ++ (sg x.size ++ x))
theorem plL_range (m : List ByteArray) : ∀ (o : Int) (r : ByteArray), 0 ≤ o → plL m o r = -1 ∨ (o ≤ plL m o r ∧ plL m o r + 2 ≤ o + (enc m).size) := by
  induction m with
  | nil => intro o r _; left; rfl
  | cons x m ih =>
    intro o r ho
    rw [plL, enc_cons, cut_size]
    split
    · right; have := enc_size_pos m; omega
    · rcases ih (o + 1 + x.size) r (by omega) with h | h
      · left; exact h
      · right; omega
theorem enc_gt1 {x : ByteArray} {l : List ByteArray} (h : okL x) : ((enc (x :: l)).size : Int) > 1 := by
  rw [enc_cons, cut_size]; have := enc_size_pos l; have := h.1; omega
theorem place_list (m : List ByteArray) : ∀ (k : Nat) (base r : ByteArray) (o : Int), (∀ x ∈ m, okL x) → 2 * m.length + 605 ≤ k → (enc m).size ≤ 255 → base.size ≤ 1000 → r.size ≤ 1000 → o = base.size - (enc m).size → 0 ≤ o →
    comp_place.l0 k base r (enc m) true = some (plL m o r) := by
  induction m with
  | nil =>
    intro k base r o _ hk _ _ _ _ _
    obtain ⟨k, rfl⟩ : ∃ m, k = m + 2 := ⟨k - 2, by omega⟩
    rw [comp_place.l0, if_pos rfl, enc_nil, comp_place.j1, plL]
    rfl
  | cons x m ih =>
    intro k base r o hok hk hz hb hr ho ho0
    have hx := hok x (by simp)
    have h1 := enc_gt1 (l := m) hx
    have h2 := enc_size_pos m
    have hup := up_enc hok hz
    simp only [List.length_cons] at hk
    obtain ⟨k, rfl⟩ : ∃ m, k = m + 2 := ⟨k - 2, by omega⟩
    rw [comp_place.l0, if_pos rfl, decide_eq_true h1, comp_place.j1, if_pos rfl, same_eq k (by omega) _ _ (by omega) (by omega), up_eq k (by omega) _ (by omega), hup, plL]
    simp only [Option.bind_some]
    rw [w64 (by omega) (by omega), ← ho]
    split
    · rfl
    · rw [enc_cons, cut_size] at hz ho
      exact ih k base r _ (fun y hy => hok y (by simp [hy])) (by omega) (by omega) hb hr (by omega) (by omega)
theorem trim_eq (p r : ByteArray) (hp : p.size ≤ 100000) (hr : r.size ≤ 100000) : strings_TrimSuffix.f (p ++ r) r = some p := by
  unfold strings_TrimSuffix.f stringslite_TrimSuffix.f stringslite_HasSuffix.f
  have hz : (p ++ r).size = p.size + r.size := ByteArray.size_append
  have e : wrap64 (((p ++ r).size : Int) - (r.size : Int)) = p.size := by rw [w64 (by omega) (by omega)]; omega
  have h1 := extract_app_right p r
  have h2 := extract_app_left p r
  simp only [e, Int.toNat_natCast, h1, h2]
  rw [if_pos (by omega), if_pos (by omega), if_pos (by omega)]
  simp
  omega
theorem write_list (m : List ByteArray) (base : ByteArray) (a : Int) (hb : base = enc m) (hm : ∀ x ∈ m, okL x) (hbz : base.size ≤ 255) (ha : 0 ≤ a ∧ a ≤ 16000) (ls : List ByteArray) :
    ∀ (k : Nat) (n p : ByteArray), n = p ++ enc ls → n.size ≤ 255 → (∀ x ∈ ls, okL x) → 2 * ls.length + 1300 ≤ k → comp_Write.l0 k base a n (enc ls) true = some (wrL m a ls p) := by
  have hml : m.length ≤ 255 := by
    have : ∀ l : List ByteArray, l.length ≤ (enc l).size := fun l => by
      induction l with
      | nil => exact Nat.zero_le _
      | cons x l ih => rw [enc_cons, cut_size]; simp only [List.length_cons]; omega
    have := this m
    rw [← hb] at this
    omega
  induction ls with
  | nil =>
    intro k n p hn hz _ hk
    obtain ⟨k, rfl⟩ : ∃ m, k = m + 2 := ⟨k - 2, by omega⟩
    rw [comp_Write.l0, if_pos rfl, enc_nil, comp_Write.j2, wrL, hn, enc_nil]
    rfl
  | cons x l ih =>
    intro k n p hn hz hok hk
    have hx := hok x (by simp)
    have h1 := enc_gt1 (l := l) hx
    have hnz : n.size = p.size + (enc (x :: l)).size := by rw [hn, ByteArray.size_append]
    have hup := up_enc hok (by omega : (enc (x :: l)).size ≤ 255)
    simp only [List.length_cons] at hk
    obtain ⟨k, rfl⟩ : ∃ m, k = m + 2 := ⟨k - 2, by omega⟩
    have hpl : comp_place.f k base (enc (x :: l)) = some (plL m 0 (enc (x :: l))) := by
      unfold comp_place.f
      have := place_list m k base (enc (x :: l)) 0 hm (by omega) (by rw [← hb]; exact hbz) (by omega) (by omega) (by rw [← hb]; omega) (by omega)
      rw [← hb] at this
      exact this
    have hr := plL_range m 0 (enc (x :: l)) (by omega)
    rw [← hb] at hr
    rw [comp_Write.l0, if_pos rfl, decide_eq_true h1, comp_Write.j2, if_pos rfl, hpl, wrL]
    simp only [Option.bind_some]
    by_cases c : plL m 0 (enc (x :: l)) ≥ 0
    · rw [if_pos c, if_pos (show 0 ≤ plL m 0 (enc (x :: l)) from c), hn, trim_eq _ _ (by omega) (by omega)]
      have c2 : plL m 0 (enc (x :: l)) ≤ 255 := by omega
      generalize plL m 0 (enc (x :: l)) = q at *
      rw [w64 (n := 49152 + a) (by omega) (by omega), w64 (n := 49152 + a + q) (by omega) (by omega), put_eq k (by omega) _ _ (by omega)]
      simp only [Option.bind_some]
      have ho : okPut (49152 + a + q) 2 := ⟨by omega, by omega, by omega, by simp; omega⟩
      have hpz := putB_size _ _ ho
      rw [if_pos (by omega)]
    · rw [if_neg c, if_neg (show ¬ 0 ≤ plL m 0 (enc (x :: l)) from c), up_eq k (by omega) _ (by omega), hup]
      simp only [Option.bind_some]
      exact ih k n _ (by rw [hn, enc_cons]; simp only [ByteArray.append_assoc]) hz (fun y hy => hok y (by simp [hy])) (by omega)
/-- What is written. -/
def wr (base : ByteArray) (a : Int) (n : ByteArray) : ByteArray := match labs base, labs n with
  | some m, some ls => if 0 ≤ a ∧ a ≤ 16000 then wrL m a ls ⟨#[]⟩ else ⟨#[]⟩
  | _, _ => ⟨#[]⟩
theorem isN_labs {n : ByteArray} : isN n = (labs n).isSome := rfl
theorem len_le_enc (l : List ByteArray) : l.length ≤ (enc l).size := by
  induction l with
  | nil => exact Nat.zero_le _
  | cons x l ih => rw [enc_cons, cut_size]; simp only [List.length_cons]; omega
theorem write_eq (k : Nat) (hk : 2000 ≤ k) (base : ByteArray) (a : Int) (n : ByteArray) (hb : base.size ≤ 1000000) (hn : n.size ≤ 1000000) : comp_Write.f k base a n = some (wr base a n) := by
  obtain ⟨k, rfl⟩ : ∃ m, k = m + 1 := ⟨k - 1, by omega⟩
  unfold comp_Write.f wr
  rw [check_eq _ (by omega) base (by omega), check_eq _ (by omega) n (by omega)]
  simp only [Option.bind_some, isN_labs]
  have ht : comp_Write.j0 (k + 1) base a n true = some ⟨#[]⟩ := by rw [comp_Write.j0, if_pos rfl]
  cases h1 : labs base with
  | none => simp only [Option.isSome_none, Bool.false_eq_true, if_false]; exact ht
  | some m =>
    cases h2 : labs n with
    | none => simp only [Option.isSome_none, Option.isSome_some, Bool.false_eq_true, if_false, if_true]; exact ht
    | some ls =>
      obtain ⟨e1, o1, z1⟩ := labs_some h1
      obtain ⟨e2, o2, z2⟩ := labs_some h2
      simp only [Option.isSome_some, if_true]
      by_cases c0 : a < 0
      · rw [if_pos c0, if_neg (by omega)]; exact ht
      · rw [if_neg c0]
        by_cases c1 : a > 16000
        · rw [decide_eq_true c1, if_neg (by omega)]; exact ht
        · have := write_list m base a e1 o1 z1 ⟨by omega, by omega⟩ ls k n ⟨#[]⟩ (by rw [empty_append]; exact e2) z2 o2 (by have := len_le_enc ls; rw [← e2] at this; omega)
          rw [decide_eq_false c1, comp_Write.j0, if_neg Bool.false_ne_true, if_pos ⟨by omega, by omega⟩]
          rw [← e2] at this
          exact this
/-! The reference. -/
theorem ref_inner (m : List ByteArray) : ∀ (k : Nat) (base r n : ByteArray) (a o : Int), (∀ x ∈ m, okL x) → 2 * m.length + 700 ≤ k → (enc m).size ≤ 255 → base.size ≤ 255 → r.size ≤ n.size → n.size ≤ 255 → o = base.size - (enc m).size → 0 ≤ o → (0 ≤ a ∧ a ≤ 16000) →
    ∃ j, k ≤ j + m.length + 1 ∧ wellspringref04_Write.l1 k base a n r (enc m) = if 0 ≤ plL m o r then some (n.extract 0 (n.size - r.size) ++ putB (49152 + a + plL m o r) 2) else (wellspringref02_Up.f j r).bind fun b => wellspringref04_Write.l0 j base a n b.1 := by
  induction m with
  | nil =>
    intro k base r n a o _ hk _ _ _ _ _ _ _
    obtain ⟨k, rfl⟩ : ∃ m, k = m + 1 := ⟨k - 1, by omega⟩
    refine ⟨k, by simp, ?_⟩
    rw [wellspringref04_Write.l1, enc_nil, if_neg (by rw [root_size]; omega), plL, if_neg (by omega)]
  | cons x m ih =>
    intro k base r n a o hok hk hz hb hr hn ho ho0 ha
    have hx := hok x (by simp)
    have h1 := enc_gt1 (l := m) hx
    have h2 := enc_size_pos m
    have hup := up_enc hok hz
    simp only [List.length_cons] at hk
    obtain ⟨k, rfl⟩ : ∃ m, k = m + 1 := ⟨k - 1, by omega⟩
    rw [wellspringref04_Write.l1, if_pos h1, ref_same_eq k (by omega) _ _ (by omega) (by omega), plL]
    simp only [Option.bind_some]
    by_cases c : same (enc (x :: m)) r = true
    · refine ⟨k, by simp only [List.length_cons]; omega, ?_⟩
      simp only [c, if_true]
      have e1 : wrap64 ((n.size : Int) - (r.size : Int)) = ((n.size - r.size : Nat) : Int) := by rw [w64 (by omega) (by omega)]; omega
      rw [if_pos ho0, e1, if_pos (by omega), if_pos (by omega), w64 (n := 49152 + a) (by omega) (by omega), w64 (n := 49152 + a + (base.size : Int)) (by omega) (by omega), w64 (n := 49152 + a + (base.size : Int) - ((enc (x :: m)).size : Int)) (by omega) (by omega), ref_put_eq k (by omega) _ _ (by omega)]
      simp only [Option.bind_some, Int.toNat_natCast]
      have e2 : 49152 + a + (base.size : Int) - ((enc (x :: m)).size : Int) = 49152 + a + o := by omega
      rw [e2]
      have hop : okPut (49152 + a + o) 2 := ⟨by omega, by omega, by omega, by simp; omega⟩
      have hpz := putB_size _ _ hop
      rw [if_pos (by rw [ByteArray.size_extract]; omega)]
    · have c' : same (enc (x :: m)) r = false := Bool.eq_false_iff.mpr c
      have hz0 := hz
      rw [enc_cons, cut_size] at hz ho
      simp only [c', Bool.false_eq_true, if_false]
      rw [ref_up_eq k (by omega) _ (by omega), hup]
      simp only [Option.bind_some]
      obtain ⟨j, hj, hh⟩ := ih k base r n a (o + 1 + x.size) (fun y hy => hok y (by simp [hy])) (by omega) (by omega) hb hr hn (by omega) (by omega) ha
      exact ⟨j, by simp only [List.length_cons]; omega, hh⟩
theorem ref_write_list (m : List ByteArray) (base : ByteArray) (a : Int) (hb : base = enc m) (hm : ∀ x ∈ m, okL x) (hbz : base.size ≤ 255) (ha : 0 ≤ a ∧ a ≤ 16000) (ls : List ByteArray) :
    ∀ (k : Nat) (n p : ByteArray), n = p ++ enc ls → n.size ≤ 255 → (∀ x ∈ ls, okL x) → 300 * ls.length + 2000 ≤ k → wellspringref04_Write.l0 k base a n (enc ls) = some (wrL m a ls p) := by
  have hml : m.length ≤ 255 := by have := len_le_enc m; rw [← hb] at this; omega
  induction ls with
  | nil =>
    intro k n p hn hz _ hk
    obtain ⟨k, rfl⟩ : ∃ m, k = m + 1 := ⟨k - 1, by omega⟩
    rw [wellspringref04_Write.l0, enc_nil, if_neg (by rw [root_size]; omega), wrL, hn, enc_nil]
  | cons x l ih =>
    intro k n p hn hz hok hk
    have hx := hok x (by simp)
    have h1 := enc_gt1 (l := l) hx
    have hnz : n.size = p.size + (enc (x :: l)).size := by rw [hn, ByteArray.size_append]
    have hup := up_enc hok (by omega : (enc (x :: l)).size ≤ 255)
    simp only [List.length_cons] at hk
    obtain ⟨k, rfl⟩ : ∃ m, k = m + 1 := ⟨k - 1, by omega⟩
    obtain ⟨j, hj, hh⟩ := ref_inner m k base (enc (x :: l)) n a 0 hm (by omega) (by rw [← hb]; exact hbz) hbz (by omega) hz (by rw [← hb]; omega) (by omega) ha
    rw [← hb] at hh
    rw [wellspringref04_Write.l0, if_pos h1, hh, wrL]
    split
    · have : n.extract 0 (n.size - (enc (x :: l)).size) = p := by
        rw [hn, show (p ++ enc (x :: l)).size - (enc (x :: l)).size = p.size from by rw [ByteArray.size_append]; omega]
        exact extract_app_left _ _
      rw [this]
    · rw [ref_up_eq j (by omega) _ (by omega), hup]
      simp only [Option.bind_some]
      exact ih j n _ (by rw [hn, enc_cons]; simp only [ByteArray.append_assoc]) hz (fun y hy => hok y (by simp [hy])) (by omega)
theorem ref_write_eq (k : Nat) (hk : 100000 ≤ k) (base : ByteArray) (a : Int) (n : ByteArray) (hb : base.size ≤ 1000000) (hn : n.size ≤ 1000000) : wellspringref04_Write.f k base a n = some (wr base a n) := by
  obtain ⟨k, rfl⟩ : ∃ m, k = m + 1 := ⟨k - 1, by omega⟩
  unfold wellspringref04_Write.f wr
  rw [ref_check_eq _ (by omega) base (by omega), ref_check_eq _ (by omega) n (by omega)]
  simp only [Option.bind_some, isN_labs]
  have ht : wellspringref04_Write.j0 (k + 1) base a n true = some ⟨#[]⟩ := by rw [wellspringref04_Write.j0, if_pos rfl]
  cases h1 : labs base with
  | none => simp only [Option.isSome_none, Bool.false_eq_true, if_false]; exact ht
  | some m =>
    cases h2 : labs n with
    | none => simp only [Option.isSome_none, Option.isSome_some, Bool.false_eq_true, if_false, if_true]; exact ht
    | some ls =>
      obtain ⟨e1, o1, z1⟩ := labs_some h1
      obtain ⟨e2, o2, z2⟩ := labs_some h2
      simp only [Option.isSome_some, if_true]
      by_cases c0 : a < 0
      · rw [if_pos c0, if_neg (by omega)]; exact ht
      · rw [if_neg c0]
        by_cases c1 : a > 16000
        · rw [decide_eq_true c1, if_neg (by omega)]; exact ht
        · have := ref_write_list m base a e1 o1 z1 ⟨by omega, by omega⟩ ls k n ⟨#[]⟩ (by rw [empty_append]; exact e2) z2 o2 (by have := len_le_enc ls; rw [← e2] at this; omega)
          rw [decide_eq_false c1, wellspringref04_Write.j0, if_neg Bool.false_ne_true, if_pos ⟨by omega, by omega⟩]
          rw [← e2] at this
          exact this
/-! Reading back. -/
theorem sg_pos (A : ByteArray) (b : Int) (C : ByteArray) (hb : 0 ≤ b ∧ b ≤ 255) : bt (A ++ (sg b ++ C)) A.size = b := by
  rw [bt_append_right (by omega), show ((A.size : Int) - A.size) = 0 from by omega, bt_append_left (by omega) (by rw [sg_size]; omega), sg_bt b hb]
/-- Labels are read one behind the other. -/
theorem read_labels (ls : List ByteArray) : ∀ (k : Nat) (A C t : ByteArray) (l n : Int), (∀ x ∈ ls, okL x) → (t ++ encP ls).size ≤ 254 →
    comp_Read.l (k + ls.length) (A ++ (encP ls ++ C)) A.size l n t = comp_Read.l k (A ++ (encP ls ++ C)) (A.size + (encP ls).size : Nat) l n (t ++ encP ls) := by
  induction ls with
  | nil => intro k A C t l n _ _; simp only [encP, List.length_nil, Nat.add_zero, append_empty, size_mk0]
  | cons x ls ih =>
    intro k A C t l n hok hz
    have hx := hok x (by simp)
    obtain ⟨hx1, hx2⟩ := hx
    have hz' : t.size + (1 + x.size + (encP ls).size) ≤ 254 := by rw [ByteArray.size_append, encP_size_cons] at hz; exact hz
    have em : A ++ (encP (x :: ls) ++ C) = A ++ (sg x.size ++ (x ++ (encP ls ++ C))) := by simp only [encP, ByteArray.append_assoc]
    have hb : bt (A ++ (encP (x :: ls) ++ C)) A.size = x.size := by rw [em]; exact sg_pos A _ _ (by omega)
    have hsz : (A ++ (encP (x :: ls) ++ C)).size = A.size + (1 + x.size + (encP ls).size + C.size) := by rw [ByteArray.size_append, ByteArray.size_append, encP_size_cons]
    have g1 : okGet (A ++ (encP (x :: ls) ++ C)) A.size 1 := ⟨by omega, by omega, by omega, by omega⟩
    have g3 : okTake (A ++ (encP (x :: ls) ++ C)) A.size (1 + (x.size : Int)) := ⟨by omega, by omega, by omega⟩
    have hex : (A ++ (encP (x :: ls) ++ C)).extract ((A.size : Int)).toNat ((A.size : Int) + (1 + (x.size : Int))).toNat = sg x.size ++ x := by
      rw [show ((A.size : Int)).toNat = A.size + 0 from by omega, show ((A.size : Int) + (1 + (x.size : Int))).toNat = A.size + (1 + x.size) from by omega, ByteArray.extract_append_size_add]
      have e2 : encP (x :: ls) ++ C = (sg x.size ++ x) ++ (encP ls ++ C) := by simp only [encP, ByteArray.append_assoc]
      rw [e2]
      exact ByteArray.extract_append_eq_left (by rw [ByteArray.size_append, sg_size])
    show comp_Read.l (k + ls.length + 1) _ _ _ _ _ = _
    rw [comp_Read.l, if_pos g1, hb, if_neg (by omega), if_neg (by omega), if_neg (by omega), if_pos g3, if_neg (by omega), hex]
    have hA : ((A.size : Int) + (1 + (x.size : Int))) = (((A ++ (sg x.size ++ x)).size : Nat) : Int) := by rw [ByteArray.size_append, ByteArray.size_append, sg_size]; omega
    have em2 : A ++ (encP (x :: ls) ++ C) = (A ++ (sg x.size ++ x)) ++ (encP ls ++ C) := by simp only [encP, ByteArray.append_assoc]
    rw [hA, em2, ih k _ C _ l n (fun y hy => hok y (by simp [hy])) (by rw [ByteArray.size_append, ByteArray.size_append, ByteArray.size_append, sg_size]; omega)]
    congr 1
    · rw [ByteArray.size_append, ByteArray.size_append, sg_size, encP_size_cons]; congr 1; omega
    · simp only [encP, ByteArray.append_assoc]
theorem root_sg : root = sg 0 := by
  refine ext_bt (by rw [root_size, sg_size]) fun i h0 h1 => ?_
  rw [root_size] at h1
  have : i = 0 := by omega
  subst this
  rw [root_bt, sg_bt 0 (by omega)]
theorem read_root (k : Nat) (A C t : ByteArray) (l n : Int) : comp_Read.l (k + 1) (A ++ (root ++ C)) A.size l n t = some (t ++ root, (if n = -1 then (A.size : Int) + 1 else n), 0) := by
  have hb : bt (A ++ (root ++ C)) A.size = 0 := by rw [root_sg]; exact sg_pos A 0 C (by omega)
  have g1 : okGet (A ++ (root ++ C)) A.size 1 := ⟨by omega, by omega, by omega, by simp only [ByteArray.size_append, root_size]; omega⟩
  rw [comp_Read.l, if_pos g1, hb, if_pos rfl]
  rfl
/-- A name is read where it stands. -/
theorem read_whole (ls : List ByteArray) (k : Nat) (A C t : ByteArray) (l n : Int) (hok : ∀ x ∈ ls, okL x) (hz : (t ++ encP ls).size ≤ 254) :
    comp_Read.l (k + 1 + ls.length) (A ++ (enc ls ++ C)) A.size l n t = some (t ++ enc ls, (if n = -1 then (A.size : Int) + (enc ls).size else n), 0) := by
  have e : A ++ (enc ls ++ C) = A ++ (encP ls ++ (root ++ C)) := by unfold enc; simp only [ByteArray.append_assoc]
  rw [e, read_labels ls (k + 1) A (root ++ C) t l n hok hz]
  have e2 : A ++ (encP ls ++ (root ++ C)) = (A ++ encP ls) ++ (root ++ C) := by simp only [ByteArray.append_assoc]
  have e3 : ((A.size + (encP ls).size : Nat) : Int) = (((A ++ encP ls).size : Nat) : Int) := by rw [ByteArray.size_append]
  rw [e2, e3, read_root]
  rw [ByteArray.append_assoc, enc_size, ByteArray.size_append]
  congr 2
  (try (congr 1; split <;> first | omega | rfl))
theorem put2_eq (p : Int) (h0 : 0 ≤ p) (h1 : p ≤ 16383) : putB (49152 + p) 2 = sg (192 + p / 256) ++ sg (p % 256) := by
  unfold putB
  rw [if_pos ⟨by omega, by omega, by omega, by simp; omega⟩]
  refine ext_bt (by rw [strOfNums_size, ByteArray.size_append, sg_size, sg_size]; rfl) fun i i0 i1 => ?_
  rw [strOfNums_size] at i1
  rw [bt_nums _ _ (putL_range _ _)]
  have hi : i = 0 ∨ i = 1 := by
    have : (putL (2 : Int).toNat (49152 + p)).length = 2 := rfl
    omega
  rcases hi with rfl | rfl
  · rw [bt_append_left (by omega) (by rw [sg_size]; omega), sg_bt _ (by omega)]
    simp [putL]; omega
  · rw [bt_append_right (by rw [sg_size]; omega), sg_size, show ((1 : Int) - ((1 : Nat) : Int)) = 0 from by omega, sg_bt _ (by omega)]
    simp [putL]; omega
/-- A pointer is followed. -/
theorem read_pointer (k : Nat) (A C t : ByteArray) (l n p : Int) (h0 : 0 ≤ p) (h1 : p ≤ 16383) (hl : p < l) :
    comp_Read.l (k + 1) (A ++ (putB (49152 + p) 2 ++ C)) A.size l n t = comp_Read.l k (A ++ (putB (49152 + p) 2 ++ C)) p p (if n = -1 then (A.size : Int) + 2 else n) t := by
  have ep := put2_eq p h0 h1
  have hz : (A ++ (putB (49152 + p) 2 ++ C)).size = A.size + (2 + C.size) := by rw [ep]; simp only [ByteArray.size_append, sg_size]
  have hb : bt (A ++ (putB (49152 + p) 2 ++ C)) A.size = 192 + p / 256 := by
    rw [ep, ByteArray.append_assoc (a := sg _)]; exact sg_pos A _ _ (by omega)
  have hb2 : bt (A ++ (putB (49152 + p) 2 ++ C)) (A.size + 1) = p % 256 := by
    rw [ep]
    have : A ++ (sg (192 + p / 256) ++ sg (p % 256) ++ C) = (A ++ sg (192 + p / 256)) ++ (sg (p % 256) ++ C) := by simp only [ByteArray.append_assoc]
    rw [this]
    have := sg_pos (A ++ sg (192 + p / 256)) (p % 256) C (by omega)
    rw [ByteArray.size_append, sg_size] at this
    exact this
  have g1 : okGet (A ++ (putB (49152 + p) 2 ++ C)) A.size 1 := ⟨by omega, by omega, by omega, by omega⟩
  have g2 : okGet (A ++ (putB (49152 + p) 2 ++ C)) A.size 2 := ⟨by omega, by omega, by omega, by omega⟩
  have e2 : getN 2 (A ++ (putB (49152 + p) 2 ++ C)) A.size - 49152 = p := by
    simp only [getN]
    rw [show ((A.size : Int) + ((0 : Nat) : Int)) = A.size from by omega, show ((A.size : Int) + ((0 + 1 : Nat) : Int)) = A.size + 1 from by omega, hb, hb2]
    omega
  rw [comp_Read.l, if_pos g1, hb, if_neg (by omega), if_pos (by omega), if_pos g2, e2, if_neg (by omega)]
theorem nums_append' (xs ys : List Int) : strOfNums (xs ++ ys) = strOfNums xs ++ strOfNums ys := by
  refine ByteArray.ext ?_
  rw [ByteArray.data_append]
  simp [strOfNums]
theorem numsOf_append (a b : ByteArray) : numsOf (a ++ b) = numsOf a ++ numsOf b := by
  unfold numsOf; rw [ByteArray.data_append]; simp
theorem lowB_append (a b : ByteArray) : lowB (a ++ b) = lowB a ++ lowB b := by
  unfold lowB; rw [numsOf_append, List.map_append, nums_append']
theorem lowB_size (a : ByteArray) : (lowB a).size = a.size := by unfold lowB; rw [strOfNums_size, List.length_map, numsOf_length]
theorem same_iff {a b : ByteArray} : same a b = true ↔ isN a = true ∧ isN b = true ∧ lowB a = lowB b := by
  unfold same; simp only [Bool.and_eq_true, decide_eq_true_eq]; exact ⟨fun h => ⟨h.1.1, h.1.2, h.2⟩, fun h => ⟨⟨h.1, h.2.1⟩, h.2.2⟩⟩
theorem same_refl {a : ByteArray} (h : isN a = true) : same a a = true := same_iff.mpr ⟨h, h, rfl⟩
theorem isN_enc {l : List ByteArray} (hok : ∀ x ∈ l, okL x) (hz : (enc l).size ≤ 255) : isN (enc l) = true := isN_iff.mpr ⟨l, rfl, hok, hz⟩
theorem plL_form (m : List ByteArray) : ∀ (o : Int) (r : ByteArray), 0 ≤ o → 0 ≤ plL m o r → ∃ m1 m2, m = m1 ++ m2 ∧ m2 ≠ [] ∧ same (enc m2) r = true ∧ plL m o r = o + (encP m1).size := by
  induction m with
  | nil => intro o r _ h; simp [plL] at h
  | cons x m ih =>
    intro o r ho h
    rw [plL] at h ⊢
    by_cases c : same (enc (x :: m)) r = true
    · rw [if_pos c]
      exact ⟨[], x :: m, rfl, by simp, c, by simp only [encP, size_mk0]; omega⟩
    · rw [if_neg c] at h ⊢
      obtain ⟨m1, m2, h1, h2, h3, h4⟩ := ih _ r (by omega) h
      exact ⟨x :: m1, m2, by rw [h1]; rfl, h2, h3, by rw [h4, encP_size_cons]; omega⟩
theorem wrL_form (m : List ByteArray) (a : Int) (ls : List ByteArray) : ∀ p, wrL m a ls p = p ++ enc ls ∨
    ∃ l1 l2 m1 m2, ls = l1 ++ l2 ∧ l2 ≠ [] ∧ m = m1 ++ m2 ∧ m2 ≠ [] ∧ same (enc m2) (enc l2) = true ∧ wrL m a ls p = p ++ (encP l1 ++ putB (49152 + (a + (encP m1).size)) 2) := by
  induction ls with
  | nil => intro p; left; rw [wrL, enc_nil]
  | cons x l ih =>
    intro p
    rw [wrL]
    by_cases c : 0 ≤ plL m 0 (enc (x :: l))
    · rw [if_pos c]
      obtain ⟨m1, m2, h1, h2, h3, h4⟩ := plL_form m 0 _ (by omega) c
      right
      refine ⟨[], x :: l, m1, m2, rfl, by simp, h1, h2, h3, ?_⟩
      rw [h4]
      simp only [encP]
      rw [empty_append]
      congr 2
      omega
    · rw [if_neg c]
      rcases ih (p ++ (sg x.size ++ x)) with h | ⟨l1, l2, m1, m2, h1, h2, h3, h4, h5, h6⟩
      · left; rw [h, enc_cons, ByteArray.append_assoc]
      · right
        refine ⟨x :: l1, l2, m1, m2, by rw [h1]; rfl, h2, h3, h4, h5, ?_⟩
        rw [h6]; simp only [encP, ByteArray.append_assoc]
theorem enc_ge3 {l : List ByteArray} (hl : l ≠ []) (hok : ∀ x ∈ l, okL x) : 3 ≤ (enc l).size := by
  cases l with
  | nil => exact absurd rfl hl
  | cons x l => rw [enc_cons, cut_size]; have := (hok x (by simp)).1; have := enc_size_pos l; omega
/-- What is written behind a name that stands at A is read back, wherever it stands behind it. -/
theorem back_read (A D C : ByteArray) (m ls : List ByteArray) (hm : ∀ x ∈ m, okL x) (hmz : (enc m).size ≤ 255) (hls : ∀ x ∈ ls, okL x) (hlz : (enc ls).size ≤ 255) (hA : A.size ≤ 16000) :
    (wrL m A.size ls ⟨#[]⟩).size ≤ (enc ls).size ∧ 1 ≤ (wrL m A.size ls ⟨#[]⟩).size ∧
    ∃ R, same R (enc ls) = true ∧ ∀ k, 1000 ≤ k →
      comp_Read.l k ((A ++ (enc m ++ D)) ++ (wrL m A.size ls ⟨#[]⟩ ++ C)) (A ++ (enc m ++ D)).size (A ++ (enc m ++ D)).size (-1) ⟨#[]⟩ = some (R, ((A ++ (enc m ++ D)).size : Int) + (wrL m A.size ls ⟨#[]⟩).size, 0) := by
  have hp := enc_size ls
  have hll := len_le_enc ls
  rcases wrL_form m A.size ls ⟨#[]⟩ with h | ⟨l1, l2, m1, m2, h1, h2, h3, h4, h5, h6⟩
  · rw [empty_append] at h
    rw [h]
    refine ⟨Nat.le_refl _, enc_size_pos _, enc ls, same_refl (isN_enc hls hlz), ?_⟩
    intro k hk
    obtain ⟨j, rfl⟩ : ∃ j, k = j + 1 + ls.length := ⟨k - 1 - ls.length, by omega⟩
    rw [read_whole ls j _ C ⟨#[]⟩ _ _ hls (by rw [empty_append]; omega), empty_append, if_pos rfl]
  · rw [empty_append] at h6
    obtain ⟨q1, q2, q3⟩ := same_iff.mp h5
    have hz2 : (enc m2).size = (enc l2).size := by rw [← lowB_size (enc m2), q3, lowB_size]
    have hok1 : ∀ x ∈ l1, okL x := fun x hx => hls x (by rw [h1]; exact List.mem_append.mpr (.inl hx))
    have hok2 : ∀ x ∈ l2, okL x := fun x hx => hls x (by rw [h1]; exact List.mem_append.mpr (.inr hx))
    have hokm2 : ∀ x ∈ m2, okL x := fun x hx => hm x (by rw [h3]; exact List.mem_append.mpr (.inr hx))
    have hl2 := enc_ge3 h2 hok2
    have hm2 := enc_ge3 h4 hokm2
    have els : enc ls = encP l1 ++ enc l2 := by rw [h1, enc_append]
    have em : enc m = encP m1 ++ enc m2 := by rw [h3, enc_append]
    have zls : (enc ls).size = (encP l1).size + (enc l2).size := by rw [els, ByteArray.size_append]
    have zm : (enc m).size = (encP m1).size + (enc m2).size := by rw [em, ByteArray.size_append]
    have hpm2 := enc_size m2
    have ho : okPut (49152 + ((A.size : Int) + (encP m1).size)) 2 := ⟨by omega, by omega, by omega, by simp; omega⟩
    have hpz := putB_size _ _ ho
    have hwz : (wrL m A.size ls ⟨#[]⟩).size = (encP l1).size + 2 := by rw [h6, ByteArray.size_append]; omega
    refine ⟨by omega, by omega, encP l1 ++ enc m2, ?_, ?_⟩
    · refine same_iff.mpr ⟨?_, isN_enc hls hlz, ?_⟩
      · rw [← enc_append]
        refine isN_enc (fun x hx => ?_) (by rw [enc_append, ByteArray.size_append]; omega)
        rcases List.mem_append.mp hx with hx | hx
        · exact hok1 x hx
        · exact hokm2 x hx
      · rw [els, lowB_append, lowB_append, q3]
    · intro k hk
      have hl1 : l1.length ≤ (enc ls).size := by have h8 := congrArg List.length h1; rw [List.length_append] at h8; omega
      have hm2l := len_le_enc m2
      obtain ⟨j, rfl⟩ : ∃ j, k = j + 1 + m2.length + 1 + l1.length := ⟨k - 2 - l1.length - m2.length, by omega⟩
      rw [hwz, h6]
      generalize hX : A ++ (enc m ++ D) = X
      have hXz : X.size = A.size + ((enc m).size + D.size) := by rw [← hX, ByteArray.size_append, ByteArray.size_append]
      have e1 : X ++ (encP l1 ++ putB (49152 + ((A.size : Int) + (encP m1).size)) 2 ++ C) = X ++ (encP l1 ++ (putB (49152 + ((A.size : Int) + (encP m1).size)) 2 ++ C)) := by simp only [ByteArray.append_assoc]
      rw [e1, read_labels l1 (j + 1 + m2.length + 1) X _ ⟨#[]⟩ _ _ hok1 (by rw [empty_append]; omega), empty_append]
      have e2 : X ++ (encP l1 ++ (putB (49152 + ((A.size : Int) + (encP m1).size)) 2 ++ C)) = (X ++ encP l1) ++ (putB (49152 + ((A.size : Int) + (encP m1).size)) 2 ++ C) := by simp only [ByteArray.append_assoc]
      have e3 : ((X.size + (encP l1).size : Nat) : Int) = (((X ++ encP l1).size : Nat) : Int) := by rw [ByteArray.size_append]
      rw [e2, e3, read_pointer _ _ C _ _ _ _ (by omega) (by omega) (by omega), if_pos rfl]
      have e4 : (X ++ encP l1) ++ (putB (49152 + ((A.size : Int) + (encP m1).size)) 2 ++ C) = (A ++ encP m1) ++ (enc m2 ++ (D ++ (encP l1 ++ (putB (49152 + ((A.size : Int) + (encP m1).size)) 2 ++ C)))) := by
        rw [← hX, em]; simp only [ByteArray.append_assoc]
      have e5 : ((A.size : Int) + (encP m1).size) = (((A ++ encP m1).size : Nat) : Int) := by rw [ByteArray.size_append]; omega
      rw [e4]
      conv => lhs; rw [e5]
      rw [read_whole m2 j (A ++ encP m1) _ (encP l1) _ _ hokm2 (by rw [ByteArray.size_append]; omega), if_neg (by omega), ByteArray.size_append]
      congr 3
      (try omega)
end Go.Proofs.Ytdkkanpbcifkfaa.ZQ

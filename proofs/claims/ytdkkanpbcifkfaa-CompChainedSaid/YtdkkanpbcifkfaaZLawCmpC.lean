/- The statement CompChained: names written one behind another are all read back. -/
import Derived.Test.YtdkkanpbcifkfaaZLawCmpB
import Derived.Test.YtdkkanpbcifkfaaZQ14
set_option linter.unusedVariables false
set_option linter.unusedSimpArgs false
namespace Go.Proofs.Ytdkkanpbcifkfaa.ZQ
open Go.RowKit Go.Proofs.YtdkkanpbcifkfaaW.PrintWords Go.Proofs.YtdkkanpbcifkfaaW.PrintLast Go.Proofs.YtdkkanpbcifkfaaW.PrintMore Go.Proofs.Ytdkkanpbcifkfaa.B

theorem rd_mid {α} (d : α) (p : List α) (x : α) (s : List α) : rdOf d (p ++ x :: s) (p.length : Int) = x := by
  unfold rdOf; simp
/-- The names written behind the first one, one behind another. -/
def ws (m : List ByteArray) : List (List ByteArray) → ByteArray
  | [] => ⟨#[]⟩
  | x :: l => wrL m 12 x ⟨#[]⟩ ++ ws m l
theorem ws_size (m : List ByteArray) (hm : ∀ x ∈ m, okL x) (hmz : (enc m).size ≤ 255) (l : List (List ByteArray)) (hl : ∀ x ∈ l, (∀ y ∈ x, okL y) ∧ (enc x).size ≤ 255) : (ws m l).size ≤ 255 * l.length := by
  induction l with
  | nil => exact Nat.zero_le _
  | cons x l ih =>
    have h1 := hl x (by simp)
    have h2 := ih (fun y hy => hl y (by simp [hy]))
    obtain ⟨b1, _, _⟩ := back_read (⟨#[49, 50, 51, 52, 53, 54, 55, 56, 57, 97, 98, 99]⟩ : ByteArray) ⟨#[]⟩ ⟨#[]⟩ m x hm hmz h1.1 h1.2 (by decide)
    have e : (((⟨#[49, 50, 51, 52, 53, 54, 55, 56, 57, 97, 98, 99]⟩ : ByteArray).size : Nat) : Int) = 12 := rfl
    rw [e] at b1
    rw [ws, ByteArray.size_append]
    simp only [List.length_cons]
    omega
set_option maxRecDepth 20000 in
/-- All are read back. -/
theorem chain_read (m : List ByteArray) (hm : ∀ x ∈ m, okL x) (hmz : (enc m).size ≤ 255) (suf : List (List ByteArray)) :
    ∀ (k : Nat) (pre : List ByteArray) (D : ByteArray), (∀ x ∈ suf, (∀ y ∈ x, okL y) ∧ (enc x).size ≤ 255) → pre.length + suf.length ≤ 20 → D.size + 255 * suf.length ≤ 20000 → 2000 + suf.length ≤ k →
      wellspringlaw04_CompChained.l1 k (pre ++ suf.map enc) (((⟨#[49, 50, 51, 52, 53, 54, 55, 56, 57, 97, 98, 99]⟩ : ByteArray) ++ (enc m ++ D)) ++ ws m suf) (((⟨#[49, 50, 51, 52, 53, 54, 55, 56, 57, 97, 98, 99]⟩ : ByteArray) ++ (enc m ++ D)).size : Int) (pre.length : Int) = some true := by
  induction suf with
  | nil =>
    intro k pre D _ _ _ hk
    obtain ⟨k, rfl⟩ : ∃ j, k = j + 1 := ⟨k - 1, by omega⟩
    rw [wellspringlaw04_CompChained.l1, if_neg (by simp), ws, append_empty, if_pos rfl, clive k (by omega)]; rfl
  | cons x suf ih =>
    intro k pre D hs hn hD hk
    obtain ⟨k, rfl⟩ : ∃ j, k = j + 1 := ⟨k - 1, by omega⟩
    simp only [List.length_cons] at hn hk hD
    have hx := hs x (by simp)
    have hk1 : 1000 ≤ k := by omega
    have e12 : (((⟨#[49, 50, 51, 52, 53, 54, 55, 56, 57, 97, 98, 99]⟩ : ByteArray).size : Nat) : Int) = 12 := rfl
    have e12n : (⟨#[49, 50, 51, 52, 53, 54, 55, 56, 57, 97, 98, 99]⟩ : ByteArray).size = 12 := rfl
    obtain ⟨b1, b2, R, b3, b4⟩ := back_read (⟨#[49, 50, 51, 52, 53, 54, 55, 56, 57, 97, 98, 99]⟩ : ByteArray) D (ws m suf) m x hm hmz hx.1 hx.2 (by decide)
    have hread := b4 k hk1
    rw [e12] at hread
    have hb1 : (wrL m 12 x ⟨#[]⟩).size ≤ (enc x).size := b1
    have hb2 : 1 ≤ (wrL m 12 x ⟨#[]⟩).size := b2
    clear b1 b2
    have hsz := ws_size m hm hmz suf (fun y hy => hs y (by simp [hy]))
    have hih := ih k (pre ++ [enc x]) (D ++ wrL m 12 x ⟨#[]⟩) (fun y hy => hs y (by simp [hy])) (by simp only [List.length_append, List.length_cons, List.length_nil]; omega)
    generalize hH : (⟨#[49, 50, 51, 52, 53, 54, 55, 56, 57, 97, 98, 99]⟩ : ByteArray) = H at *
    generalize hW : wrL m 12 x ⟨#[]⟩ = W at *
    have hih := hih (by rw [ByteArray.size_append]; omega) (by omega)
    have ea : (H ++ (enc m ++ (D ++ W))) ++ ws m suf = (H ++ (enc m ++ D)) ++ (W ++ ws m suf) := by simp only [ByteArray.append_assoc]
    have eb : (H ++ (enc m ++ (D ++ W))).size = (H ++ (enc m ++ D)).size + W.size := by simp only [ByteArray.size_append]; omega
    have ec : pre ++ [enc x] ++ suf.map enc = pre ++ (x :: suf).map enc := by simp
    have hz2 : (W ++ ws m suf).size = W.size + (ws m suf).size := ByteArray.size_append
    have hz : (H ++ (enc m ++ D)).size ≤ 40000 := by simp only [ByteArray.size_append]; omega
    rw [ea, eb, ec] at hih
    have hws : ws m (x :: suf) = W ++ ws m suf := by rw [ws, hW]
    rw [hws]
    have hf : comp_Read.f k ((H ++ (enc m ++ D)) ++ (W ++ ws m suf)) ((H ++ (enc m ++ D)).size : Int) = some (R, ((H ++ (enc m ++ D)).size : Int) + W.size, 0) :=
      (read_f (by rw [ByteArray.size_append, hz2]; omega)).mpr hread
    have hlen : ((pre ++ (x :: suf).map enc).length : Int) = pre.length + suf.length + 1 := by simp; omega
    rw [wellspringlaw04_CompChained.l1, if_pos (by rw [hlen]; omega), hf]
    simp only [Option.bind_some, if_true]
    have hrd : rdOf ByteArray.empty (pre ++ (x :: suf).map enc) (pre.length : Int) = enc x := by rw [List.map_cons]; exact rd_mid _ _ _ _
    obtain ⟨r1, _, r3⟩ := same_iff.mp b3
    have hRz : R.size = (enc x).size := by rw [← lowB_size R, r3, lowB_size]
    rw [if_pos (by omega), hrd, ref_same_eq _ (by omega) _ _ (by omega) (by omega), b3]
    simp only [Option.bind_some, if_true]
    rw [if_neg (by omega), w64 (by omega) (by omega)]
    simp only [List.length_append, List.length_cons, List.length_nil] at hih
    have e1 : ((H ++ (enc m ++ D)).size : Int) + (W.size : Int) = (((H ++ (enc m ++ D)).size + W.size : Nat) : Int) := by omega
    have e2 : (pre.length : Int) + 1 = ((pre.length + (0 + 1) : Nat) : Int) := by omega
    rw [e1, e2]
    exact hih
theorem ws_snoc (m : List ByteArray) (l : List (List ByteArray)) (x : List ByteArray) : ws m (l ++ [x]) = ws m l ++ wrL m 12 x ⟨#[]⟩ := by
  induction l with
  | nil => simp only [List.nil_append, ws]; rw [append_empty, empty_append]
  | cons y l ih => simp only [List.cons_append, ws]; rw [ih, ByteArray.append_assoc]
/-- What is written: either a name is no name, and nothing is asked; or all are written. -/
theorem chain_write (m : List ByteArray) (base : ByteArray) (hb : base = enc m) (hm : ∀ x ∈ m, okL x) (hmz : (enc m).size ≤ 255) (xs : List ByteArray) (hxs : xs.length ≤ 20) (suf : List ByteArray) :
    ∀ (k : Nat) (pre : List (List ByteArray)), xs = pre.map enc ++ suf → (∀ x ∈ pre, (∀ y ∈ x, okL y) ∧ (enc x).size ≤ 255) → 100000 + 2 * suf.length ≤ k →
      wellspringlaw04_CompChained.l0 k base xs (((⟨#[49, 50, 51, 52, 53, 54, 55, 56, 57, 97, 98, 99]⟩ : ByteArray) ++ (enc m ++ ws m pre))) (pre.length : Int) = some true := by
  induction suf with
  | nil =>
    intro k pre hx hp hk
    obtain ⟨k, rfl⟩ : ∃ j, k = j + 1 := ⟨k - 1, by omega⟩
    rw [List.append_nil] at hx
    have hl : pre.length ≤ 20 := by rw [hx, List.length_map] at hxs; exact hxs
    rw [wellspringlaw04_CompChained.l0, if_neg (by rw [hx, List.length_map]; omega)]
    have h := chain_read m hm hmz pre k [] ⟨#[]⟩ hp (by simpa using hl) (by show 0 + _ ≤ _; omega) (by omega)
    rw [List.nil_append, ← hx, append_empty, ← hb] at h
    have e : wrap64 (12 + (base.size : Int)) = (((⟨#[49, 50, 51, 52, 53, 54, 55, 56, 57, 97, 98, 99]⟩ : ByteArray) ++ base).size : Int) := by
      rw [← hb] at hmz
      rw [w64 (by omega) (by omega), ByteArray.size_append]; show _ = ((12 + base.size : Nat) : Int); omega
    rw [e, ← hb, ← ByteArray.append_assoc]
    exact h
  | cons x suf ih =>
    intro k pre hx hp hk
    simp only [List.length_cons] at hk
    obtain ⟨k, rfl⟩ : ∃ j, k = j + 2 := ⟨k - 2, by omega⟩
    have hxl : (xs.length : Int) = pre.length + suf.length + 1 := by rw [hx]; simp; omega
    have hrd : rdOf ByteArray.empty xs (pre.length : Int) = x := by
      have := rd_mid ByteArray.empty (pre.map enc) x suf
      rw [List.length_map] at this
      rw [hx]; exact this
    rw [wellspringlaw04_CompChained.l0, if_pos (by omega), if_pos (by omega), hrd]
    have ht : wellspringlaw04_CompChained.j2 (k + 1) base xs ((⟨#[49, 50, 51, 52, 53, 54, 55, 56, 57, 97, 98, 99]⟩ : ByteArray) ++ (enc m ++ ws m pre)) (pre.length : Int) true = some true := by
      rw [wellspringlaw04_CompChained.j2, if_pos rfl, clive k (by omega)]; rfl
    by_cases h3 : (x.size : Int) > 300
    · rw [if_pos h3]; exact ht
    · rw [if_neg h3, ref_check_eq _ (by omega) x (by omega)]
      simp only [Option.bind_some]
      cases hn : isN x with
      | false => exact ht
      | true =>
        obtain ⟨ls, e2, o2, z2⟩ := isN_iff.mp hn
        rw [e2] at z2
        rw [wellspringlaw04_CompChained.j2, if_neg (by simp), if_pos (by omega), if_pos (by omega), hrd]
        have hbz : base.size ≤ 255 := by rw [hb]; exact hmz
        rw [write_eq k (by omega) base 12 x (by omega) (by omega)]
        have hw : wr base 12 x = wrL m 12 ls ⟨#[]⟩ := by
          unfold wr
          rw [hb, e2, labs_enc hm hmz, labs_enc o2 z2]
          show (if _ then _ else _) = _
          rw [if_pos ⟨by omega, by omega⟩]
        have hwz := ws_size m hm hmz [ls] (by intro y hy; obtain rfl := List.mem_singleton.mp hy; exact ⟨o2, z2⟩)
        have hpz := ws_size m hm hmz pre hp
        have e12n : (⟨#[49, 50, 51, 52, 53, 54, 55, 56, 57, 97, 98, 99]⟩ : ByteArray).size = 12 := rfl
        simp only [ws, ByteArray.size_append, List.length_cons, List.length_nil] at hwz
        have hz0 : (⟨#[]⟩ : ByteArray).size = 0 := rfl
        have hih := ih k (pre ++ [ls]) (by rw [hx, e2]; simp) (by
          intro y hy
          rcases List.mem_append.mp hy with hy | hy
          · exact hp y hy
          · obtain rfl := List.mem_singleton.mp hy; exact ⟨o2, z2⟩) (by omega)
        rw [ws_snoc] at hih
        simp only [Option.bind_some, hw]
        generalize (⟨#[49, 50, 51, 52, 53, 54, 55, 56, 57, 97, 98, 99]⟩ : ByteArray) = H at *
        rw [if_pos (by simp only [ByteArray.size_append]; omega), w64 (by omega) (by omega)]
        have e1 : H ++ (enc m ++ ws m pre) ++ wrL m 12 ls ⟨#[]⟩ = H ++ (enc m ++ (ws m pre ++ wrL m 12 ls ⟨#[]⟩)) := by simp only [ByteArray.append_assoc]
        have e3 : (pre.length : Int) + 1 = ((pre ++ [ls]).length : Int) := by simp
        rw [e1, e3]
        exact hih
theorem CompChained : wellspringlaw04_CompChained.Pure := by
  intro base xs wb wx
  refine ⟨200000 + 1, ?_⟩
  unfold wellspringlaw04_CompChained.f
  have ht : wellspringlaw04_CompChained.j0 (200000 + 1) base xs true = some true := by
    rw [wellspringlaw04_CompChained.j0, if_pos rfl, clive _ (by omega)]; rfl
  by_cases h1 : (base.size : Int) > 300
  · rw [if_pos h1]; exact ht
  · rw [if_neg h1]
    by_cases h2 : (xs.length : Int) > 20
    · rw [if_pos h2]; exact ht
    · rw [if_neg h2, ref_check_eq _ (by omega) base (by omega)]
      simp only [Option.bind_some]
      cases hn : isN base with
      | false => exact ht
      | true =>
        obtain ⟨m, e2, o2, z2⟩ := isN_iff.mp hn
        have h := chain_write m base e2 o2 (by rw [← e2]; exact z2) xs (by omega) xs 200000 [] rfl (by intro x hx; cases hx) (by omega)
        simp only [ws, append_empty] at h
        rw [wellspringlaw04_CompChained.j0, if_neg (by simp), if_pos (by omega)]
        rw [← e2] at h
        exact h
end Go.Proofs.Ytdkkanpbcifkfaa.ZQ

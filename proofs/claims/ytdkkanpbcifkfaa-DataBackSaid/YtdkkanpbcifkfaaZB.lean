/- Plain lemmas on bytes and numbers, for the pure statements. -/
import Derived.ChangeKeysEq
import Derived.Test.YtdkkanpbcifkfaaWAa
import Derived.Lib.Strings
import Derived.Laws.BitsLemmas
set_option linter.unusedVariables false
set_option linter.unusedSimpArgs false
namespace Go.Proofs.Ytdkkanpbcifkfaa.B
open Go.RowKit Go.Proofs.YtdkkanpbcifkfaaW.PrintWords
theorem w64 {n : Int} (h0 : -9223372036854775808 ≤ n) (h1 : n ≤ 9223372036854775807) : wrap64 n = n := by unfold wrap64; omega
theorem toList_inj {s t : ByteArray} : s.toList = t.toList ↔ s = t := by
  constructor
  · intro h
    rw [Lib.toList_data, Lib.toList_data] at h
    exact ByteArray.ext (Array.toList_inj.mp h)
  · rintro rfl; rfl
theorem toList_nil {s : ByteArray} : s.toList = ([] : List UInt8) ↔ s.size = 0 := by
  rw [Lib.toList_data]
  constructor
  · intro h
    show s.data.size = 0
    rw [← Array.length_toList, h]; rfl
  · intro h
    have h' : s.data.size = 0 := h
    rw [← Array.length_toList] at h'
    exact List.eq_nil_of_length_eq_zero h'
theorem eq_empty {s : ByteArray} (h : s.size = 0) : s = ⟨#[]⟩ := toList_inj.mp ((toList_nil.mpr h).trans (toList_nil.mpr rfl).symm)
theorem bt_get (s : ByteArray) (i : Int) : bt s i = ((s.data.toList[i.toNat]?.getD 0).toNat : Int) := by
  unfold bt
  by_cases h : i.toNat < s.size
  · rw [dif_pos h]
    have h' : i.toNat < s.data.toList.length := by rw [Array.length_toList]; exact h
    rw [List.getElem?_eq_getElem h']
    rfl
  · rw [dif_neg h]
    have h' : ¬ i.toNat < s.data.toList.length := by rw [Array.length_toList]; exact h
    rw [List.getElem?_eq_none (by omega)]
    rfl
theorem bt_append_left {a b : ByteArray} {i : Int} (h0 : 0 ≤ i) (h : i < (a.size : Int)) : bt (a ++ b) i = bt a i := by
  rw [bt_get, bt_get, ByteArray.data_append, Array.toList_append, List.getElem?_append_left]
  rw [Array.length_toList]; show i.toNat < a.size; omega
theorem bt_append_right {a b : ByteArray} {i : Int} (h : (a.size : Int) ≤ i) : bt (a ++ b) i = bt b (i - a.size) := by
  have e : a.data.toList.length = a.size := by rw [Array.length_toList]; rfl
  rw [bt_get, bt_get, ByteArray.data_append, Array.toList_append, List.getElem?_append_right (by rw [e]; omega), e]
  rw [show i.toNat - a.size = (i - (a.size : Int)).toNat from by omega]
theorem bt_extract {s : ByteArray} {a b : Nat} {j : Int} (hj : 0 ≤ j) (h : j < ((s.extract a b).size : Int)) : bt (s.extract a b) j = bt s (a + j) := by
  have h' := h
  simp only [ByteArray.size_extract] at h'
  rw [bt_get, bt_get, Lib.extract_data, List.getElem?_take, if_pos (by omega), List.getElem?_drop]
  rw [show a + j.toNat = ((a : Int) + j).toNat from by omega]
theorem ext_bt {s t : ByteArray} (hz : s.size = t.size) (h : ∀ i : Int, 0 ≤ i → i < (s.size : Int) → bt s i = bt t i) : s = t := by
  have es : s.data.toList.length = s.size := by rw [Array.length_toList]; rfl
  have et : t.data.toList.length = t.size := by rw [Array.length_toList]; rfl
  refine ByteArray.ext (Array.toList_inj.mp (List.ext_getElem (by omega) fun i h1 h2 => ?_))
  have := h i (by omega) (by omega)
  rw [bt_get, bt_get] at this
  have e : ((i : Int)).toNat = i := by omega
  rw [e, List.getElem?_eq_getElem h1, List.getElem?_eq_getElem h2] at this
  exact UInt8.toNat_inj.mp (Int.ofNat.inj this)
theorem bt_nums (xs : List Int) (i : Int) (h : ∀ x ∈ xs, 0 ≤ x ∧ x ≤ 255) : bt (strOfNums xs) i = xs[i.toNat]?.getD 0 := by
  rw [bt_get, strOfNums_data, List.getElem?_map]
  by_cases hi : i.toNat < xs.length
  · rw [List.getElem?_eq_getElem hi]
    have := h _ (List.getElem_mem hi)
    simp [UInt8.toNat_ofNat']
    omega
  · rw [List.getElem?_eq_none (by omega)]
    rfl
theorem extract_app_left (a b : ByteArray) : (a ++ b).extract 0 a.size = a := by
  rw [ByteArray.extract_append]
  simp [ByteArray.extract_zero_size]
theorem extract_app_right (a b : ByteArray) : (a ++ b).extract a.size (a ++ b).size = b := by
  rw [ByteArray.extract_append]
  have e : a.extract a.size (a ++ b).size = ⟨#[]⟩ := eq_empty (by simp only [ByteArray.size_extract]; omega)
  rw [e, ByteArray.size_append, show a.size - a.size = 0 from by omega, show a.size + b.size - a.size = b.size from by omega, ByteArray.extract_zero_size]
  exact ByteArray.ext (by rw [ByteArray.data_append]; simp)
theorem empty_append (s : ByteArray) : (⟨#[]⟩ : ByteArray) ++ s = s := by
  refine ByteArray.ext ?_
  rw [ByteArray.data_append]; simp
theorem append_empty (s : ByteArray) : s ++ (⟨#[]⟩ : ByteArray) = s := by
  refine ByteArray.ext ?_
  rw [ByteArray.data_append]; simp
theorem size_mk0 : (⟨#[]⟩ : ByteArray).size = 0 := rfl
theorem size_ext {s : ByteArray} {i n : Int} (h0 : 0 ≤ i) (hn : 0 ≤ n) (hs : i + n ≤ (s.size : Int)) : ((s.extract i.toNat (i + n).toNat).size : Int) = n := by
  simp only [ByteArray.size_extract]; omega
theorem bt_ext {s : ByteArray} {i n j : Int} (h0 : 0 ≤ i) (hj : 0 ≤ j) (hn : j < n) (hs : i + n ≤ (s.size : Int)) : bt (s.extract i.toNat (i + n).toNat) j = bt s (i + j) := by
  rw [bt_extract hj (by rw [size_ext h0 (by omega) hs]; exact hn)]
  congr 1
  omega
theorem beq_not_bne (a b : Bool) : (a == !b) = (a != b) := by cases a <;> cases b <;> rfl
theorem bne_not_beq (a b : Bool) : (a != !b) = (a == b) := by cases a <;> cases b <;> rfl
/-! '==' of arrays, as one Bool. -/
section
open Go
variable {P : Program} {d c j : Nat} {e : TypeId} {xs ys : Array Value} {js : List Nat} {a b : Value} {r s : Bool} {w : World}
theorem eqi_last (ha : (part e xs (j * c)).run P w = .ok a w) (hb : (part e ys (j * c)).run P w = .ok b w) (he : (Op.equalIn d e a b).run P w = .ok r w) : (Op.eqItems d e c xs ys [j]).run P w = .ok r w := by
  simp only [Op.eqItems, Sem.run_bind, ha, hb, he, Result.andThen_ok]
  cases r <;> simp
theorem eqi_cons (ha : (part e xs (j * c)).run P w = .ok a w) (hb : (part e ys (j * c)).run P w = .ok b w) (he : (Op.equalIn d e a b).run P w = .ok r w) (hr : (Op.eqItems d e c xs ys js).run P w = .ok s w) : (Op.eqItems d e c xs ys (j :: js)).run P w = .ok (r && s) w := by
  rw [Op.eqItems]
  simp only [Sem.run_bind, ha, hb, he, Result.andThen_ok]
  cases r
  · simp
  · simpa using hr
theorem eqArr_of {t : TypeId} {n : Nat} (hu : P.underlying t = some (.array n e)) (hi : (P.info? e).isSome = true) (hc : P.cellsOf e = 1) (h : (Op.eqItems d e 1 xs ys (List.range n)).run P w = .ok r w) : (Op.equalIn (d + 1) t (.agg xs) (.agg ys)).run P w = .ok r w := by
  obtain ⟨i, hi⟩ := Option.isSome_iff_exists.mp hi
  rw [run_equalIn_array (P := P) w d xs ys hu hi, hc]
  exact h
end
end Go.Proofs.Ytdkkanpbcifkfaa.B

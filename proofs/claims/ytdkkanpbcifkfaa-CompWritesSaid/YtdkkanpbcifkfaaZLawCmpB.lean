/- The statements CompWrites and CompBack, over numbers and bytes. -/
import Derived.Test.YtdkkanpbcifkfaaZCmpW
import Derived.Test.YtdkkanpbcifkfaaZLawCmpA
import Derived.Test.YtdkkanpbcifkfaaZQ11
import Derived.Test.YtdkkanpbcifkfaaZQ12
set_option linter.unusedVariables false
set_option linter.unusedSimpArgs false
namespace Go.Proofs.Ytdkkanpbcifkfaa.ZQ
open Go.RowKit Go.Proofs.YtdkkanpbcifkfaaW.PrintWords Go.Proofs.YtdkkanpbcifkfaaW.PrintLast Go.Proofs.YtdkkanpbcifkfaaW.PrintMore Go.Proofs.Ytdkkanpbcifkfaa.B

theorem CompWrites : wellspringlaw04_CompWrites.Pure := by
  intro base a n wb wa wn
  refine ⟨200000 + 1, ?_⟩
  unfold wellspringlaw04_CompWrites.f
  have ht : wellspringlaw04_CompWrites.j0 (200000 + 1) base a n true = some true := by
    rw [wellspringlaw04_CompWrites.j0, if_pos rfl, clive _ (by omega)]; rfl
  by_cases h1 : (base.size : Int) > 300
  · rw [if_pos h1]; exact ht
  · rw [if_neg h1]
    by_cases h2 : (n.size : Int) > 300
    · rw [decide_eq_true h2]; exact ht
    · rw [decide_eq_false h2, wellspringlaw04_CompWrites.j0, if_neg Bool.false_ne_true, write_eq _ (by omega) base a n (by omega) (by omega), ref_write_eq _ (by omega) base a n (by omega) (by omega), clive _ (by omega)]
      simp
theorem CompBack : wellspringlaw04_CompBack.Pure := by
  intro base ahead n wb wa wn
  refine ⟨200000 + 2, ?_⟩
  unfold wellspringlaw04_CompBack.f
  have ht : wellspringlaw04_CompBack.j0 (200000 + 1 + 1) base ahead n true = some true := by
    rw [wellspringlaw04_CompBack.j0, if_pos rfl, clive _ (by omega)]; rfl
  by_cases h1 : (base.size : Int) > 300
  · rw [if_pos h1]; exact ht
  · rw [if_neg h1]
    by_cases h2 : (n.size : Int) > 300
    · rw [if_pos h2]; exact ht
    · rw [if_neg h2]
      by_cases h3 : (ahead.size : Int) > 100
      · rw [decide_eq_true h3]; exact ht
      · rw [decide_eq_false h3]
        show wellspringlaw04_CompBack.j0 (200000 + 1 + 1) base ahead n false = some true
        rw [wellspringlaw04_CompBack.j0, if_neg Bool.false_ne_true, write_eq _ (by omega) base _ n (by omega) (by omega), ref_check_eq _ (by omega) base (by omega), ref_check_eq _ (by omega) n (by omega)]
        simp only [Option.bind_some]
        have hnot : isN base = false ∨ isN n = false → wr base ahead.size n = ⟨#[]⟩ := by
          unfold wr isN
          intro h
          rcases h with h | h
          · cases e : labs base with
            | none => rfl
            | some m => rw [e] at h; cases h
          · cases e : labs base with
            | none => rfl
            | some m =>
              cases e2 : labs n with
              | none => rfl
              | some m => rw [e2] at h; cases h
        have hj : wr base ahead.size n = ⟨#[]⟩ → wellspringlaw04_CompBack.j1 (200000 + 1) base ahead n (⟨#[]⟩ : ByteArray) false = some true := by
          intro _
          rw [wellspringlaw04_CompBack.j1, if_neg Bool.false_ne_true, if_pos (toList_nil.mpr rfl), clive _ (by omega)]; rfl
        have hn0 : ((⟨#[]⟩ : ByteArray).toList == ([] : List UInt8)) = true := beq_iff_eq.mpr (toList_nil.mpr rfl)
        cases hb : isN base with
        | false =>
          have hw := hnot (.inl hb)
          rw [if_neg Bool.false_ne_true, hw, hn0]
          exact hj hw
        | true =>
          cases hn : isN n with
          | false =>
            have hw := hnot (.inr hn)
            rw [if_pos rfl, hw, hn0]
            exact hj hw
          | true =>
            obtain ⟨m, e1, o1, z1⟩ := isN_iff.mp hb
            obtain ⟨ls, e2, o2, z2⟩ := isN_iff.mp hn
            subst e1 e2
            have hw : wr (enc m) ahead.size (enc ls) = wrL m ahead.size ls ⟨#[]⟩ := by
              unfold wr
              rw [labs_enc o1 z1, labs_enc o2 z2]
              show (if _ then _ else _) = _
              rw [if_pos ⟨by omega, by omega⟩]
            have hm1 := enc_size m
            obtain ⟨b1, b2, R, b3, b4⟩ := back_read ahead ⟨#[]⟩ (⟨#[122]⟩ : ByteArray) m ls o1 z1 o2 z2 (by omega)
            rw [if_pos rfl, hw]
            have hne : ¬ (wrL m ahead.size ls ⟨#[]⟩).toList = ([] : List UInt8) := fun h => by rw [toList_nil] at h; omega
            have hbq : ((wrL m ahead.size ls ⟨#[]⟩).toList == ([] : List UInt8)) = false := beq_eq_false_iff_ne.mpr hne
            rw [hbq]
            show wellspringlaw04_CompBack.j1 (200000 + 1) _ _ _ _ false = _
            have hread := b4 200000 (by omega)
            rw [append_empty] at hread b4
            have hz : ((⟨#[122]⟩ : ByteArray)).size = 1 := rfl
            generalize hW : wrL m ahead.size ls ⟨#[]⟩ = W at *
            have z3 : (ahead ++ enc m ++ W ++ (⟨#[122]⟩ : ByteArray)).size = ahead.size + (enc m).size + W.size + 1 := by simp only [ByteArray.size_append, hz]
            have hbase : comp_Read.l 200000 (ahead ++ (enc m ++ (W ++ (⟨#[122]⟩ : ByteArray)))) ahead.size ahead.size (-1) ⟨#[]⟩ = some (enc m, (ahead.size : Int) + (enc m).size, 0) := by
              have hml := len_le_enc m
              obtain ⟨j, hj⟩ : ∃ j, 200000 = j + 1 + m.length := ⟨200000 - 1 - m.length, by omega⟩
              rw [hj, read_whole m j ahead _ ⟨#[]⟩ _ _ o1 (by rw [empty_append]; omega), empty_append, if_pos rfl]
            have ha1 : ahead ++ (enc m ++ (W ++ (⟨#[122]⟩ : ByteArray))) = ahead ++ enc m ++ W ++ (⟨#[122]⟩ : ByteArray) := by simp only [ByteArray.append_assoc]
            have ha2 : (ahead ++ enc m) ++ (W ++ (⟨#[122]⟩ : ByteArray)) = ahead ++ enc m ++ W ++ (⟨#[122]⟩ : ByteArray) := by simp only [ByteArray.append_assoc]
            rw [ha1] at hbase
            rw [ha2, ByteArray.size_append] at hread
            have hf1 : comp_Read.f 200000 (ahead ++ enc m ++ W ++ (⟨#[122]⟩ : ByteArray)) ahead.size = some (enc m, (ahead.size : Int) + (enc m).size, 0) := (read_f (by omega)).mpr hbase
            have hf2 : comp_Read.f 200000 (ahead ++ enc m ++ W ++ (⟨#[122]⟩ : ByteArray)) ((ahead.size + (enc m).size : Nat) : Int) = some (R, ((ahead.size + (enc m).size : Nat) : Int) + W.size, 0) := (read_f (by omega)).mpr hread
            have e3 : wrap64 ((ahead.size : Int) + ((enc m).size : Int)) = ((ahead.size + (enc m).size : Nat) : Int) := by rw [w64 (by omega) (by omega)]; omega
            obtain ⟨r1, _, r3⟩ := same_iff.mp b3
            have hRz : R.size = (enc ls).size := by rw [← lowB_size R, r3, lowB_size]
            rw [wellspringlaw04_CompBack.j1, if_neg Bool.false_ne_true, if_neg hne, if_pos (by omega), if_pos (by simp only [ByteArray.size_append]; omega), if_pos (by simp only [ByteArray.size_append]; omega), hf1, e3, hf2]
            simp only [Option.bind_some, if_true]
            rw [ref_same_eq _ (by omega) _ _ (by omega) (by omega), b3, clive _ (by omega), z3]
            simp only [Option.bind_some, if_true]
            rw [if_pos (by omega), if_pos (by rw [w64 (by omega) (by omega)]; omega), if_pos (by omega)]
end Go.Proofs.Ytdkkanpbcifkfaa.ZQ

import Derived.Test.YtmmnlfenaedjoaaZOct
import Derived.Test.YtmmnlfenaedjoaaZRefOct
import Derived.Test.YtmmnlfenaedjoaaZQ1
import Derived.Test.YtmmnlfenaedjoaaZQ2
import Derived.Test.YtmmnlfenaedjoaaZQ4
/- The statement OctetTells: program and reference tell the same of any number and any part of any text. -/
set_option linter.unusedVariables false
set_option linter.unusedSimpArgs false
namespace Go.Proofs.Ytmmnlfenaedjoaa.ZQ
open Go.RowKit Go.Proofs.YtmmnlfenaedjoaaW.PrintWords Go.Proofs.YtmmnlfenaedjoaaW.PrintLast Go.Proofs.YtmmnlfenaedjoaaW.PrintMore Go.Proofs.Ytmmnlfenaedjoaa.B

theorem oliveT (k : Nat) (hk : 9 ≤ k) : wellspringlaw01_live.f k = some true := by
  refine at_rounds (fun k => wellspringlaw01_live.mono k) hk ?_
  decide +kernel
theorem layT_eq (s : ByteArray) (i : Int) (p : ByteArray) (hs : s.size ≤ 1000000) (hp : p.size ≤ 1000000) :
    octet_Lay.f s i p = some (if okTake s i p.size then (s.extract 0 i.toNat ++ p ++ s.extract (i + p.size).toNat s.size, true) else (⟨#[]⟩, false)) := by
  unfold octet_Lay.f
  rw [take_eq s i _ (by omega)]
  by_cases h : okTake s i p.size
  · obtain ⟨h0, _, h2⟩ := h
    have e : wrap64 (i + (p.size : Int)) = i + p.size := w64 (by omega) (by omega)
    simp only [if_pos (show okTake s i p.size from ⟨h0, by omega, h2⟩), Option.bind_some, if_true, e]
    rw [if_pos h0, if_pos (by omega), if_pos (by simp only [ByteArray.size_extract]; omega), if_pos (by omega), if_pos h2, if_pos (by simp only [ByteArray.size_append, ByteArray.size_extract]; omega)]
  · simp only [if_neg h, Option.bind_some]; rfl
theorem ref_lay (s : ByteArray) (i : Int) (p : ByteArray) (hs : s.size ≤ 1000000) (hp : p.size ≤ 1000000) : wellspringref01_Lay.f s i p = octet_Lay.f s i p := by
  unfold wellspringref01_Lay.f octet_Lay.f
  rw [ref_take_eq s i _ hs, take_eq s i _ (by omega)]
theorem OctetTells : wellspringlaw01_OctetTells.Pure := by
  intro s n size p ws wn wz wp
  obtain ⟨n0, n1⟩ := wf_i64 wn
  refine ⟨20 + 1, ?_⟩
  unfold wellspringlaw01_OctetTells.f
  have ht : wellspringlaw01_OctetTells.j0 (20 + 1) s p true n size = some true := by
    rw [wellspringlaw01_OctetTells.j0, if_pos rfl, oliveT _ (by omega)]; rfl
  by_cases h1 : (s.size : Int) > 70000
  · rw [if_pos h1]; exact ht
  · rw [if_neg h1]
    by_cases h2 : (p.size : Int) > 70000
    · rw [decide_eq_true h2]; exact ht
    · rw [decide_eq_false h2, wellspringlaw01_OctetTells.j0, if_neg Bool.false_ne_true, ref_lay s n p (by omega) (by omega), ref_take_eq s n size (by omega), take_eq s n size (by omega), get_eq 20 (by omega) s n size (by omega), ref_get_eq 20 (by omega) s n size (by omega),
        put_eq 20 (by omega) n size n1, ref_put_eq 20 (by omega) n size n1, oliveT _ (by omega), layT_eq s n p (by omega) (by omega)]
      simp
end Go.Proofs.Ytmmnlfenaedjoaa.ZQ

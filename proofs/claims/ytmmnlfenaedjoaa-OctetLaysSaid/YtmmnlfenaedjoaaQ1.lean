-- Written by a program of this session (wip/tools/myprint.py), over the kit's printer; Lean checks it.
import Derived.Test.YtmmnlfenaedjoaaQ0
import Derived.WalkSpells
namespace Go.Proofs.Ytmmnlfenaedjoaa.Q
open Go.RowKit Go.Proofs.YtmmnlfenaedjoaaW.PrintWords Go.Proofs.YtmmnlfenaedjoaaW.PrintLast Go.Proofs.YtmmnlfenaedjoaaW.PrintMore
attribute [local go_sem] max2_int min2_int max_two min_two max_three min_three max_four min_four   -- for this text's walks alone
set_option linter.unusedVariables false
set_option linter.unusedSimpArgs false

-- GIVENPART Derived.WalkSpells
/-! ### octet_Take: function 16 -/
def octet_Take.f (a0 : ByteArray) (a1 : Int) (a2 : Int) : Option (ByteArray × Bool) :=
  if (a0.size : Int) ≤ 9223372036854775807 then
    (if 0 ≤ a1 ∧ 0 ≤ a2 ∧ a1 + a2 ≤ (a0.size : Int) then some (a0.extract a1.toNat (a1 + a2).toNat, true) else some ((⟨#[]⟩ : ByteArray), false))
  else none
theorem octet_Take.mid (s : ByteArray) (a b : Int) (h0 : 0 ≤ a) (h1 : 0 ≤ b) (h2 : a + b ≤ (s.size : Int)) :
    (s.extract a.toNat s.size).extract 0 b.toNat = s.extract a.toNat (a + b).toNat := by
  rw [ByteArray.extract_extract]
  congr 1
  omega
set_option maxHeartbeats 8000000 in
set_option maxRecDepth 100000 in
theorem octet_Take.calls (a0 : ByteArray) (a1 : Int) (a2 : Int) (r1 : ByteArray) (r2 : Bool) (w : World) (h : octet_Take.f a0 a1 a2 = some (r1, r2)) :
    Calls Try.prog 16 #[.string a0, .int .i64 a1, .int .i64 a2] w fun e w' => e = .returned (.tuple #[.string r1, .bool r2]) ∧ Drawn0 w w' := by
  unfold octet_Take.f at h
  by_cases hs : (a0.size : Int) ≤ 9223372036854775807
  · rw [if_pos hs] at h
    by_cases hc : 0 ≤ a1 ∧ 0 ≤ a2 ∧ a1 + a2 ≤ (a0.size : Int)
    · rw [if_pos hc] at h
      simp only [Option.some.injEq, Prod.mk.injEq] at h
      obtain ⟨rfl, rfl⟩ := h
      obtain ⟨h0, h1, h2⟩ := hc
      have hw : wrap64 ((a0.size : Int) - a1) = (a0.size : Int) - a1 := by unfold wrap64; omega
      have hm := Aside0.mk (octet_Take.mid a0 a1 a2 h0 h1 h2)
      have c1 : decide (a1 < 0) = false := decide_eq_false (by omega)
      have c2 : decide (a2 < 0) = false := decide_eq_false (by omega)
      have c3 : decide ((a0.size : Int) < a1) = false := decide_eq_false (by omega)
      have c4 : decide (wrap64 ((a0.size : Int) - a1) < a2) = false := decide_eq_false (by omega)
      have c5 := eq_true h0
      have c6 : (a1 ≤ (a0.size : Int)) = True := eq_true (by omega)
      have c7 := eq_true h1
      have c8 : (a2 ≤ ((a0.extract a1.toNat a0.size).size : Int)) = True := eq_true (by simp only [ByteArray.size_extract]; omega)
      have c9 : (a2 ≤ (a0.size : Int) - (a1.toNat : Int)) = True := eq_true (by omega)
      have c10 : (a2 ≤ ((a0.size - a1.toNat : Nat) : Int)) = True := eq_true (by omega)
      clear hs hw h0 h1 h2
      go_enter Try.func16, Try.ntmps16
      go_wp2
      go_ret2
      exact ⟨by rw [hm.out]; rfl, by repeat (first | exact Drawn0.refl _ | apply Drawn0.step)⟩
    · rw [if_neg hc] at h
      simp only [Option.some.injEq, Prod.mk.injEq] at h
      obtain ⟨rfl, rfl⟩ := h
      by_cases c1 : a1 < 0
      · have c1' : decide (a1 < 0) = true := decide_eq_true c1
        clear hs hc c1
        go_enter Try.func16, Try.ntmps16
        go_wp2
        go_ret2
        exact ⟨rfl, by repeat (first | exact Drawn0.refl _ | apply Drawn0.step)⟩
      · by_cases c2 : a2 < 0
        · have c1' : decide (a1 < 0) = false := decide_eq_false c1
          have c2' : decide (a2 < 0) = true := decide_eq_true c2
          clear hs hc c1 c2
          go_enter Try.func16, Try.ntmps16
          go_wp2
          go_ret2
          exact ⟨rfl, by repeat (first | exact Drawn0.refl _ | apply Drawn0.step)⟩
        · by_cases c3 : (a0.size : Int) < a1
          · have c1' : decide (a1 < 0) = false := decide_eq_false c1
            have c2' : decide (a2 < 0) = false := decide_eq_false c2
            have c3' : decide ((a0.size : Int) < a1) = true := decide_eq_true c3
            clear hs hc c1 c2 c3
            go_enter Try.func16, Try.ntmps16
            go_wp2
            go_ret2
            exact ⟨rfl, by repeat (first | exact Drawn0.refl _ | apply Drawn0.step)⟩
          · have hw : wrap64 ((a0.size : Int) - a1) = (a0.size : Int) - a1 := by unfold wrap64; omega
            have c1' : decide (a1 < 0) = false := decide_eq_false c1
            have c2' : decide (a2 < 0) = false := decide_eq_false c2
            have c3' : decide ((a0.size : Int) < a1) = false := decide_eq_false c3
            have c4' : decide (wrap64 ((a0.size : Int) - a1) < a2) = true := decide_eq_true (by omega)
            clear hs hc c1 c2 c3 hw
            go_enter Try.func16, Try.ntmps16
            go_wp2
            go_ret2
            exact ⟨rfl, by repeat (first | exact Drawn0.refl _ | apply Drawn0.step)⟩
  · rw [if_neg hs] at h
    exact absurd h (by simp)

end Go.Proofs.Ytmmnlfenaedjoaa.Q

-- Written by a program of this session (wip/tools/myprint.py), over the kit's printer; Lean checks it.
import Derived.Test.YtdkkanpbcifkfaaZQ0
import Derived.WalkSpells
namespace Go.Proofs.Ytdkkanpbcifkfaa.ZQ
open Go.RowKit Go.Proofs.YtdkkanpbcifkfaaW.PrintWords Go.Proofs.YtdkkanpbcifkfaaW.PrintLast Go.Proofs.YtdkkanpbcifkfaaW.PrintMore
attribute [local go_sem] max2_int min2_int max_two min_two max_three min_three max_four min_four   -- for this text's walks alone
set_option linter.unusedVariables false
set_option linter.unusedSimpArgs false

-- GIVENPART Derived.WalkSpells
/-! ### octet_Take: function 71 -/
def octet_Take.f (a0 : ByteArray) (a1 : Int) (a2 : Int) : Option (ByteArray × Bool) :=
  if (a0.size : Int) ≤ 9223372036854775807 then
    (if 0 ≤ a1 ∧ 0 ≤ a2 ∧ a1 + a2 ≤ (a0.size : Int) then some (a0.extract a1.toNat (a1 + a2).toNat, true) else some ((⟨#[]⟩ : ByteArray), false))
  else none
theorem octet_Take.mid (s : ByteArray) (a b : Int) (h0 : 0 ≤ a) (h1 : 0 ≤ b) (h2 : a + b ≤ (s.size : Int)) :
    (s.extract a.toNat s.size).extract 0 b.toNat = s.extract a.toNat (a + b).toNat := by
  rw [ByteArray.extract_extract]
  congr 1
  omega
set_option maxHeartbeats 8000000 in
set_option maxRecDepth 100000 in
theorem octet_Take.calls (a0 : ByteArray) (a1 : Int) (a2 : Int) (r1 : ByteArray) (r2 : Bool) (w : World) (h : octet_Take.f a0 a1 a2 = some (r1, r2)) :
    Calls Try.prog 71 #[.string a0, .int .i64 a1, .int .i64 a2] w fun e w' => e = .returned (.tuple #[.string r1, .bool r2]) ∧ Drawn0 w w' := by
  unfold octet_Take.f at h
  by_cases hs : (a0.size : Int) ≤ 9223372036854775807
  · rw [if_pos hs] at h
    by_cases hc : 0 ≤ a1 ∧ 0 ≤ a2 ∧ a1 + a2 ≤ (a0.size : Int)
    · rw [if_pos hc] at h
      simp only [Option.some.injEq, Prod.mk.injEq] at h
      obtain ⟨rfl, rfl⟩ := h
      obtain ⟨h0, h1, h2⟩ := hc
      have hw : wrap64 ((a0.size : Int) - a1) = (a0.size : Int) - a1 := by unfold wrap64; omega
      have hm := Aside0.mk (octet_Take.mid a0 a1 a2 h0 h1 h2)
      have c1 : decide (a1 < 0) = false := decide_eq_false (by omega)
      have c2 : decide (a2 < 0) = false := decide_eq_false (by omega)
      have c3 : decide ((a0.size : Int) < a1) = false := decide_eq_false (by omega)
      have c4 : decide (wrap64 ((a0.size : Int) - a1) < a2) = false := decide_eq_false (by omega)
      have c5 := eq_true h0
      have c6 : (a1 ≤ (a0.size : Int)) = True := eq_true (by omega)
      have c7 := eq_true h1
      have c8 : (a2 ≤ ((a0.extract a1.toNat a0.size).size : Int)) = True := eq_true (by simp only [ByteArray.size_extract]; omega)
      have c9 : (a2 ≤ (a0.size : Int) - (a1.toNat : Int)) = True := eq_true (by omega)
      have c10 : (a2 ≤ ((a0.size - a1.toNat : Nat) : Int)) = True := eq_true (by omega)
      clear hs hw h0 h1 h2
      go_enter Try.func71, Try.ntmps71
      go_wp2
      go_ret2
      exact ⟨by rw [hm.out]; rfl, by repeat (first | exact Drawn0.refl _ | apply Drawn0.step)⟩
    · rw [if_neg hc] at h
      simp only [Option.some.injEq, Prod.mk.injEq] at h
      obtain ⟨rfl, rfl⟩ := h
      by_cases c1 : a1 < 0
      · have c1' : decide (a1 < 0) = true := decide_eq_true c1
        clear hs hc c1
        go_enter Try.func71, Try.ntmps71
        go_wp2
        go_ret2
        exact ⟨rfl, by repeat (first | exact Drawn0.refl _ | apply Drawn0.step)⟩
      · by_cases c2 : a2 < 0
        · have c1' : decide (a1 < 0) = false := decide_eq_false c1
          have c2' : decide (a2 < 0) = true := decide_eq_true c2
          clear hs hc c1 c2
          go_enter Try.func71, Try.ntmps71
          go_wp2
          go_ret2
          exact ⟨rfl, by repeat (first | exact Drawn0.refl _ | apply Drawn0.step)⟩
        · by_cases c3 : (a0.size : Int) < a1
          · have c1' : decide (a1 < 0) = false := decide_eq_false c1
            have c2' : decide (a2 < 0) = false := decide_eq_false c2
            have c3' : decide ((a0.size : Int) < a1) = true := decide_eq_true c3
            clear hs hc c1 c2 c3
            go_enter Try.func71, Try.ntmps71
            go_wp2
            go_ret2
            exact ⟨rfl, by repeat (first | exact Drawn0.refl _ | apply Drawn0.step)⟩
          · have hw : wrap64 ((a0.size : Int) - a1) = (a0.size : Int) - a1 := by unfold wrap64; omega
            have c1' : decide (a1 < 0) = false := decide_eq_false c1
            have c2' : decide (a2 < 0) = false := decide_eq_false c2
            have c3' : decide ((a0.size : Int) < a1) = false := decide_eq_false c3
            have c4' : decide (wrap64 ((a0.size : Int) - a1) < a2) = true := decide_eq_true (by omega)
            clear hs hc c1 c2 c3 hw
            go_enter Try.func71, Try.ntmps71
            go_wp2
            go_ret2
            exact ⟨rfl, by repeat (first | exact Drawn0.refl _ | apply Drawn0.step)⟩
  · rw [if_neg hs] at h
    exact absurd h (by simp)

/-! ### octet_sized: function 87 -/
def octet_sized.f (a0 : Int) : Option (Bool) := if a0 ≥ 1 then (some (decide (a0 ≤ 4))) else (some false)
set_option maxHeartbeats 8000000 in
set_option maxRecDepth 100000 in
theorem octet_sized.calls (a0 : Int) (r : Bool) (w : World) (h : octet_sized.f a0 = some r) :
  Calls Try.prog 87 #[.int .i64 a0] w fun e w' => e = .returned (.bool r) ∧ Drawn0 w w' := by
 have H : (if a0 ≥ 1 then (some (decide (a0 ≤ 4))) else (some false)) = some r := h
 clear h
 by_cases c2 : a0 ≥ 1
 ·rw [if_pos c2] at H
  have c2b0 : decide (1 ≤ a0) = true := decide_eq_true c2
  clear c2
  obtain rfl := Option.some.inj H
  go_enter Try.func87, Try.ntmps87
  go_wp2
  go_ret
  exact ⟨by first | rfl | (simp; done) | (simp [*]; done), by repeat (first | exact Drawn0.refl _ | apply Drawn0.step)⟩
 ·rw [if_neg c2] at H
  have c2b0 : decide (1 ≤ a0) = false := decide_eq_false c2
  clear c2
  obtain rfl := Option.some.inj H
  go_enter Try.func87, Try.ntmps87
  go_wp2
  go_ret
  exact ⟨by first | rfl | (simp; done) | (simp [*]; done), by repeat (first | exact Drawn0.refl _ | apply Drawn0.step)⟩

/-! ### octet_Get: function 56 -/
mutual
def octet_Get.j0 : Nat → Int → ByteArray → Bool → Option (Int × Bool)
 | 0, _, _, _ => none
 | k + 1, x2, x8, x25 => if x25 = true then (some (0, false)) else (octet_Get.l0 k x8 0 x2 0)
def octet_Get.l0 : Nat → ByteArray → Int → Int → Int → Option (Int × Bool)
 | 0, _, _, _, _ => none
 | k + 1, x8, x10, x26, x27 => if x27 < x26 then (if 0 ≤ x27 then (if x27 < (x8.size : Int) then (octet_Get.l0 k x8 (Go.bits .or .i64 (wrap64 (x10 * 256)) (wrap64 (bt x8 x27))) x26 (wrap64 (x27 + 1))) else (none)) else (none)) else (some (x10, true))
end
def octet_Get.f (k : Nat) (a0 : ByteArray) (a1 : Int) (a2 : Int) : Option (Int × Bool) := (octet_Take.f a0 a1 a2).bind fun bt101 => (if bt101.2 = true then ((octet_sized.f a2).bind fun t103 => (octet_Get.j0 k a2 bt101.1 (!t103))) else (octet_Get.j0 k a2 bt101.1 true))
theorem octet_Get.mono_l : ∀ k, (∀ y0 y1 y2, LeO (octet_Get.j0 k y0 y1 y2) (octet_Get.j0 (k + 1) y0 y1 y2)) ∧ (∀ y0 y1 y2 y3, LeO (octet_Get.l0 k y0 y1 y2 y3) (octet_Get.l0 (k + 1) y0 y1 y2 y3))
 | 0 => ⟨fun _ _ _ r h => by simp [octet_Get.j0] at h, fun _ _ _ _ r h => by simp [octet_Get.l0] at h⟩
 | k + 1 => by
  obtain ⟨ih0, ih1⟩ := octet_Get.mono_l k
  refine ⟨?_, ?_⟩
  ·intro y0 y1 y2
   unfold octet_Get.j0
   repeat' first
   | (with_reducible exact ih0 _ _ _)
   | (with_reducible exact ih1 _ _ _ _)
   | (with_reducible exact LeO.refl _)
   | (with_reducible exact LeO.none _)
   | (with_reducible refine LeO.ite ?_ ?_)
   | (with_reducible refine LeO.bind ?_ (fun _ => ?_))
   | exact ih0 _ _ _
   | exact ih1 _ _ _ _
   | exact LeO.none _
   | refine LeO.ite ?_ ?_
   | refine LeO.bind ?_ (fun _ => ?_)
  ·intro y0 y1 y2 y3
   unfold octet_Get.l0
   repeat' first
   | (with_reducible exact ih0 _ _ _)
   | (with_reducible exact ih1 _ _ _ _)
   | (with_reducible exact LeO.refl _)
   | (with_reducible exact LeO.none _)
   | (with_reducible refine LeO.ite ?_ ?_)
   | (with_reducible refine LeO.bind ?_ (fun _ => ?_))
   | exact ih0 _ _ _
   | exact ih1 _ _ _ _
   | exact LeO.none _
   | refine LeO.ite ?_ ?_
   | refine LeO.bind ?_ (fun _ => ?_)
theorem octet_Get.mono : ∀ a0 a1 a2 k, LeO (octet_Get.f k a0 a1 a2) (octet_Get.f (k + 1) a0 a1 a2) := by
 intro a0 a1 a2 k
 obtain ⟨ih0, ih1⟩ := octet_Get.mono_l k
 unfold octet_Get.f
 repeat' first
   | (with_reducible exact ih0 _ _ _)
   | (with_reducible exact ih1 _ _ _ _)
   | (with_reducible exact LeO.refl _)
   | (with_reducible exact LeO.none _)
   | (with_reducible refine LeO.ite ?_ ?_)
   | (with_reducible refine LeO.bind ?_ (fun _ => ?_))
   | exact ih0 _ _ _
   | exact ih1 _ _ _ _
   | exact LeO.none _
   | refine LeO.ite ?_ ?_
   | refine LeO.bind ?_ (fun _ => ?_)
set_option maxHeartbeats 8000000 in
set_option maxRecDepth 100000 in
theorem octet_Get.calls (k : Nat) (a0 : ByteArray) (a1 : Int) (a2 : Int) (r1 : Int) (r2 : Bool) (w : World) (h : octet_Get.f k a0 a1 a2 = some (r1, r2)) :
  Calls Try.prog 56 #[.string a0, .int .i64 a1, .int .i64 a2] w fun e w' => e = .returned (.tuple #[.int .i64 r1, .bool r2]) ∧ Drawn0 w w' := by
 have H : ((octet_Take.f a0 a1 a2).bind fun bt101 => (if bt101.2 = true then ((octet_sized.f a2).bind fun t103 => (octet_Get.j0 k a2 bt101.1 (!t103))) else (octet_Get.j0 k a2 bt101.1 true))) = some (r1, r2) := h
 clear h
 replace H := Option.bind_eq_some_iff.mp H
 obtain ⟨⟨t101, t102⟩, A40, H⟩ := H
 replace H : (if t102 = true then ((octet_sized.f a2).bind fun t103 => (octet_Get.j0 k a2 t101 (!t103))) else (octet_Get.j0 k a2 t101 true)) = some (r1, r2) := H
 have A4 := Aside0.mk A40
 clear A40
 have HC5 := Aside0.mk H
 clear H
 go_enter Try.func56, Try.ntmps56
 go_upto_region 2 with (first | ((with_reducible refine gate_callee (f := 71) rfl ?_); refine goesL_ (some 16) rfl rfl Try.func71 (by kernel_rfl) rfl #[.string a0, .int .i64 a1, .int .i64 a2] rfl (by (try simp only [List.map_toArray, List.map_cons, List.map_nil]); first | done | rfl | (simp only [List.length_drop, List.length_take]; rfl) | (simp only [ByteArray.size_append, Int.natCast_add]; rfl) | (rw [Go.Proofs.Ytdkkanpbcifkfaa.B.w64] <;> first | rfl | omega | (simp only [decide_eq_false_iff_not, decide_eq_true_eq, Int.not_lt, Nat.not_lt, gt_iff_lt] at * <;> omega))) ?_; (with_reducible refine (octet_Take.calls a0 a1 a2 t101 t102 _ A4.out).mono ?_); rintro e w' ⟨rfl, ⟨nd, rfl⟩⟩; refine ⟨_, rfl, ?_⟩))
 (try simp only [Act.put, List.setIfInBounds_toArray, List.set_cons_zero, List.set_cons_succ])
 go_cut [25] (fun v25 wc => ∃ (kq : Nat) (x25_4 : Bool), v25 = .bool x25_4 ∧ Aside0 (octet_Get.j0 kq a2 t101 x25_4 = some (r1, r2)) ∧ Aside0 (kq ≤ k) ∧ Drawn0 w wc)
 case first =>
  have H := HC5.out
  clear HC5
  by_cases c6 : t102 = true
  ·subst c6
   have H1 : ((octet_sized.f a2).bind fun t103 => (octet_Get.j0 k a2 t101 (!t103))) = some (r1, r2) := by rw [if_pos rfl] at H; exact H
   clear H
   have H := H1
   clear H1
   replace H := Option.bind_eq_some_iff.mp H
   obtain ⟨t103, A70, H⟩ := H
   replace H : (octet_Get.j0 k a2 t101 (!t103)) = some (r1, r2) := H
   have A7 := Aside0.mk A70
   clear A70
   have H' := Aside0.mk H
   clear H
   go_wp2_with (first | (go_at_call 87; (with_reducible refine (octet_sized.calls a2 t103 _ A7.out).mono ?_); rintro e w' ⟨rfl, ⟨nd, rfl⟩⟩))
   go_meet
   case rel => exact ⟨_, (!t103), (by first | rfl | (simp; done) | (simp [*]; done) | (simp [Go.Proofs.Ytdkkanpbcifkfaa.B.beq_not_bne]; done) | (simp [Go.Proofs.Ytdkkanpbcifkfaa.B.bne_not_beq]; done)), H', ⟨by first | omega | exact Nat.le_refl _⟩, by repeat (first | exact Drawn0.refl _ | apply Drawn0.step)⟩
  ·replace c6 := Bool.eq_false_iff.mpr c6
   subst c6
   have H1 : (octet_Get.j0 k a2 t101 true) = some (r1, r2) := by rw [if_neg (show ¬ (false = true) by decide)] at H; exact H
   clear H
   have H := H1
   clear H1
   have H' := Aside0.mk H
   clear H
   go_wp2
   go_meet
   case rel => exact ⟨_, (true), (by first | rfl | (simp; done) | (simp [*]; done) | (simp [Go.Proofs.Ytdkkanpbcifkfaa.B.beq_not_bne]; done) | (simp [Go.Proofs.Ytdkkanpbcifkfaa.B.bne_not_beq]; done)), H', ⟨by first | omega | exact Nat.le_refl _⟩, by repeat (first | exact Drawn0.refl _ | apply Drawn0.step)⟩
 case rest =>
  clear HC5
  try clear p2
  try clear c5
  try clear c6
  try clear c7
  obtain ⟨kq, x25_4, rfl, HA, HJ4, ⟨mc4, rfl⟩⟩ := hcut
  cases kq with
  | zero => exact absurd HA.out (by simp [octet_Get.j0])
  | succ kj4 =>
   have H := HA.out
   clear HA
   simp only [octet_Get.j0] at H
   by_cases c8 : x25_4 = true
   ·subst c8
    have H1 : (some (0, false)) = some (r1, r2) := by rw [if_pos rfl] at H; exact H
    clear H
    have H := H1
    clear H1
    simp only [Option.some.injEq, Prod.mk.injEq] at H
    obtain ⟨rfl, rfl⟩ := H
    go_wp2
    go_ret2
    exact ⟨by first | rfl | (simp; done) | (simp [*]; done), by repeat (first | exact Drawn0.refl _ | apply Drawn0.step)⟩
   ·replace c8 := Bool.eq_false_iff.mpr c8
    subst c8
    have H1 : (octet_Get.l0 kj4 t101 0 a2 0) = some (r1, r2) := by rw [if_neg (show ¬ (false = true) by decide)] at H; exact H
    clear H
    have H := H1
    clear H1
    have H' := Aside0.mk H
    clear H
    go_wp2
    go_loopg [10, 27] kj4 (fun kq v10 v27 w' => ∃ (x10_2 : Int) (x27_2 : Int), v10 = .int .i64 x10_2 ∧ v27 = .int .i64 x27_2 ∧ Aside0 (octet_Get.l0 kq t101 x10_2 a2 x27_2 = some (r1, r2)) ∧ Aside0 (kq ≤ kj4) ∧ Drawn0 w w')
    case atStart => exact ⟨(0), (0), (by first | rfl | (simp; done) | (simp [*]; done) | (simp [Go.Proofs.Ytdkkanpbcifkfaa.B.beq_not_bne]; done) | (simp [Go.Proofs.Ytdkkanpbcifkfaa.B.bne_not_beq]; done)), (by first | rfl | (simp; done) | (simp [*]; done) | (simp [Go.Proofs.Ytdkkanpbcifkfaa.B.beq_not_bne]; done) | (simp [Go.Proofs.Ytdkkanpbcifkfaa.B.bne_not_beq]; done)), H', ⟨Nat.le_refl _⟩, by repeat (first | exact Drawn0.refl _ | apply Drawn0.step)⟩
    case round =>
     clear H'
     try clear p2
     try clear c4
     try clear c5
     try clear c6
     try clear c7
     try clear c8
     try clear p2
     obtain ⟨x10_2, x27_2, rfl, rfl, HA, HK2, ⟨m2, rfl⟩⟩ := hrel
     cases gk with
     | zero => exact absurd HA.out (by simp [octet_Get.l0])
     | succ k2 =>
      have H := HA.out
      clear HA
      simp only [octet_Get.l0] at H
      by_cases c9 : x27_2 < a2
      ·rw [if_pos c9] at H
       have c9b0 : decide (x27_2 < a2) = true := decide_eq_true c9
       clear c9
       by_cases c10 : 0 ≤ x27_2
       ·rw [if_pos c10] at H
        have c10b0 : decide (0 ≤ x27_2) = true := decide_eq_true c10
        clear c10
        by_cases c11 : x27_2 < (t101.size : Int)
        ·rw [if_pos c11] at H
         have c11b0 : decide (x27_2 < (t101.size : Int)) = true := decide_eq_true c11
         clear c11
         have H' := Aside0.mk H
         clear H
         have p12 : 0 ≤ (x27_2 : Int) := of_decide_eq_true (by first | (with_reducible assumption) | assumption)
         have q12 : x27_2 < (t101.size : Int) := of_decide_eq_true (by first | (with_reducible assumption) | assumption)
         have hx12 := bt_at t101 x27_2
         replace p12 := eq_true p12
         replace q12 := eq_true q12
         go_wp2
         go_roundg k2
         case measure => have := HJ4.out; have := HK2.out; omega
         case rel => exact ⟨(Go.bits .or .i64 (wrap64 (x10_2 * 256)) (wrap64 (bt t101 x27_2))), (wrap64 (x27_2 + 1)), (by first | rfl | (simp; done) | (simp [*]; done) | (simp [Go.Proofs.Ytdkkanpbcifkfaa.B.beq_not_bne]; done) | (simp [Go.Proofs.Ytdkkanpbcifkfaa.B.bne_not_beq]; done)), (by first | rfl | (simp; done) | (simp [*]; done) | (simp [Go.Proofs.Ytdkkanpbcifkfaa.B.beq_not_bne]; done) | (simp [Go.Proofs.Ytdkkanpbcifkfaa.B.bne_not_beq]; done)), H', ⟨by have := HJ4.out; have := HK2.out; omega⟩, by repeat (first | exact Drawn0.refl _ | apply Drawn0.step)⟩
        ·rw [if_neg c11] at H
         exact absurd H (by simp)
       ·rw [if_neg c10] at H
        exact absurd H (by simp)
      ·rw [if_neg c9] at H
       have c9b0 : decide (x27_2 < a2) = false := decide_eq_false c9
       clear c9
       simp only [Option.some.injEq, Prod.mk.injEq] at H
       obtain ⟨rfl, rfl⟩ := H
       go_wp2
       go_ret2
       exact ⟨by first | rfl | (simp; done) | (simp [*]; done), by repeat (first | exact Drawn0.refl _ | apply Drawn0.step)⟩

end Go.Proofs.Ytdkkanpbcifkfaa.ZQ

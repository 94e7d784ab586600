-- Written by a program of this session (wip/tools/myprint.py), over the kit's printer; Lean checks it.
import Derived.Test.YtmmnlfenaedjoaaQ0
import Derived.Test.YtmmnlfenaedjoaaQ2
namespace Go.Proofs.Ytmmnlfenaedjoaa.Q
open Go.RowKit Go.Proofs.YtmmnlfenaedjoaaW.PrintWords Go.Proofs.YtmmnlfenaedjoaaW.PrintLast Go.Proofs.YtmmnlfenaedjoaaW.PrintMore
attribute [local go_sem] max2_int min2_int max_two min_two max_three min_three max_four min_four   -- for this text's walks alone
set_option linter.unusedVariables false
set_option linter.unusedSimpArgs false

/-! ### wellspringlaw01_OctetSizes: function 8 -/
mutual
def wellspringlaw01_OctetSizes.l0 : Nat → Int → ByteArray → Int → Option (Bool)
  | 0, _, _, _ => none
  | k + 1, x0, x3, x4 => if x4 ≤ 4 then ((octet_Put.f k x0 x4).bind fun t177 => (if t177.toList = ([] : List UInt8) then (if x3.toList = ([] : List UInt8) then (if x0 ≥ 0 then (wellspringlaw01_OctetSizes.j1 k x0 x3 x4 (decide (x0 < 256))) else (wellspringlaw01_OctetSizes.j1 k x0 x3 x4 false)) else (wellspringlaw01_OctetSizes.j1 k x0 x3 x4 true)) else (if (t177.size : Int) = x4 then (if x3.toList = ([] : List UInt8) then (wellspringlaw01_OctetSizes.l0 k x0 t177 (wrap64 (x4 + 1))) else (if 1 + x3.size ≤ 9223372036854775807 then (if t177.toList = ((⟨#[0]⟩ : ByteArray) ++ x3).toList then (wellspringlaw01_OctetSizes.l0 k x0 t177 (wrap64 (x4 + 1))) else (some false)) else (none))) else (some false)))) else (if x0 ≥ 0 then (if ((x3.toList != ([] : List UInt8)) == (decide (x0 < 4294967296))) = true then ((octet_Put.f k x0 0).bind fun t171 => (if t171.toList = ([] : List UInt8) then ((octet_Put.f k x0 5).bind fun t172 => (if t172.toList = ([] : List UInt8) then ((wellspringlaw01_live.f k).bind fun t173 => (some t173)) else (some false))) else (some false))) else (some false)) else (if ((x3.toList != ([] : List UInt8)) == false) = true then ((octet_Put.f k x0 0).bind fun t174 => (if t174.toList = ([] : List UInt8) then ((octet_Put.f k x0 5).bind fun t175 => (if t175.toList = ([] : List UInt8) then ((wellspringlaw01_live.f k).bind fun t176 => (some t176)) else (some false))) else (some false))) else (some false)))
def wellspringlaw01_OctetSizes.j1 : Nat → Int → ByteArray → Int → Bool → Option (Bool)
  | 0, _, _, _, _ => none
  | k + 1, x0, x3, x4, x24 => if x24 = true then (some false) else (wellspringlaw01_OctetSizes.l0 k x0 x3 (wrap64 (x4 + 1)))
end
def wellspringlaw01_OctetSizes.f (k : Nat) (a0 : Int) : Option (Bool) := wellspringlaw01_OctetSizes.l0 k a0 (⟨#[]⟩ : ByteArray) 1
theorem wellspringlaw01_OctetSizes.mono_l : ∀ k, (∀ y0 y1 y2, LeO (wellspringlaw01_OctetSizes.l0 k y0 y1 y2) (wellspringlaw01_OctetSizes.l0 (k + 1) y0 y1 y2)) ∧ (∀ y0 y1 y2 y3, LeO (wellspringlaw01_OctetSizes.j1 k y0 y1 y2 y3) (wellspringlaw01_OctetSizes.j1 (k + 1) y0 y1 y2 y3))
  | 0 => ⟨fun _ _ _ r h => by simp [wellspringlaw01_OctetSizes.l0] at h, fun _ _ _ _ r h => by simp [wellspringlaw01_OctetSizes.j1] at h⟩
  | k + 1 => by
    obtain ⟨ih0, ih1⟩ := wellspringlaw01_OctetSizes.mono_l k
    refine ⟨?_, ?_⟩
    · intro y0 y1 y2
      unfold wellspringlaw01_OctetSizes.l0
      repeat' first
      | (with_reducible exact ih0 _ _ _)
      | (with_reducible exact ih1 _ _ _ _)
      | (with_reducible exact octet_Put.mono _ _ _)
      | (with_reducible exact wellspringlaw01_live.mono _)
      | (with_reducible exact LeO.refl _)
      | (with_reducible exact LeO.none _)
      | (with_reducible refine LeO.ite ?_ ?_)
      | (with_reducible refine LeO.bind ?_ (fun _ => ?_))
      | exact ih0 _ _ _
      | exact ih1 _ _ _ _
      | exact octet_Put.mono _ _ _
      | exact wellspringlaw01_live.mono _
      | exact LeO.none _
      | refine LeO.ite ?_ ?_
      | refine LeO.bind ?_ (fun _ => ?_)
    · intro y0 y1 y2 y3
      unfold wellspringlaw01_OctetSizes.j1
      repeat' first
      | (with_reducible exact ih0 _ _ _)
      | (with_reducible exact ih1 _ _ _ _)
      | (with_reducible exact octet_Put.mono _ _ _)
      | (with_reducible exact wellspringlaw01_live.mono _)
      | (with_reducible exact LeO.refl _)
      | (with_reducible exact LeO.none _)
      | (with_reducible refine LeO.ite ?_ ?_)
      | (with_reducible refine LeO.bind ?_ (fun _ => ?_))
      | exact ih0 _ _ _
      | exact ih1 _ _ _ _
      | exact octet_Put.mono _ _ _
      | exact wellspringlaw01_live.mono _
      | exact LeO.none _
      | refine LeO.ite ?_ ?_
      | refine LeO.bind ?_ (fun _ => ?_)
theorem wellspringlaw01_OctetSizes.mono : ∀ a0 k, LeO (wellspringlaw01_OctetSizes.f k a0) (wellspringlaw01_OctetSizes.f (k + 1) a0) := by
  intro a0 k
  obtain ⟨ih0, ih1⟩ := wellspringlaw01_OctetSizes.mono_l k
  unfold wellspringlaw01_OctetSizes.f
  repeat' first
      | (with_reducible exact ih0 _ _ _)
      | (with_reducible exact ih1 _ _ _ _)
      | (with_reducible exact octet_Put.mono _ _ _)
      | (with_reducible exact wellspringlaw01_live.mono _)
      | (with_reducible exact LeO.refl _)
      | (with_reducible exact LeO.none _)
      | (with_reducible refine LeO.ite ?_ ?_)
      | (with_reducible refine LeO.bind ?_ (fun _ => ?_))
      | exact ih0 _ _ _
      | exact ih1 _ _ _ _
      | exact octet_Put.mono _ _ _
      | exact wellspringlaw01_live.mono _
      | exact LeO.none _
      | refine LeO.ite ?_ ?_
      | refine LeO.bind ?_ (fun _ => ?_)
set_option maxHeartbeats 8000000 in
set_option maxRecDepth 100000 in
theorem wellspringlaw01_OctetSizes.calls (k : Nat) (a0 : Int) (r : Bool) (w : World) (h : wellspringlaw01_OctetSizes.f k a0 = some r) :
    Calls Try.prog 8 #[.int .i64 a0] w fun e w' => e = .returned (.bool r) ∧ Below w.heap.size w w' := by
  have HB := Aside0.mk (Below.refl w.heap.size w)
  have H : (wellspringlaw01_OctetSizes.l0 k a0 (⟨#[]⟩ : ByteArray) 1) = some r := h
  clear h
  have H' := Aside0.mk H
  clear H
  go_enter Try.func8, Try.ntmps8
  go_wp2
  go_loopg [3, 4] k (fun kq v3 v4 w' => ∃ (x3_1 : ByteArray) (x4_1 : Int), v3 = .string x3_1 ∧ v4 = .int .i64 x4_1 ∧ Aside0 (wellspringlaw01_OctetSizes.l0 kq a0 x3_1 x4_1 = some r) ∧ Aside0 (kq ≤ k) ∧ Aside0 (Below w.heap.size w w'))
  case atStart => exact ⟨((⟨#[]⟩ : ByteArray)), (1), (by first | rfl | (simp; done) | (simp [*]; done)), (by first | rfl | (simp; done) | (simp [*]; done)), H', ⟨Nat.le_refl _⟩, ⟨by repeat (first | (with_reducible first | exact HB.out | apply below_alloc | apply pw_below_drewN | apply below_drew1) | exact HB.out)⟩⟩
  case round =>
    clear H'
    obtain ⟨x3_1, x4_1, rfl, rfl, HA, HK1, HB⟩ := hrel
    cases gk with
    | zero => exact absurd HA.out (by simp [wellspringlaw01_OctetSizes.l0])
    | succ k1 =>
      have H := HA.out
      clear HA
      simp only [wellspringlaw01_OctetSizes.l0] at H
      by_cases c2 : x4_1 ≤ 4
      · rw [if_pos c2] at H
        have c2b0 : decide (x4_1 ≤ 4) = true := decide_eq_true c2
        clear c2
        replace H := Option.bind_eq_some_iff.mp H
        obtain ⟨t177, A30, H⟩ := H
        replace H : (if t177.toList = ([] : List UInt8) then (if x3_1.toList = ([] : List UInt8) then (if a0 ≥ 0 then (wellspringlaw01_OctetSizes.j1 k1 a0 x3_1 x4_1 (decide (a0 < 256))) else (wellspringlaw01_OctetSizes.j1 k1 a0 x3_1 x4_1 false)) else (wellspringlaw01_OctetSizes.j1 k1 a0 x3_1 x4_1 true)) else (if (t177.size : Int) = x4_1 then (if x3_1.toList = ([] : List UInt8) then (wellspringlaw01_OctetSizes.l0 k1 a0 t177 (wrap64 (x4_1 + 1))) else (if 1 + x3_1.size ≤ 9223372036854775807 then (if t177.toList = ((⟨#[0]⟩ : ByteArray) ++ x3_1).toList then (wellspringlaw01_OctetSizes.l0 k1 a0 t177 (wrap64 (x4_1 + 1))) else (some false)) else (none))) else (some false))) = some r := H
        have A3 := Aside0.mk A30
        clear A30
        by_cases c4 : t177.toList = ([] : List UInt8)
        · rw [if_pos c4] at H
          have c4b0 : (t177.toList == ([] : List UInt8)) = true := beq_iff_eq.mpr c4
          have c4b1 : (t177.toList != ([] : List UInt8)) = false := bne_eq_false_iff_eq.mpr c4
          have c4b2 : t177.toList.isEmpty = true := List.isEmpty_iff.mpr c4
          clear c4
          have HC5 := Aside0.mk H
          clear H
          go_upto_region 7 with (first | ((with_reducible refine gate_callee (f := 22) rfl ?_); refine goesL_ (some 12) rfl rfl Try.func22 (by kernel_rfl) rfl #[.int .i64 a0, .int .i64 x4_1] rfl (by (try simp only [List.map_toArray, List.map_cons, List.map_nil]); first | done | rfl | (simp only [List.length_drop, List.length_take]; rfl)) ?_; (with_reducible refine (octet_Put.calls k1 a0 x4_1 t177 _ A3.out).mono ?_); rintro e w6 ⟨rfl, hb⟩; refine ⟨_, rfl, ?_⟩; have n0_ := Aside0.mk (below_step (by repeat (first | (with_reducible first | exact HB.out | apply below_alloc | apply pw_below_drewN | apply below_drew1) | exact HB.out)) hb); clear HB; have HB := n0_; clear n0_; (try clear hb); (try clear hb2); (try clear hk); (try clear hi)))
          (try simp only [Act.put, List.setIfInBounds_toArray, List.set_cons_zero, List.set_cons_succ])
          go_cut [24] (fun v24 wc => ∃ (kq : Nat) (x24_4 : Bool), v24 = .bool x24_4 ∧ Aside0 (wellspringlaw01_OctetSizes.j1 kq a0 x3_1 x4_1 x24_4 = some r) ∧ Aside0 (kq ≤ k1) ∧ Aside0 (Below w.heap.size w wc))
          case first =>
            have H := HC5.out
            clear HC5
            by_cases c7 : x3_1.toList = ([] : List UInt8)
            · rw [if_pos c7] at H
              have c7b0 : (x3_1.toList == ([] : List UInt8)) = true := beq_iff_eq.mpr c7
              have c7b1 : (x3_1.toList != ([] : List UInt8)) = false := bne_eq_false_iff_eq.mpr c7
              have c7b2 : x3_1.toList.isEmpty = true := List.isEmpty_iff.mpr c7
              clear c7
              (first | rw [c7b0] | rw [c7b2] | (simp only [i64_w, i32_w]; rw [c7b0]) | skip)
              by_cases c8 : a0 ≥ 0
              · rw [if_pos c8] at H
                have c8b0 : decide (0 ≤ a0) = true := decide_eq_true c8
                clear c8
                have H' := Aside0.mk H
                clear H
                go_wp2
                go_meet
                case rel => exact ⟨_, (decide (a0 < 256)), (by first | rfl | (simp; done) | (simp [*]; done)), H', ⟨by have := HK1.out; first | omega | exact Nat.le_refl _⟩, ⟨by repeat (first | (with_reducible first | exact HB.out | apply below_alloc | apply pw_below_drewN | apply below_drew1) | exact HB.out)⟩⟩
              · rw [if_neg c8] at H
                have c8b0 : decide (0 ≤ a0) = false := decide_eq_false c8
                clear c8
                have H' := Aside0.mk H
                clear H
                go_wp2
                go_meet
                case rel => exact ⟨_, (false), (by first | rfl | (simp; done) | (simp [*]; done)), H', ⟨by have := HK1.out; first | omega | exact Nat.le_refl _⟩, ⟨by repeat (first | (with_reducible first | exact HB.out | apply below_alloc | apply pw_below_drewN | apply below_drew1) | exact HB.out)⟩⟩
            · rw [if_neg c7] at H
              have c7b0 : (x3_1.toList == ([] : List UInt8)) = false := beq_eq_false_iff_ne.mpr c7
              have c7b1 : (x3_1.toList != ([] : List UInt8)) = true := bne_iff_ne.mpr c7
              have c7b2 : x3_1.toList.isEmpty = false := Bool.eq_false_iff.mpr (fun h_ => c7 (List.isEmpty_iff.mp h_))
              (first | rw [c7b0] | rw [c7b2] | (simp only [i64_w, i32_w]; rw [c7b0]) | skip)
              have H' := Aside0.mk H
              clear H
              go_wp2
              go_meet
              case rel => exact ⟨_, (true), (by first | rfl | (simp; done) | (simp [*]; done)), H', ⟨by have := HK1.out; first | omega | exact Nat.le_refl _⟩, ⟨by repeat (first | (with_reducible first | exact HB.out | apply below_alloc | apply pw_below_drewN | apply below_drew1) | exact HB.out)⟩⟩
          case rest =>
            clear HC5
            try clear c2
            try clear c2b0
            try clear p2
            try clear c4
            try clear c4b0
            try clear c4b1
            try clear c4b2
            try clear p6
            try clear c7
            try clear c7b0
            try clear c7b1
            try clear c7b2
            try clear c8
            try clear c8b0
            obtain ⟨kq, x24_4, rfl, HA, HJ4, HB⟩ := hcut
            cases kq with
            | zero => exact absurd HA.out (by simp [wellspringlaw01_OctetSizes.j1])
            | succ kj4 =>
              have H := HA.out
              clear HA
              simp only [wellspringlaw01_OctetSizes.j1] at H
              by_cases c9 : x24_4 = true
              · subst c9
                have H1 : (some false) = some r := by rw [if_pos rfl] at H; exact H
                clear H
                have H := H1
                clear H1
                obtain rfl := Option.some.inj H
                go_wp2
                go_ret
                exact ⟨by first | rfl | (simp [errW_none, errW_some] <;> rfl) | (simp [*, errW_none, errW_some] <;> rfl), by repeat (first | (with_reducible first | exact HB.out | apply below_alloc | apply pw_below_drewN | apply below_drew1) | exact HB.out)⟩
              · replace c9 := Bool.eq_false_iff.mpr c9
                subst c9
                have H1 : (wellspringlaw01_OctetSizes.l0 kj4 a0 x3_1 (wrap64 (x4_1 + 1))) = some r := by rw [if_neg (show ¬ (false = true) by decide)] at H; exact H
                clear H
                have H := H1
                clear H1
                have H' := Aside0.mk H
                clear H
                go_wp2
                go_roundg kj4
                case measure => have := HK1.out; have := HJ4.out; omega
                case rel => exact ⟨(x3_1), (wrap64 (x4_1 + 1)), (by first | rfl | (simp; done) | (simp [*]; done)), (by first | rfl | (simp; done) | (simp [*]; done)), H', ⟨by have := HK1.out; have := HJ4.out; omega⟩, ⟨by repeat (first | (with_reducible first | exact HB.out | apply below_alloc | apply pw_below_drewN | apply below_drew1) | exact HB.out)⟩⟩
        · rw [if_neg c4] at H
          have c4b0 : (t177.toList == ([] : List UInt8)) = false := beq_eq_false_iff_ne.mpr c4
          have c4b1 : (t177.toList != ([] : List UInt8)) = true := bne_iff_ne.mpr c4
          have c4b2 : t177.toList.isEmpty = false := Bool.eq_false_iff.mpr (fun h_ => c4 (List.isEmpty_iff.mp h_))
          by_cases c10 : (t177.size : Int) = x4_1
          · rw [if_pos c10] at H
            have c10b0 : ((t177.size : Int) == x4_1) = true := beq_iff_eq.mpr c10
            have c10b1 : ((t177.size : Int) != x4_1) = false := bne_eq_false_iff_eq.mpr c10
            clear c10
            by_cases c11 : x3_1.toList = ([] : List UInt8)
            · rw [if_pos c11] at H
              have c11b0 : (x3_1.toList == ([] : List UInt8)) = true := beq_iff_eq.mpr c11
              have c11b1 : (x3_1.toList != ([] : List UInt8)) = false := bne_eq_false_iff_eq.mpr c11
              have c11b2 : x3_1.toList.isEmpty = true := List.isEmpty_iff.mpr c11
              clear c11
              have H' := Aside0.mk H
              clear H
              go_wp2_with (first | ((with_reducible refine gate_callee (f := 22) rfl ?_); refine goesL_ (some 12) rfl rfl Try.func22 (by kernel_rfl) rfl #[.int .i64 a0, .int .i64 x4_1] rfl (by (try simp only [List.map_toArray, List.map_cons, List.map_nil]); first | done | rfl | (simp only [List.length_drop, List.length_take]; rfl)) ?_; (with_reducible refine (octet_Put.calls k1 a0 x4_1 t177 _ A3.out).mono ?_); rintro e w12 ⟨rfl, hb⟩; refine ⟨_, rfl, ?_⟩; have n0_ := Aside0.mk (below_step (by repeat (first | (with_reducible first | exact HB.out | apply below_alloc | apply pw_below_drewN | apply below_drew1) | exact HB.out)) hb); clear HB; have HB := n0_; clear n0_; (try clear hb); (try clear hb2); (try clear hk); (try clear hi)))
              go_roundg k1
              case measure => have := HK1.out; omega
              case rel => exact ⟨(t177), (wrap64 (x4_1 + 1)), (by first | rfl | (simp; done) | (simp [*]; done)), (by first | rfl | (simp; done) | (simp [*]; done)), H', ⟨by have := HK1.out; omega⟩, ⟨by repeat (first | (with_reducible first | exact HB.out | apply below_alloc | apply pw_below_drewN | apply below_drew1) | exact HB.out)⟩⟩
            · rw [if_neg c11] at H
              have c11b0 : (x3_1.toList == ([] : List UInt8)) = false := beq_eq_false_iff_ne.mpr c11
              have c11b1 : (x3_1.toList != ([] : List UInt8)) = true := bne_iff_ne.mpr c11
              have c11b2 : x3_1.toList.isEmpty = false := Bool.eq_false_iff.mpr (fun h_ => c11 (List.isEmpty_iff.mp h_))
              by_cases c13 : 1 + x3_1.size ≤ 9223372036854775807
              · rw [if_pos c13] at H
                have c13b0 := eq_true c13
                have c13b1 : decide (1 + x3_1.size ≤ 9223372036854775807) = true := decide_eq_true c13
                try have c13b2 : (9223372036854775807 < 1 + x3_1.size) = False := eq_false (Nat.not_lt.2 c13)
                by_cases c14 : t177.toList = ((⟨#[0]⟩ : ByteArray) ++ x3_1).toList
                · rw [if_pos c14] at H
                  have c14b0 : (t177.toList == ((⟨#[0]⟩ : ByteArray) ++ x3_1).toList) = true := beq_iff_eq.mpr c14
                  have c14b1 : (t177.toList != ((⟨#[0]⟩ : ByteArray) ++ x3_1).toList) = false := bne_eq_false_iff_eq.mpr c14
                  clear c14
                  have H' := Aside0.mk H
                  clear H
                  go_wp2_with (first | ((with_reducible refine gate_callee (f := 22) rfl ?_); refine goesL_ (some 12) rfl rfl Try.func22 (by kernel_rfl) rfl #[.int .i64 a0, .int .i64 x4_1] rfl (by (try simp only [List.map_toArray, List.map_cons, List.map_nil]); first | done | rfl | (simp only [List.length_drop, List.length_take]; rfl)) ?_; (with_reducible refine (octet_Put.calls k1 a0 x4_1 t177 _ A3.out).mono ?_); rintro e w15 ⟨rfl, hb⟩; refine ⟨_, rfl, ?_⟩; have n0_ := Aside0.mk (below_step (by repeat (first | (with_reducible first | exact HB.out | apply below_alloc | apply pw_below_drewN | apply below_drew1) | exact HB.out)) hb); clear HB; have HB := n0_; clear n0_; (try clear hb); (try clear hb2); (try clear hk); (try clear hi)))
                  go_roundg k1
                  case measure => have := HK1.out; omega
                  case rel => exact ⟨(t177), (wrap64 (x4_1 + 1)), (by first | rfl | (simp; done) | (simp [*]; done)), (by first | rfl | (simp; done) | (simp [*]; done)), H', ⟨by have := HK1.out; omega⟩, ⟨by repeat (first | (with_reducible first | exact HB.out | apply below_alloc | apply pw_below_drewN | apply below_drew1) | exact HB.out)⟩⟩
                · rw [if_neg c14] at H
                  have c14b0 : (t177.toList == ((⟨#[0]⟩ : ByteArray) ++ x3_1).toList) = false := beq_eq_false_iff_ne.mpr c14
                  have c14b1 : (t177.toList != ((⟨#[0]⟩ : ByteArray) ++ x3_1).toList) = true := bne_iff_ne.mpr c14
                  obtain rfl := Option.some.inj H
                  go_wp2_with (first | ((with_reducible refine gate_callee (f := 22) rfl ?_); refine goesL_ (some 12) rfl rfl Try.func22 (by kernel_rfl) rfl #[.int .i64 a0, .int .i64 x4_1] rfl (by (try simp only [List.map_toArray, List.map_cons, List.map_nil]); first | done | rfl | (simp only [List.length_drop, List.length_take]; rfl)) ?_; (with_reducible refine (octet_Put.calls k1 a0 x4_1 t177 _ A3.out).mono ?_); rintro e w16 ⟨rfl, hb⟩; refine ⟨_, rfl, ?_⟩; have n0_ := Aside0.mk (below_step (by repeat (first | (with_reducible first | exact HB.out | apply below_alloc | apply pw_below_drewN | apply below_drew1) | exact HB.out)) hb); clear HB; have HB := n0_; clear n0_; (try clear hb); (try clear hb2); (try clear hk); (try clear hi)))
                  go_ret
                  exact ⟨by first | rfl | (simp [errW_none, errW_some] <;> rfl) | (simp [*, errW_none, errW_some] <;> rfl), by repeat (first | (with_reducible first | exact HB.out | apply below_alloc | apply pw_below_drewN | apply below_drew1) | exact HB.out)⟩
              · rw [if_neg c13] at H
                exact absurd H (by simp)
          · rw [if_neg c10] at H
            have c10b0 : ((t177.size : Int) == x4_1) = false := beq_eq_false_iff_ne.mpr c10
            have c10b1 : ((t177.size : Int) != x4_1) = true := bne_iff_ne.mpr c10
            obtain rfl := Option.some.inj H
            go_wp2_with (first | ((with_reducible refine gate_callee (f := 22) rfl ?_); refine goesL_ (some 12) rfl rfl Try.func22 (by kernel_rfl) rfl #[.int .i64 a0, .int .i64 x4_1] rfl (by (try simp only [List.map_toArray, List.map_cons, List.map_nil]); first | done | rfl | (simp only [List.length_drop, List.length_take]; rfl)) ?_; (with_reducible refine (octet_Put.calls k1 a0 x4_1 t177 _ A3.out).mono ?_); rintro e w17 ⟨rfl, hb⟩; refine ⟨_, rfl, ?_⟩; have n0_ := Aside0.mk (below_step (by repeat (first | (with_reducible first | exact HB.out | apply below_alloc | apply pw_below_drewN | apply below_drew1) | exact HB.out)) hb); clear HB; have HB := n0_; clear n0_; (try clear hb); (try clear hb2); (try clear hk); (try clear hi)))
            go_ret
            exact ⟨by first | rfl | (simp [errW_none, errW_some] <;> rfl) | (simp [*, errW_none, errW_some] <;> rfl), by repeat (first | (with_reducible first | exact HB.out | apply below_alloc | apply pw_below_drewN | apply below_drew1) | exact HB.out)⟩
      · rw [if_neg c2] at H
        have c2b0 : decide (x4_1 ≤ 4) = false := decide_eq_false c2
        clear c2
        by_cases c18 : a0 ≥ 0
        · rw [if_pos c18] at H
          have c18b0 : decide (0 ≤ a0) = true := decide_eq_true c18
          clear c18
          by_cases c19 : ((x3_1.toList != ([] : List UInt8)) == (decide (a0 < 4294967296))) = true
          · rw [if_pos c19] at H
            have c19b0 : ((x3_1.toList != ([] : List UInt8)) == (decide (a0 < 4294967296))) = true := c19
            (try (have c19b1 : decide ((x3_1.toList != ([] : List UInt8)) = (decide (a0 < 4294967296))) = true := by simpa using c19))
            (try (have c19b2 : ((x3_1.toList != ([] : List UInt8)) == (decide (a0 < 4294967296))) = true := by simpa using c19))
            (try (have c19b3 : (x3_1.toList.isEmpty = !(decide (a0 < 4294967296))) = True := eq_true (by have h_ := c19; rw [show ∀ l_ : List UInt8, (l_ != ([] : List UInt8)) = !l_.isEmpty from fun l_ => by cases l_ <;> rfl] at h_; simpa using h_)))
            (try (have c19b4 : x3_1.toList.isEmpty = true := by have h_ := c19; rw [show ∀ l_ : List UInt8, (l_ != ([] : List UInt8)) = !l_.isEmpty from fun l_ => by cases l_ <;> rfl] at h_; simpa using h_))
            (try (have c19b5 : x3_1.toList.isEmpty = false := by have h_ := c19; rw [show ∀ l_ : List UInt8, (l_ != ([] : List UInt8)) = !l_.isEmpty from fun l_ => by cases l_ <;> rfl] at h_; simpa using h_))
            clear c19
            replace H := Option.bind_eq_some_iff.mp H
            obtain ⟨t171, A200, H⟩ := H
            replace H : (if t171.toList = ([] : List UInt8) then ((octet_Put.f k1 a0 5).bind fun t172 => (if t172.toList = ([] : List UInt8) then ((wellspringlaw01_live.f k1).bind fun t173 => (some t173)) else (some false))) else (some false)) = some r := H
            have A20 := Aside0.mk A200
            clear A200
            by_cases c21 : t171.toList = ([] : List UInt8)
            · rw [if_pos c21] at H
              have c21b0 : (t171.toList == ([] : List UInt8)) = true := beq_iff_eq.mpr c21
              have c21b1 : (t171.toList != ([] : List UInt8)) = false := bne_eq_false_iff_eq.mpr c21
              have c21b2 : t171.toList.isEmpty = true := List.isEmpty_iff.mpr c21
              clear c21
              replace H := Option.bind_eq_some_iff.mp H
              obtain ⟨t172, A220, H⟩ := H
              replace H : (if t172.toList = ([] : List UInt8) then ((wellspringlaw01_live.f k1).bind fun t173 => (some t173)) else (some false)) = some r := H
              have A22 := Aside0.mk A220
              clear A220
              by_cases c23 : t172.toList = ([] : List UInt8)
              · rw [if_pos c23] at H
                have c23b0 : (t172.toList == ([] : List UInt8)) = true := beq_iff_eq.mpr c23
                have c23b1 : (t172.toList != ([] : List UInt8)) = false := bne_eq_false_iff_eq.mpr c23
                have c23b2 : t172.toList.isEmpty = true := List.isEmpty_iff.mpr c23
                clear c23
                replace H := Option.bind_eq_some_iff.mp H
                obtain ⟨t173, A240, H⟩ := H
                replace H : (some t173) = some r := H
                have A24 := Aside0.mk A240
                clear A240
                obtain rfl := Option.some.inj H
                go_wp2_with (first | (go_at_call 22; (with_reducible refine (octet_Put.calls k1 a0 0 t171 _ A20.out).mono ?_); rintro e w25 ⟨rfl, hb⟩; have n0_ := Aside0.mk (below_step (by repeat (first | (with_reducible first | exact HB.out | apply below_alloc | apply pw_below_drewN | apply below_drew1) | exact HB.out)) hb); clear HB; have HB := n0_; clear n0_; (try clear hb); (try clear hb2); (try clear hk); (try clear hi)) | (go_at_call 22; (with_reducible refine (octet_Put.calls k1 a0 5 t172 _ A22.out).mono ?_); rintro e w26 ⟨rfl, hb⟩; have n0_ := Aside0.mk (below_step (by repeat (first | (with_reducible first | exact HB.out | apply below_alloc | apply pw_below_drewN | apply below_drew1) | exact HB.out)) hb); clear HB; have HB := n0_; clear n0_; (try clear hb); (try clear hb2); (try clear hk); (try clear hi)) | (go_at_call 15; (with_reducible refine (wellspringlaw01_live.calls k1  t173 _ A24.out).mono ?_); rintro e w27 ⟨rfl, hb⟩; have n0_ := Aside0.mk (below_step (by repeat (first | (with_reducible first | exact HB.out | apply below_alloc | apply pw_below_drewN | apply below_drew1) | exact HB.out)) hb); clear HB; have HB := n0_; clear n0_; (try clear hb); (try clear hb2); (try clear hk); (try clear hi)))
                go_ret
                exact ⟨by first | rfl | (simp [errW_none, errW_some] <;> rfl) | (simp [*, errW_none, errW_some] <;> rfl), by repeat (first | (with_reducible first | exact HB.out | apply below_alloc | apply pw_below_drewN | apply below_drew1) | exact HB.out)⟩
              · rw [if_neg c23] at H
                have c23b0 : (t172.toList == ([] : List UInt8)) = false := beq_eq_false_iff_ne.mpr c23
                have c23b1 : (t172.toList != ([] : List UInt8)) = true := bne_iff_ne.mpr c23
                have c23b2 : t172.toList.isEmpty = false := Bool.eq_false_iff.mpr (fun h_ => c23 (List.isEmpty_iff.mp h_))
                obtain rfl := Option.some.inj H
                go_wp2_with (first | (go_at_call 22; (with_reducible refine (octet_Put.calls k1 a0 0 t171 _ A20.out).mono ?_); rintro e w28 ⟨rfl, hb⟩; have n0_ := Aside0.mk (below_step (by repeat (first | (with_reducible first | exact HB.out | apply below_alloc | apply pw_below_drewN | apply below_drew1) | exact HB.out)) hb); clear HB; have HB := n0_; clear n0_; (try clear hb); (try clear hb2); (try clear hk); (try clear hi)) | (go_at_call 22; (with_reducible refine (octet_Put.calls k1 a0 5 t172 _ A22.out).mono ?_); rintro e w29 ⟨rfl, hb⟩; have n0_ := Aside0.mk (below_step (by repeat (first | (with_reducible first | exact HB.out | apply below_alloc | apply pw_below_drewN | apply below_drew1) | exact HB.out)) hb); clear HB; have HB := n0_; clear n0_; (try clear hb); (try clear hb2); (try clear hk); (try clear hi)))
                go_ret
                exact ⟨by first | rfl | (simp [errW_none, errW_some] <;> rfl) | (simp [*, errW_none, errW_some] <;> rfl), by repeat (first | (with_reducible first | exact HB.out | apply below_alloc | apply pw_below_drewN | apply below_drew1) | exact HB.out)⟩
            · rw [if_neg c21] at H
              have c21b0 : (t171.toList == ([] : List UInt8)) = false := beq_eq_false_iff_ne.mpr c21
              have c21b1 : (t171.toList != ([] : List UInt8)) = true := bne_iff_ne.mpr c21
              have c21b2 : t171.toList.isEmpty = false := Bool.eq_false_iff.mpr (fun h_ => c21 (List.isEmpty_iff.mp h_))
              obtain rfl := Option.some.inj H
              go_wp2_with (first | (go_at_call 22; (with_reducible refine (octet_Put.calls k1 a0 0 t171 _ A20.out).mono ?_); rintro e w30 ⟨rfl, hb⟩; have n0_ := Aside0.mk (below_step (by repeat (first | (with_reducible first | exact HB.out | apply below_alloc | apply pw_below_drewN | apply below_drew1) | exact HB.out)) hb); clear HB; have HB := n0_; clear n0_; (try clear hb); (try clear hb2); (try clear hk); (try clear hi)))
              go_ret
              exact ⟨by first | rfl | (simp [errW_none, errW_some] <;> rfl) | (simp [*, errW_none, errW_some] <;> rfl), by repeat (first | (with_reducible first | exact HB.out | apply below_alloc | apply pw_below_drewN | apply below_drew1) | exact HB.out)⟩
          · rw [if_neg c19] at H
            have c19b0 : ((x3_1.toList != ([] : List UInt8)) == (decide (a0 < 4294967296))) = false := by simpa using c19
            (try (have c19b1 : decide ((x3_1.toList != ([] : List UInt8)) = (decide (a0 < 4294967296))) = false := by simpa using c19))
            (try (have c19b2 : ((x3_1.toList != ([] : List UInt8)) == (decide (a0 < 4294967296))) = false := by simpa using c19))
            (try (have c19b3 : ¬ ((x3_1.toList != ([] : List UInt8)) = (decide (a0 < 4294967296))) := by simpa using c19))
            (try (have c19b4 : (x3_1.toList.isEmpty = !(decide (a0 < 4294967296))) = False := eq_false (by have h_ := c19; rw [show ∀ l_ : List UInt8, (l_ != ([] : List UInt8)) = !l_.isEmpty from fun l_ => by cases l_ <;> rfl] at h_; simpa using h_)))
            (try (have c19b5 : x3_1.toList.isEmpty = true := by have h_ := c19; rw [show ∀ l_ : List UInt8, (l_ != ([] : List UInt8)) = !l_.isEmpty from fun l_ => by cases l_ <;> rfl] at h_; simpa using h_))
            (try (have c19b6 : x3_1.toList.isEmpty = false := by have h_ := c19; rw [show ∀ l_ : List UInt8, (l_ != ([] : List UInt8)) = !l_.isEmpty from fun l_ => by cases l_ <;> rfl] at h_; simpa using h_))
            clear c19
            obtain rfl := Option.some.inj H
            go_wp2
            go_ret
            exact ⟨by first | rfl | (simp [errW_none, errW_some] <;> rfl) | (simp [*, errW_none, errW_some] <;> rfl), by repeat (first | (with_reducible first | exact HB.out | apply below_alloc | apply pw_below_drewN | apply below_drew1) | exact HB.out)⟩
        · rw [if_neg c18] at H
          have c18b0 : decide (0 ≤ a0) = false := decide_eq_false c18
          clear c18
          by_cases c31 : ((x3_1.toList != ([] : List UInt8)) == false) = true
          · rw [if_pos c31] at H
            have c31b0 : ((x3_1.toList != ([] : List UInt8)) == false) = true := c31
            (try (have c31b1 : decide ((x3_1.toList != ([] : List UInt8)) = false) = true := by simpa using c31))
            (try (have c31b2 : ((x3_1.toList != ([] : List UInt8)) == false) = true := by simpa using c31))
            (try (have c31b3 : (x3_1.toList.isEmpty = !false) = True := eq_true (by have h_ := c31; rw [show ∀ l_ : List UInt8, (l_ != ([] : List UInt8)) = !l_.isEmpty from fun l_ => by cases l_ <;> rfl] at h_; simpa using h_)))
            (try (have c31b4 : x3_1.toList.isEmpty = true := by have h_ := c31; rw [show ∀ l_ : List UInt8, (l_ != ([] : List UInt8)) = !l_.isEmpty from fun l_ => by cases l_ <;> rfl] at h_; simpa using h_))
            (try (have c31b5 : x3_1.toList.isEmpty = false := by have h_ := c31; rw [show ∀ l_ : List UInt8, (l_ != ([] : List UInt8)) = !l_.isEmpty from fun l_ => by cases l_ <;> rfl] at h_; simpa using h_))
            clear c31
            replace H := Option.bind_eq_some_iff.mp H
            obtain ⟨t174, A320, H⟩ := H
            replace H : (if t174.toList = ([] : List UInt8) then ((octet_Put.f k1 a0 5).bind fun t175 => (if t175.toList = ([] : List UInt8) then ((wellspringlaw01_live.f k1).bind fun t176 => (some t176)) else (some false))) else (some false)) = some r := H
            have A32 := Aside0.mk A320
            clear A320
            by_cases c33 : t174.toList = ([] : List UInt8)
            · rw [if_pos c33] at H
              have c33b0 : (t174.toList == ([] : List UInt8)) = true := beq_iff_eq.mpr c33
              have c33b1 : (t174.toList != ([] : List UInt8)) = false := bne_eq_false_iff_eq.mpr c33
              have c33b2 : t174.toList.isEmpty = true := List.isEmpty_iff.mpr c33
              clear c33
              replace H := Option.bind_eq_some_iff.mp H
              obtain ⟨t175, A340, H⟩ := H
              replace H : (if t175.toList = ([] : List UInt8) then ((wellspringlaw01_live.f k1).bind fun t176 => (some t176)) else (some false)) = some r := H
              have A34 := Aside0.mk A340
              clear A340
              by_cases c35 : t175.toList = ([] : List UInt8)
              · rw [if_pos c35] at H
                have c35b0 : (t175.toList == ([] : List UInt8)) = true := beq_iff_eq.mpr c35
                have c35b1 : (t175.toList != ([] : List UInt8)) = false := bne_eq_false_iff_eq.mpr c35
                have c35b2 : t175.toList.isEmpty = true := List.isEmpty_iff.mpr c35
                clear c35
                replace H := Option.bind_eq_some_iff.mp H
                obtain ⟨t176, A360, H⟩ := H
                replace H : (some t176) = some r := H
                have A36 := Aside0.mk A360
                clear A360
                obtain rfl := Option.some.inj H
                go_wp2_with (first | (go_at_call 22; (with_reducible refine (octet_Put.calls k1 a0 0 t174 _ A32.out).mono ?_); rintro e w37 ⟨rfl, hb⟩; have n0_ := Aside0.mk (below_step (by repeat (first | (with_reducible first | exact HB.out | apply below_alloc | apply pw_below_drewN | apply below_drew1) | exact HB.out)) hb); clear HB; have HB := n0_; clear n0_; (try clear hb); (try clear hb2); (try clear hk); (try clear hi)) | (go_at_call 22; (with_reducible refine (octet_Put.calls k1 a0 5 t175 _ A34.out).mono ?_); rintro e w38 ⟨rfl, hb⟩; have n0_ := Aside0.mk (below_step (by repeat (first | (with_reducible first | exact HB.out | apply below_alloc | apply pw_below_drewN | apply below_drew1) | exact HB.out)) hb); clear HB; have HB := n0_; clear n0_; (try clear hb); (try clear hb2); (try clear hk); (try clear hi)) | (go_at_call 15; (with_reducible refine (wellspringlaw01_live.calls k1  t176 _ A36.out).mono ?_); rintro e w39 ⟨rfl, hb⟩; have n0_ := Aside0.mk (below_step (by repeat (first | (with_reducible first | exact HB.out | apply below_alloc | apply pw_below_drewN | apply below_drew1) | exact HB.out)) hb); clear HB; have HB := n0_; clear n0_; (try clear hb); (try clear hb2); (try clear hk); (try clear hi)))
                go_ret
                exact ⟨by first | rfl | (simp [errW_none, errW_some] <;> rfl) | (simp [*, errW_none, errW_some] <;> rfl), by repeat (first | (with_reducible first | exact HB.out | apply below_alloc | apply pw_below_drewN | apply below_drew1) | exact HB.out)⟩
              · rw [if_neg c35] at H
                have c35b0 : (t175.toList == ([] : List UInt8)) = false := beq_eq_false_iff_ne.mpr c35
                have c35b1 : (t175.toList != ([] : List UInt8)) = true := bne_iff_ne.mpr c35
                have c35b2 : t175.toList.isEmpty = false := Bool.eq_false_iff.mpr (fun h_ => c35 (List.isEmpty_iff.mp h_))
                obtain rfl := Option.some.inj H
                go_wp2_with (first | (go_at_call 22; (with_reducible refine (octet_Put.calls k1 a0 0 t174 _ A32.out).mono ?_); rintro e w40 ⟨rfl, hb⟩; have n0_ := Aside0.mk (below_step (by repeat (first | (with_reducible first | exact HB.out | apply below_alloc | apply pw_below_drewN | apply below_drew1) | exact HB.out)) hb); clear HB; have HB := n0_; clear n0_; (try clear hb); (try clear hb2); (try clear hk); (try clear hi)) | (go_at_call 22; (with_reducible refine (octet_Put.calls k1 a0 5 t175 _ A34.out).mono ?_); rintro e w41 ⟨rfl, hb⟩; have n0_ := Aside0.mk (below_step (by repeat (first | (with_reducible first | exact HB.out | apply below_alloc | apply pw_below_drewN | apply below_drew1) | exact HB.out)) hb); clear HB; have HB := n0_; clear n0_; (try clear hb); (try clear hb2); (try clear hk); (try clear hi)))
                go_ret
                exact ⟨by first | rfl | (simp [errW_none, errW_some] <;> rfl) | (simp [*, errW_none, errW_some] <;> rfl), by repeat (first | (with_reducible first | exact HB.out | apply below_alloc | apply pw_below_drewN | apply below_drew1) | exact HB.out)⟩
            · rw [if_neg c33] at H
              have c33b0 : (t174.toList == ([] : List UInt8)) = false := beq_eq_false_iff_ne.mpr c33
              have c33b1 : (t174.toList != ([] : List UInt8)) = true := bne_iff_ne.mpr c33
              have c33b2 : t174.toList.isEmpty = false := Bool.eq_false_iff.mpr (fun h_ => c33 (List.isEmpty_iff.mp h_))
              obtain rfl := Option.some.inj H
              go_wp2_with (first | (go_at_call 22; (with_reducible refine (octet_Put.calls k1 a0 0 t174 _ A32.out).mono ?_); rintro e w42 ⟨rfl, hb⟩; have n0_ := Aside0.mk (below_step (by repeat (first | (with_reducible first | exact HB.out | apply below_alloc | apply pw_below_drewN | apply below_drew1) | exact HB.out)) hb); clear HB; have HB := n0_; clear n0_; (try clear hb); (try clear hb2); (try clear hk); (try clear hi)))
              go_ret
              exact ⟨by first | rfl | (simp [errW_none, errW_some] <;> rfl) | (simp [*, errW_none, errW_some] <;> rfl), by repeat (first | (with_reducible first | exact HB.out | apply below_alloc | apply pw_below_drewN | apply below_drew1) | exact HB.out)⟩
          · rw [if_neg c31] at H
            have c31b0 : ((x3_1.toList != ([] : List UInt8)) == false) = false := by simpa using c31
            (try (have c31b1 : decide ((x3_1.toList != ([] : List UInt8)) = false) = false := by simpa using c31))
            (try (have c31b2 : ((x3_1.toList != ([] : List UInt8)) == false) = false := by simpa using c31))
            (try (have c31b3 : ¬ ((x3_1.toList != ([] : List UInt8)) = false) := by simpa using c31))
            (try (have c31b4 : (x3_1.toList.isEmpty = !false) = False := eq_false (by have h_ := c31; rw [show ∀ l_ : List UInt8, (l_ != ([] : List UInt8)) = !l_.isEmpty from fun l_ => by cases l_ <;> rfl] at h_; simpa using h_)))
            (try (have c31b5 : x3_1.toList.isEmpty = true := by have h_ := c31; rw [show ∀ l_ : List UInt8, (l_ != ([] : List UInt8)) = !l_.isEmpty from fun l_ => by cases l_ <;> rfl] at h_; simpa using h_))
            (try (have c31b6 : x3_1.toList.isEmpty = false := by have h_ := c31; rw [show ∀ l_ : List UInt8, (l_ != ([] : List UInt8)) = !l_.isEmpty from fun l_ => by cases l_ <;> rfl] at h_; simpa using h_))
            clear c31
            obtain rfl := Option.some.inj H
            go_wp2
            go_ret
            exact ⟨by first | rfl | (simp [errW_none, errW_some] <;> rfl) | (simp [*, errW_none, errW_some] <;> rfl), by repeat (first | (with_reducible first | exact HB.out | apply below_alloc | apply pw_below_drewN | apply below_drew1) | exact HB.out)⟩

/-- THE ONE PURE STATEMENT of wellspringlaw01_OctetSizes: yours. -/
def wellspringlaw01_OctetSizes.Pure : Prop := ∀ (a0 : Int), (Lit.int .i64 a0).wf = true → ∃ k, wellspringlaw01_OctetSizes.f k a0 = some true
theorem wellspringlaw01_OctetSizes.walk (P : wellspringlaw01_OctetSizes.Pure) (a0 : Int) (w : World) (w0 : (Lit.int .i64 a0).wf = true) :
    Calls Try.prog 8 #[.int .i64 a0] w fun e w' => e = .returned (.bool true) ∧ Below w.heap.size w w' := by
  obtain ⟨k, h⟩ := P a0 w0
  refine (wellspringlaw01_OctetSizes.calls k a0 true w h).mono ?_
  rintro e w' ⟨rfl, hd⟩
  exact ⟨rfl, hd⟩

-- NOT PRINTED: function 43 (strings_Builder_String)

-- NOT PRINTED: function 32 (comp_reader_end)

-- NOT PRINTED: function 33 (comp_reader_follow)

-- NOT PRINTED: function 44 (strings_Builder_Len)

-- NOT PRINTED: function 53 (abi_NoEscape)

-- NOT PRINTED: function 50 (strings_Builder_copyCheck)

-- NOT PRINTED: function 45 (strings_Builder_WriteString)

-- NOT PRINTED: function 34 (comp_reader_label)

-- NOT PRINTED: function 25 (comp_Read)

/-! ### name_split: function 46 -/
mutual
def name_split.l0 : Nat → ByteArray → List ByteArray → Option (List ByteArray × Bool)
  | 0, _, _ => none
  | k + 1, x0, x4 => if (x0.size : Int) > 0 then (name_split.j1 k x0 x4 (x0.toList != ([0] : List UInt8))) else (name_split.j1 k x0 x4 false)
def name_split.j1 : Nat → ByteArray → List ByteArray → Bool → Option (List ByteArray × Bool)
  | 0, _, _, _ => none
  | k + 1, x0, x4, x15 => if x15 = true then (if 0 < (x0.size : Int) then (if (wrap64 (bt x0 0)) < 1 then (some (([] : List ByteArray), false)) else (if (wrap64 (bt x0 0)) > 63 then (some (([] : List ByteArray), false)) else (if (wrap64 ((wrap64 (bt x0 0)) + 1)) ≥ (x0.size : Int) then (some (([] : List ByteArray), false)) else (if 1 ≤ (wrap64 (1 + (wrap64 (bt x0 0)))) then (if (wrap64 (1 + (wrap64 (bt x0 0)))) ≤ (x0.size : Int) then (if x4.length < 8796093022208 then (if 0 ≤ (wrap64 (1 + (wrap64 (bt x0 0)))) then (name_split.l0 k (x0.extract ((wrap64 (1 + (wrap64 (bt x0 0)))) : Int).toNat x0.size) (x4 ++ [x0.extract 1 ((wrap64 (1 + (wrap64 (bt x0 0)))) : Int).toNat])) else (none)) else (none)) else (none)) else (none))))) else (none)) else (some (x4, (x0.toList == ([0] : List UInt8))))
end
def name_split.f (k : Nat) (a0 : ByteArray) : Option (List ByteArray × Bool) := if (a0.size : Int) > 255 then (some (([] : List ByteArray), false)) else (name_split.l0 k a0 ([] : List ByteArray))
theorem name_split.mono_l : ∀ k, (∀ y0 y1, LeO (name_split.l0 k y0 y1) (name_split.l0 (k + 1) y0 y1)) ∧ (∀ y0 y1 y2, LeO (name_split.j1 k y0 y1 y2) (name_split.j1 (k + 1) y0 y1 y2))
  | 0 => ⟨fun _ _ r h => by simp [name_split.l0] at h, fun _ _ _ r h => by simp [name_split.j1] at h⟩
  | k + 1 => by
    obtain ⟨ih0, ih1⟩ := name_split.mono_l k
    refine ⟨?_, ?_⟩
    · intro y0 y1
      unfold name_split.l0
      repeat' first
      | (with_reducible exact ih0 _ _)
      | (with_reducible exact ih1 _ _ _)
      | (with_reducible exact LeO.refl _)
      | (with_reducible exact LeO.none _)
      | (with_reducible refine LeO.ite ?_ ?_)
      | (with_reducible refine LeO.bind ?_ (fun _ => ?_))
      | exact ih0 _ _
      | exact ih1 _ _ _
      | exact LeO.none _
      | refine LeO.ite ?_ ?_
      | refine LeO.bind ?_ (fun _ => ?_)
    · intro y0 y1 y2
      unfold name_split.j1
      repeat' first
      | (with_reducible exact ih0 _ _)
      | (with_reducible exact ih1 _ _ _)
      | (with_reducible exact LeO.refl _)
      | (with_reducible exact LeO.none _)
      | (with_reducible refine LeO.ite ?_ ?_)
      | (with_reducible refine LeO.bind ?_ (fun _ => ?_))
      | exact ih0 _ _
      | exact ih1 _ _ _
      | exact LeO.none _
      | refine LeO.ite ?_ ?_
      | refine LeO.bind ?_ (fun _ => ?_)
theorem name_split.mono : ∀ a0 k, LeO (name_split.f k a0) (name_split.f (k + 1) a0) := by
  intro a0 k
  obtain ⟨ih0, ih1⟩ := name_split.mono_l k
  unfold name_split.f
  repeat' first
      | (with_reducible exact ih0 _ _)
      | (with_reducible exact ih1 _ _ _)
      | (with_reducible exact LeO.refl _)
      | (with_reducible exact LeO.none _)
      | (with_reducible refine LeO.ite ?_ ?_)
      | (with_reducible refine LeO.bind ?_ (fun _ => ?_))
      | exact ih0 _ _
      | exact ih1 _ _ _
      | exact LeO.none _
      | refine LeO.ite ?_ ?_
      | refine LeO.bind ?_ (fun _ => ?_)
def name_split.T8 : Bool × List (List Nat × List Nat) := (true, [([], []), ([], []), ([], []), ([2], [2]), ([1, 3], [1, 3]), ([4], [4]), ([0, 5], [0, 5]), ([], []), ([], []), ([8], [8]), ([7, 9], [7, 9]), ([6, 6, 0, 1, 2, 3, 4, 5, 6], [0, 6]), ([10, 11, 0, 1, 2, 3, 4, 5, 6, 7, 8, 9, 10, 11], [1, 7, 10])])
def name_split.B8 : List Nat := [0, 0, 0, 4, 14, 30, 63, 0, 0, 256, 896, 127, 4095]
theorem name_split.tab8 : rtab .any (opsOf Try.f46 8) = name_split.T8 := by kernel_rfl
theorem name_split.bits8 : waitsOk name_split.T8.2 name_split.B8 = true := by kernel_rfl
set_option maxHeartbeats 8000000 in
set_option maxRecDepth 100000 in
theorem name_split.calls (k : Nat) (a0 : ByteArray) (r1 : List ByteArray) (r2 : Bool) (w : World) (h : name_split.f k a0 = some (r1, r2)) :
    Calls Try.prog 46 #[.string a0] w fun e w' => ∃ v0_ : Value, e = .returned (.tuple #[v0_, .bool r2]) ∧ Kd.R Kd.string 9 w' w.heap.size (fun _ => True) v0_ r1 ∧ Below w.heap.size w w' := by
  have HB := Aside0.mk (Below.refl w.heap.size w)
  have H : (if (a0.size : Int) > 255 then (some (([] : List ByteArray), false)) else (name_split.l0 k a0 ([] : List ByteArray))) = some (r1, r2) := h
  clear h
  by_cases c2 : (a0.size : Int) > 255
  · rw [if_pos c2] at H
    have c2b0 : decide (255 < (a0.size : Int)) = true := decide_eq_true c2
    have c2b1 : decide (255 < a0.size) = true := decide_eq_true (by omega)
    clear c2
    simp only [Option.some.injEq, Prod.mk.injEq] at H
    obtain ⟨rfl, rfl⟩ := H
    go_enter Try.func46, Try.ntmps46
    go_wp2
    go_ret2
    exact ⟨_, by first | rfl | (simp [errW_none, errW_some] <;> rfl) | (simp [*, errW_none, errW_some] <;> rfl), by first | exact Kd.R_nil _ _ _ _ _ | exact Kd.N_nil _ _ _ _ _ | exact Kd.V_nil _ _ _ _ _ | exact Kd.Q_nil _ _ _ _ _ | exact Kd.S_nil _ _ _ _ _, by repeat (first | (with_reducible first | exact HB.out | apply below_alloc | apply pw_below_drewN | apply below_drew1) | exact HB.out)⟩
  · rw [if_neg c2] at H
    have c2b0 : decide (255 < (a0.size : Int)) = false := decide_eq_false c2
    have c2b1 : decide (255 < a0.size) = false := decide_eq_false (by omega)
    clear c2
    have H' := Aside0.mk H
    clear H
    go_enter Try.func46, Try.ntmps46
    go_wp2
    go_loopg [0, 4] k (fun kq v0 v4 w' => ∃ (x0_1 : ByteArray) (x4_1 : List ByteArray), v0 = .string x0_1 ∧ Aside0 (name_split.l0 kq x0_1 x4_1 = some (r1, r2)) ∧ Aside0 (kq ≤ k) ∧ Aside0 (Kd.R Kd.string 9 w' w.heap.size (fun _ => True) v4 x4_1) ∧ Aside0 (Below w.heap.size w w'))
    case atStart => exact ⟨(a0), (([] : List ByteArray)), (by first | rfl | (simp; done) | (simp [*]; done)), H', ⟨Nat.le_refl _⟩, ⟨by first | exact Kd.R_nil _ _ _ _ _ | exact Kd.N_nil _ _ _ _ _ | exact Kd.V_nil _ _ _ _ _ | exact Kd.Q_nil _ _ _ _ _ | exact Kd.S_nil _ _ _ _ _⟩, ⟨by repeat (first | (with_reducible first | exact HB.out | apply below_alloc | apply pw_below_drewN | apply below_drew1) | exact HB.out)⟩⟩
    case round =>
      clear H'
      try clear c2
      try clear c2b0
      try clear c2b1
      try clear p2
      obtain ⟨x0_1, x4_1, rfl, HA, HK1, HO_4, HB⟩ := hrel
      cases gk with
      | zero => exact absurd HA.out (by simp [name_split.l0])
      | succ k1 =>
        have H := HA.out
        clear HA
        simp only [name_split.l0] at H
        have HC3 := Aside0.mk H
        clear H
        go_upto_region 4 with (fail)
        go_cut [15] (fun v15 wc => ∃ (kq : Nat) (x15_2 : Bool), v15 = .bool x15_2 ∧ Aside0 (name_split.j1 kq x0_1 x4_1 x15_2 = some (r1, r2)) ∧ Aside0 (kq ≤ k1) ∧ Aside0 (Kd.R Kd.string 9 wc w.heap.size (fun _ => True) u4 x4_1) ∧ Aside0 (Below w.heap.size w wc))
        case first =>
          have H := HC3.out
          clear HC3
          by_cases c4 : (x0_1.size : Int) > 0
          · rw [if_pos c4] at H
            have c4b0 : decide (0 < (x0_1.size : Int)) = true := decide_eq_true c4
            have c4b1 : decide (0 < x0_1.size) = true := decide_eq_true (by omega)
            clear c4
            (first | rw [c4b0] | rw [c4b2] | (simp only [i64_w, i32_w]; rw [c4b0]) | skip)
            have H' := Aside0.mk H
            clear H
            go_wp2
            go_meet
            case rel => exact ⟨_, ((x0_1.toList != ([0] : List UInt8))), (by first | rfl | (simp; done) | (simp [*]; done)), H', ⟨by have := HK1.out; first | omega | exact Nat.le_refl _⟩, ⟨by (with_reducible repeat (first | apply Kd.R_alloc | apply Kd.R_drewN | apply Kd.R_drew)); exact HO_4.out⟩, ⟨by repeat (first | (with_reducible first | exact HB.out | apply below_alloc | apply pw_below_drewN | apply below_drew1) | exact HB.out)⟩⟩
          · rw [if_neg c4] at H
            have c4b0 : decide (0 < (x0_1.size : Int)) = false := decide_eq_false c4
            have c4b1 : decide (0 < x0_1.size) = false := decide_eq_false (by omega)
            clear c4
            (first | rw [c4b0] | rw [c4b2] | (simp only [i64_w, i32_w]; rw [c4b0]) | skip)
            have H' := Aside0.mk H
            clear H
            go_wp2
            go_meet
            case rel => exact ⟨_, (false), (by first | rfl | (simp; done) | (simp [*]; done)), H', ⟨by have := HK1.out; first | omega | exact Nat.le_refl _⟩, ⟨by (with_reducible repeat (first | apply Kd.R_alloc | apply Kd.R_drewN | apply Kd.R_drew)); exact HO_4.out⟩, ⟨by repeat (first | (with_reducible first | exact HB.out | apply below_alloc | apply pw_below_drewN | apply below_drew1) | exact HB.out)⟩⟩
        case rest =>
          clear HC3
          try clear c2
          try clear c2b0
          try clear c2b1
          try clear p2
          try clear c4
          try clear c4b0
          try clear c4b1
          try clear c4b2
          try clear p2
          obtain ⟨kq, x15_2, rfl, HA, HJ2, HO_4, HB⟩ := hcut
          cases kq with
          | zero => exact absurd HA.out (by simp [name_split.j1])
          | succ kj2 =>
            have H := HA.out
            clear HA
            simp only [name_split.j1] at H
            by_cases c5 : x15_2 = true
            · subst c5
              have H1 : (if 0 < (x0_1.size : Int) then (if (wrap64 (bt x0_1 0)) < 1 then (some (([] : List ByteArray), false)) else (if (wrap64 (bt x0_1 0)) > 63 then (some (([] : List ByteArray), false)) else (if (wrap64 ((wrap64 (bt x0_1 0)) + 1)) ≥ (x0_1.size : Int) then (some (([] : List ByteArray), false)) else (if 1 ≤ (wrap64 (1 + (wrap64 (bt x0_1 0)))) then (if (wrap64 (1 + (wrap64 (bt x0_1 0)))) ≤ (x0_1.size : Int) then (if x4_1.length < 8796093022208 then (if 0 ≤ (wrap64 (1 + (wrap64 (bt x0_1 0)))) then (name_split.l0 kj2 (x0_1.extract ((wrap64 (1 + (wrap64 (bt x0_1 0)))) : Int).toNat x0_1.size) (x4_1 ++ [x0_1.extract 1 ((wrap64 (1 + (wrap64 (bt x0_1 0)))) : Int).toNat])) else (none)) else (none)) else (none)) else (none))))) else (none)) = some (r1, r2) := by rw [if_pos rfl] at H; exact H
              clear H
              have H := H1
              clear H1
              by_cases c6 : 0 < (x0_1.size : Int)
              · rw [if_pos c6] at H
                have c6b0 : decide (0 < (x0_1.size : Int)) = true := decide_eq_true c6
                have c6b1 : decide (0 < x0_1.size) = true := decide_eq_true (by omega)
                clear c6
                by_cases c8 : (wrap64 (bt x0_1 0)) < 1
                · rw [if_pos c8] at H
                  have c8b0 : decide ((wrap64 (bt x0_1 0)) < 1) = true := decide_eq_true c8
                  clear c8
                  simp only [Option.some.injEq, Prod.mk.injEq] at H
                  obtain ⟨rfl, rfl⟩ := H
                  have p7 : 0 ≤ (0 : Int) := (by omega)
                  have q7 : 0 < x0_1.size := (by have : (0 : Int) < (x0_1.size : Int) := of_decide_eq_true (by first | (with_reducible assumption) | assumption); omega)
                  have hx7 : ∀ h : 0 < x0_1.size, ((x0_1[0]'h).toNat : Int) = bt x0_1 0 := bt_at x0_1 0
                  clear p7
                  have qi7 : (0 < (x0_1.size : Int)) = True := eq_true (of_decide_eq_true (by first | (with_reducible assumption) | assumption))
                  replace q7 := eq_true q7
                  go_wp2
                  go_ret2
                  exact ⟨_, by first | rfl | (simp [errW_none, errW_some] <;> rfl) | (simp [*, errW_none, errW_some] <;> rfl), by first | exact Kd.R_nil _ _ _ _ _ | exact Kd.N_nil _ _ _ _ _ | exact Kd.V_nil _ _ _ _ _ | exact Kd.Q_nil _ _ _ _ _ | exact Kd.S_nil _ _ _ _ _, by repeat (first | (with_reducible first | exact HB.out | apply below_alloc | apply pw_below_drewN | apply below_drew1) | exact HB.out)⟩
                · rw [if_neg c8] at H
                  have c8b0 : decide ((wrap64 (bt x0_1 0)) < 1) = false := decide_eq_false c8
                  clear c8
                  by_cases c9 : (wrap64 (bt x0_1 0)) > 63
                  · rw [if_pos c9] at H
                    have c9b0 : decide (63 < (wrap64 (bt x0_1 0))) = true := decide_eq_true c9
                    clear c9
                    simp only [Option.some.injEq, Prod.mk.injEq] at H
                    obtain ⟨rfl, rfl⟩ := H
                    have p7 : 0 ≤ (0 : Int) := (by omega)
                    have q7 : 0 < x0_1.size := (by have : (0 : Int) < (x0_1.size : Int) := of_decide_eq_true (by first | (with_reducible assumption) | assumption); omega)
                    have hx7 : ∀ h : 0 < x0_1.size, ((x0_1[0]'h).toNat : Int) = bt x0_1 0 := bt_at x0_1 0
                    clear p7
                    have qi7 : (0 < (x0_1.size : Int)) = True := eq_true (of_decide_eq_true (by first | (with_reducible assumption) | assumption))
                    replace q7 := eq_true q7
                    go_wp2
                    go_ret2
                    exact ⟨_, by first | rfl | (simp [errW_none, errW_some] <;> rfl) | (simp [*, errW_none, errW_some] <;> rfl), by first | exact Kd.R_nil _ _ _ _ _ | exact Kd.N_nil _ _ _ _ _ | exact Kd.V_nil _ _ _ _ _ | exact Kd.Q_nil _ _ _ _ _ | exact Kd.S_nil _ _ _ _ _, by repeat (first | (with_reducible first | exact HB.out | apply below_alloc | apply pw_below_drewN | apply below_drew1) | exact HB.out)⟩
                  · rw [if_neg c9] at H
                    have c9b0 : decide (63 < (wrap64 (bt x0_1 0))) = false := decide_eq_false c9
                    clear c9
                    by_cases c10 : (wrap64 ((wrap64 (bt x0_1 0)) + 1)) ≥ (x0_1.size : Int)
                    · rw [if_pos c10] at H
                      have c10b0 : decide ((x0_1.size : Int) ≤ (wrap64 ((wrap64 (bt x0_1 0)) + 1))) = true := decide_eq_true c10
                      clear c10
                      simp only [Option.some.injEq, Prod.mk.injEq] at H
                      obtain ⟨rfl, rfl⟩ := H
                      have p7 : 0 ≤ (0 : Int) := (by omega)
                      have q7 : 0 < x0_1.size := (by have : (0 : Int) < (x0_1.size : Int) := of_decide_eq_true (by first | (with_reducible assumption) | assumption); omega)
                      have hx7 : ∀ h : 0 < x0_1.size, ((x0_1[0]'h).toNat : Int) = bt x0_1 0 := bt_at x0_1 0
                      clear p7
                      have qi7 : (0 < (x0_1.size : Int)) = True := eq_true (of_decide_eq_true (by first | (with_reducible assumption) | assumption))
                      replace q7 := eq_true q7
                      go_wp2
                      go_ret2
                      exact ⟨_, by first | rfl | (simp [errW_none, errW_some] <;> rfl) | (simp [*, errW_none, errW_some] <;> rfl), by first | exact Kd.R_nil _ _ _ _ _ | exact Kd.N_nil _ _ _ _ _ | exact Kd.V_nil _ _ _ _ _ | exact Kd.Q_nil _ _ _ _ _ | exact Kd.S_nil _ _ _ _ _, by repeat (first | (with_reducible first | exact HB.out | apply below_alloc | apply pw_below_drewN | apply below_drew1) | exact HB.out)⟩
                    · rw [if_neg c10] at H
                      have c10b0 : decide ((x0_1.size : Int) ≤ (wrap64 ((wrap64 (bt x0_1 0)) + 1))) = false := decide_eq_false c10
                      clear c10
                      by_cases c11 : 1 ≤ (wrap64 (1 + (wrap64 (bt x0_1 0))))
                      · rw [if_pos c11] at H
                        have c11b0 := eq_true c11
                        have c11b1 : decide (1 ≤ (wrap64 (1 + (wrap64 (bt x0_1 0))))) = true := decide_eq_true c11
                        by_cases c12 : (wrap64 (1 + (wrap64 (bt x0_1 0)))) ≤ (x0_1.size : Int)
                        · rw [if_pos c12] at H
                          have c12b0 := eq_true c12
                          have c12b1 : decide ((wrap64 (1 + (wrap64 (bt x0_1 0)))) ≤ (x0_1.size : Int)) = true := decide_eq_true c12
                          by_cases c13 : x4_1.length < 8796093022208
                          · rw [if_pos c13] at H
                            have LMc13 := Aside0.mk c13
                            clear c13
                            obtain ⟨y178, hy178⟩ : ∃ y_ : List ByteArray, y_ = (x4_1 ++ [x0_1.extract 1 ((wrap64 (1 + (wrap64 (bt x0_1 0)))) : Int).toNat]) := ⟨_, rfl⟩
                            replace H : (if 0 ≤ (wrap64 (1 + (wrap64 (bt x0_1 0)))) then (name_split.l0 kj2 (x0_1.extract ((wrap64 (1 + (wrap64 (bt x0_1 0)))) : Int).toNat x0_1.size) y178) else (none)) = some (r1, r2) := by first | (rw [hy178]; with_reducible exact H) | (have H2_ := (Option.bind_some _ _).symm.trans H; rw [hy178]; with_reducible exact H2_) | (have H2_ := (Option.bind_some _ _).symm.trans H; with_reducible exact H2_) | with_reducible exact H | (rw [hy178]; exact H) | exact H
                            have Ny178 := Aside0.mk hy178
                            clear hy178
                            obtain ⟨ji14, hji14⟩ : ∃ j_ : Int, (wrap64 (1 + (wrap64 (bt x0_1 0)))) = j_ := ⟨_, rfl⟩
                            replace H : (if 0 ≤ (ji14) then (name_split.l0 kj2 (x0_1.extract ((ji14) : Int).toNat x0_1.size) y178) else (none)) = some (r1, r2) := by first | (rw [hji14] at H; exact H) | (simp only [hji14] at H ⊢; exact H)
                            (try rw [hji14] at c11b0)
                            (try rw [hji14] at c11b1)
                            (try rw [hji14] at c11)
                            (try rw [hji14] at c12b0)
                            (try rw [hji14] at c12b1)
                            (try rw [hji14] at c12)
                            (try rw [hji14] at Ny178)
                            have hji14w : (IntKind.i64.wrap (1 + (wrap64 (bt x0_1 0)))) = ji14 := (i64_w _).trans hji14
                            by_cases c15 : 0 ≤ (ji14)
                            · rw [if_pos c15] at H
                              have c15b0 := eq_true c15
                              have c15b1 : decide (0 ≤ (ji14)) = true := decide_eq_true c15
                              clear c15
                              have c16b0 := eq_true (of_decide_eq_true (by first | (with_reducible assumption) | assumption) : (ji14) ≤ (x0_1.size : Int))
                              have H' := Aside0.mk H
                              clear H
                              have p7 : 0 ≤ (0 : Int) := (by omega)
                              have q7 : 0 < x0_1.size := (by have : (0 : Int) < (x0_1.size : Int) := of_decide_eq_true (by first | (with_reducible assumption) | assumption); omega)
                              have hx7 : ∀ h : 0 < x0_1.size, ((x0_1[0]'h).toNat : Int) = bt x0_1 0 := bt_at x0_1 0
                              clear p7
                              have qi7 : (0 < (x0_1.size : Int)) = True := eq_true (of_decide_eq_true (by first | (with_reducible assumption) | assumption))
                              replace q7 := eq_true q7
                              try go_wp2
                              have n0_ := Aside0.mk (Kd.R_drew HO_4.out)
                              have n1_ := Aside0.mk (below_drew1 HB.out)
                              clear HO_4
                              clear HB
                              have HO_4 := n0_
                              have HB := n1_
                              clear n0_ n1_
                              refine start_ (n := 13) (S := fun w' => True) (ds := []) #[false, false, false, false, false, false, false, false, false, false, false, false, false] (by kernel_rfl) rfl rfl trivial (fun hHeld => ?_); refine with_tabW name_split.tab8 name_split.bits8 (fun HT_ HW_ => ?_)
                              generalize wc.drew = w17 at HO_4 HB hHeld ⊢
                              refine pure_ (i := 0) (N := some 32) (v := ?_) (a' := ?_) #[true, false, false, false, false, false, false, false, false, false, false, false, false] rfl rfl (any_of HT_.out (by kernel_rfl)) (fun _ _ _ h => h) (Or.inl ⟨by rfl, ?_⟩) ?_ ?_
                              rotate_left
                              · intro w'
                                go_simp
                                with_reducible rfl
                              rotate_left
                              · simp only [Act.put, List.setIfInBounds_toArray, List.set_cons_zero, List.set_cons_succ, i64_w, i32_w]
                                rfl
                              refine pure_ (i := 1) (N := some 33) (v := ?_) (a' := ?_) #[true, true, false, false, false, false, false, false, false, false, false, false, false] rfl rfl (any_of HT_.out (by kernel_rfl)) (fun _ _ _ h => h) (Or.inl ⟨by rfl, ?_⟩) ?_ ?_
                              rotate_left
                              · intro w'
                                go_simp
                                with_reducible rfl
                              rotate_left
                              · simp only [Act.put, List.setIfInBounds_toArray, List.set_cons_zero, List.set_cons_succ, i64_w, i32_w]
                                rfl
                              refine pure_ (i := 2) (N := some 34) (v := ?_) (a' := ?_) #[true, true, true, false, false, false, false, false, false, false, false, false, false] rfl rfl (any_of HT_.out (by kernel_rfl)) (fun _ _ _ h => h) (Or.inl ⟨by rfl, ?_⟩) ?_ ?_
                              rotate_left
                              · intro w'
                                go_simp
                                with_reducible rfl
                              rotate_left
                              · simp only [Act.put, List.setIfInBounds_toArray, List.set_cons_zero, List.set_cons_succ, i64_w, i32_w]
                                rfl
                              refine pure_ (i := 3) (N := some 35) (v := ?_) (a' := ?_) #[true, true, true, true, false, false, false, false, false, false, false, false, false] rfl rfl (any_of HT_.out (by kernel_rfl)) (fun _ _ _ h => h) (Or.inl ⟨by rfl, ?_⟩) ?_ ?_
                              rotate_left
                              · intro w'
                                go_simp
                                with_reducible rfl
                              rotate_left
                              · simp only [Act.put, List.setIfInBounds_toArray, List.set_cons_zero, List.set_cons_succ, i64_w, i32_w]
                                rfl
                              refine pure_ (i := 4) (N := some 36) (v := ?_) (a' := ?_) #[true, true, true, true, true, false, false, false, false, false, false, false, false] rfl rfl (any_of HT_.out (by kernel_rfl)) (fun _ _ _ h => h) (Or.inl ⟨by rfl, ?_⟩) ?_ ?_
                              rotate_left
                              · intro w'
                                go_simp
                                with_reducible rfl
                              rotate_left
                              · simp only [Act.put, List.setIfInBounds_toArray, List.set_cons_zero, List.set_cons_succ, i64_w, i32_w]
                                rfl
                              refine pure_ (i := 7) (N := some 39) (v := ?_) (a' := ?_) #[true, true, true, true, true, false, false, true, false, false, false, false, false] rfl rfl (any_of HT_.out (by kernel_rfl)) (fun _ _ _ h => h) (Or.inl ⟨by rfl, ?_⟩) ?_ ?_
                              rotate_left
                              · intro w'
                                go_simp
                                with_reducible rfl
                              rotate_left
                              · simp only [Act.put, List.setIfInBounds_toArray, List.set_cons_zero, List.set_cons_succ, i64_w, i32_w]
                                rfl
                              refine pure_ (i := 8) (N := some 40) (v := ?_) (a' := ?_) #[true, true, true, true, true, false, false, true, true, false, false, false, false] rfl rfl (any_of HT_.out (by kernel_rfl)) (fun _ _ _ h => h) (Or.inl ⟨by rfl, ?_⟩) ?_ ?_
                              rotate_left
                              · intro w'
                                go_simp
                                with_reducible rfl
                              rotate_left
                              · simp only [Act.put, List.setIfInBounds_toArray, List.set_cons_zero, List.set_cons_succ, i64_w, i32_w]
                                rfl
                              refine pure_ (i := 9) (N := some 41) (v := ?_) (a' := ?_) #[true, true, true, true, true, false, false, true, true, true, false, false, false] rfl rfl (any_of HT_.out (by kernel_rfl)) (fun _ _ _ h => h) (Or.inl ⟨by rfl, ?_⟩) ?_ ?_
                              rotate_left
                              · intro w'
                                go_simp
                                with_reducible rfl
                              rotate_left
                              · simp only [Act.put, List.setIfInBounds_toArray, List.set_cons_zero, List.set_cons_succ, i64_w, i32_w]
                                rfl
                              refine pure_ (i := 10) (N := some 42) (v := ?_) (a' := ?_) #[true, true, true, true, true, false, false, true, true, true, true, false, false] rfl rfl (any_of HT_.out (by kernel_rfl)) (fun _ _ _ h => h) (Or.inl ⟨by rfl, ?_⟩) ?_ ?_
                              rotate_left
                              · intro w'
                                go_simp
                                with_reducible rfl
                              rotate_left
                              · simp only [Act.put, List.setIfInBounds_toArray, List.set_cons_zero, List.set_cons_succ, i64_w, i32_w]
                                rfl
                              refine one_ (i := 5) (N := some 37) #[true, true, true, true, true, true, false, true, true, true, true, false, false] rfl rfl (one_of HT_.out (by kernel_rfl)) (by decide) (fun K hK => ?_)
                              refine value_ (w1 := ?_) (v := ?_) (by rfl) rfl ?_ ?_
                              rotate_left 2
                              · go_simp
                                constructor
                                · rfl
                                · rfl
                              refine hK.out _ _ trivial (fun hHeld => ?_)
                              clear hK K
                              refine norm_ (a' := ?_) ?_ ?_
                              rotate_left
                              · show Act.put _ (some 37) _ = _
                                simp only [Act.put, List.setIfInBounds_toArray, List.set_cons_zero, List.set_cons_succ, i64_w, i32_w]
                                rfl
                              refine one_ (i := 6) (N := some 38) #[true, true, true, true, true, true, true, true, true, true, true, false, false] rfl rfl (one_of HT_.out (by kernel_rfl)) (by decide) (fun K hK => ?_)
                              refine Kd.R_append_step Kd.string (w0 := w) w.heap.size (by rfl) (.tmp 32) (.tmp 37) 44 9 (.string ⟨#[]⟩) 16 rfl Try.underlying44 info9 rfl (by decide) (by omega) u4 x4_1 (x0_1.extract 1 ((ji14) : Int).toNat) [.string (x0_1.extract 1 ((ji14) : Int).toNat)] (fun _ => True) (fun _ => False) rfl rfl ?aP (fun _ hk => hk.elim) ?aF ?aO ?aB ?aS ?aL ?_
                              (case aP => exact rfl)
                              (case aB => exact (by repeat (first | (with_reducible first | exact HB.out | apply below_alloc | apply pw_below_drewN | apply below_drew1) | exact HB.out)))
                              (case aF => exact (fun _ _ => trivial))
                              (case aO => exact (by (with_reducible repeat (first | apply Kd.R_alloc | apply Kd.R_drewN | apply Kd.R_drew)); exact HO_4.out))
                              (case aS => exact (below_size (by repeat (first | (with_reducible first | exact HB.out | apply below_alloc | apply pw_below_drewN | apply below_drew1) | exact HB.out))))
                              (case aL => have := LMc13.out; omega)
                              intro v179 w18 ho hb hg hat
                              rw [← Ny178.out] at ho
                              have n0_ := Aside0.mk (hb)
                              have n1_ := Aside0.mk (ho)
                              clear HB
                              clear HO_4
                              have HB := n0_
                              have HO180 := n1_
                              clear n0_ n1_
                              clear ho hb hg hat
                              refine hK.out _ _ trivial (fun hHeld => ?_)
                              clear hK K
                              refine norm_ (a' := ?_) ?_ ?_
                              rotate_left
                              · show Act.put _ (some 38) _ = _
                                simp only [Act.put, List.setIfInBounds_toArray, List.set_cons_zero, List.set_cons_succ, i64_w, i32_w]
                                rfl
                              refine pure_ (i := 11) (N := some 4) (v := ?_) (a' := ?_) #[true, true, true, true, true, true, true, true, true, true, true, true, false] rfl rfl (any_of HT_.out (by kernel_rfl)) (fun _ _ _ h => h) (Or.inl ⟨by rfl, ?_⟩) ?_ ?_
                              rotate_left
                              · intro w'
                                go_simp
                                with_reducible rfl
                              rotate_left
                              · simp only [Act.put, List.setIfInBounds_toArray, List.set_cons_zero, List.set_cons_succ, i64_w, i32_w]
                                rfl
                              refine pure_ (i := 12) (N := some 0) (v := ?_) (a' := ?_) #[true, true, true, true, true, true, true, true, true, true, true, true, true] rfl rfl (any_of HT_.out (by kernel_rfl)) (fun _ _ _ h => h) (Or.inl ⟨by rfl, ?_⟩) ?_ ?_
                              rotate_left
                              · intro w'
                                go_simp
                                with_reducible rfl
                              rotate_left
                              · simp only [Act.put, List.setIfInBounds_toArray, List.set_cons_zero, List.set_cons_succ, i64_w, i32_w]
                                rfl
                              refine done_ (done_of HT_.out (by kernel_rfl)) ?_
                              try go_wp2
                              go_roundg kj2
                              case measure => have := HK1.out; have := HJ2.out; omega
                              case rel => exact ⟨(x0_1.extract ((ji14) : Int).toNat x0_1.size), (y178), (by first | rfl | (simp; done) | (simp only [← hji14] <;> (first | rfl | simp)) | (simp [*]; done)), H', ⟨by have := HK1.out; have := HJ2.out; omega⟩, ⟨by (with_reducible repeat (first | apply Kd.R_alloc | apply Kd.R_drewN | apply Kd.R_drew)); exact HO180.out⟩, ⟨by repeat (first | (with_reducible first | exact HB.out | apply below_alloc | apply pw_below_drewN | apply below_drew1) | exact HB.out)⟩⟩
                            · rw [if_neg c15] at H
                              exact absurd H (by simp)
                          · rw [if_neg c13] at H
                            exact absurd H (by simp)
                        · rw [if_neg c12] at H
                          exact absurd H (by simp)
                      · rw [if_neg c11] at H
                        exact absurd H (by simp)
              · rw [if_neg c6] at H
                exact absurd H (by simp)
            · replace c5 := Bool.eq_false_iff.mpr c5
              subst c5
              have H1 : (some (x4_1, (x0_1.toList == ([0] : List UInt8)))) = some (r1, r2) := by rw [if_neg (show ¬ (false = true) by decide)] at H; exact H
              clear H
              have H := H1
              clear H1
              simp only [Option.some.injEq, Prod.mk.injEq] at H
              obtain ⟨rfl, rfl⟩ := H
              go_wp2
              go_ret2
              exact ⟨_, by first | rfl | (simp [errW_none, errW_some] <;> rfl) | (simp [*, errW_none, errW_some] <;> rfl), by (with_reducible repeat (first | apply Kd.R_alloc | apply Kd.R_drewN | apply Kd.R_drew)); exact HO_4.out, by repeat (first | (with_reducible first | exact HB.out | apply below_alloc | apply pw_below_drewN | apply below_drew1) | exact HB.out)⟩

/-! ### name_Check: function 36 -/
def name_Check.f (k : Nat) (a0 : ByteArray) : Option (Bool) := (name_split.f k a0).bind fun bt181 => (some bt181.2)
theorem name_Check.mono : ∀ a0 k, LeO (name_Check.f k a0) (name_Check.f (k + 1) a0) := by
  intro a0 k
  unfold name_Check.f
  repeat' first
      | (with_reducible exact name_split.mono _ _)
      | (with_reducible exact LeO.refl _)
      | (with_reducible exact LeO.none _)
      | (with_reducible refine LeO.ite ?_ ?_)
      | (with_reducible refine LeO.bind ?_ (fun _ => ?_))
      | exact name_split.mono _ _
      | exact LeO.none _
      | refine LeO.ite ?_ ?_
      | refine LeO.bind ?_ (fun _ => ?_)
set_option maxHeartbeats 8000000 in
set_option maxRecDepth 100000 in
theorem name_Check.calls (k : Nat) (a0 : ByteArray) (r : Bool) (w : World) (h : name_Check.f k a0 = some r) :
    Calls Try.prog 36 #[.string a0] w fun e w' => e = .returned (.bool r) ∧ Below w.heap.size w w' := by
  have HB := Aside0.mk (Below.refl w.heap.size w)
  have H : ((name_split.f k a0).bind fun bt181 => (some bt181.2)) = some r := h
  clear h
  replace H := Option.bind_eq_some_iff.mp H
  obtain ⟨⟨t181, t182⟩, A20, H⟩ := H
  replace H : (some t182) = some r := H
  have A2 := Aside0.mk A20
  clear A20
  obtain rfl := Option.some.inj H
  go_enter Try.func36, Try.ntmps36
  go_wp2_with (first | ((with_reducible refine gate_callee (f := 46) rfl ?_); refine goesL_ (some 7) rfl rfl Try.func46 (by kernel_rfl) rfl #[.string a0] rfl (by (try simp only [List.map_toArray, List.map_cons, List.map_nil]); first | done | rfl | (simp only [List.length_drop, List.length_take]; rfl)) ?_; (with_reducible refine (name_split.calls k a0 t181 t182 _ A2.out).mono ?_); rintro e w3 ⟨v183, rfl, ho0, hb⟩; refine ⟨_, rfl, ?_⟩; have n0_ := Aside0.mk (Kd.R_lower ho0 (below_size (by repeat (first | (with_reducible first | exact HB.out | apply below_alloc | apply pw_below_drewN | apply below_drew1) | exact HB.out)))); have n1_ := Aside0.mk (below_step (by repeat (first | (with_reducible first | exact HB.out | apply below_alloc | apply pw_below_drewN | apply below_drew1) | exact HB.out)) hb); clear HB; have HO184 := n0_; have HB := n1_; clear n0_ n1_; (try clear hb); (try clear hb2); (try clear hk); (try clear hi); (try clear ho0)))
  go_ret
  exact ⟨by first | rfl | (simp [errW_none, errW_some] <;> rfl) | (simp [*, errW_none, errW_some] <;> rfl), by repeat (first | (with_reducible first | exact HB.out | apply below_alloc | apply pw_below_drewN | apply below_drew1) | exact HB.out)⟩

end Go.Proofs.Ytmmnlfenaedjoaa.Q

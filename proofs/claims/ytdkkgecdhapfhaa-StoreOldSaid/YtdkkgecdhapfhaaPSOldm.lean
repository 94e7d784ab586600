/- A part of the proof of StoreOld: cut, joined and given short names by a program of this session (wip/tools/pack.py); Lean checks it. No condition. -/
import Derived.Test.YtdkkgecdhapfhaaPSOldj
import Derived.Test.YtdkkgecdhapfhaaPSOldl
import Derived.Test.YtdkkgecdhapfhaaPSOldk
import Derived.Test.YtdkkgecdhapfhaaPSOldi
import Derived.Test.YtdkkgecdhapfhaaPSOldd
set_option linter.unusedSectionVars false
set_option linter.unusedSimpArgs false
set_option linter.unusedVariables false
namespace Go.Proofs.Ytdkkgecdhapfhaa.ZQ
open Go.RowKit Go.Proofs.YtdkkgecdhapfhaaW.bD Go.Proofs.YtdkkgecdhapfhaaW.dV Go.Proofs.YtdkkgecdhapfhaaW.eF
attribute [local go_sem] jh ji j3 j4 iC iD jk jl
attribute [local go_sem high] T9
def aH.j0 : Nat → Int → Bool → Option (Int × Int × Int)
  | 0, _, _ => none
  | k + 1, x3, x4 => if x4 = true then (some (0, 1, 0)) else (if x3 = 6 then (some (0, 2, 20)) else (if x3 = 15 then (some (2, 1, 0)) else (if x3 = 33 then (some (6, 1, 0)) else (if x3 = 1 then (some (4, 0, 0)) else (if x3 = 28 then (some (16, 0, 0)) else (some (0, 0, 0)))))))
def aH.f (k : Nat) (a0 : Int) : Option (Int × Int × Int) := if a0 = 2 then (aH.j0 k a0 (a0 == 2)) else (if a0 = 5 then (aH.j0 k a0 (a0 == 5)) else (aH.j0 k a0 (a0 == 12)))
set_option maxHeartbeats 8000000 in
set_option maxRecDepth 100000 in
theorem aH.calls (k : Nat) (a0 : Int) (r1 : Int) (r2 : Int) (r3 : Int) (w : World) (h : aH.f k a0 = some (r1, r2, r3)) :
    Calls Try.prog 106 #[.int .i64 a0] w fun e w' => e = .returned (.agg #[.int .i64 r1, .int .i64 r2, .int .i64 r3]) ∧ Below w.heap.size w w' := by
  have Lu := Try.underlying142
  have HB := aj.mk (Below.refl w.heap.size w)
  have H : (if a0 = 2 then (aH.j0 k a0 (a0 == 2)) else (if a0 = 5 then (aH.j0 k a0 (a0 == 5)) else (aH.j0 k a0 (a0 == 12)))) = some (r1, r2, r3) := h
  clear h
  have TH := aj.mk H
  clear H
  go_enter Try.func106, Try.ntmps106
  go_upto_if 4 with (first | ((with_reducible refine gD (N := 2) rfl ?_); refine fO ?hg (N := 2) ?hd (cs := #[.int .i64 0, .int .i64 0, .int .i64 0]) (t := 142) ?hr ?_; (case hd => rfl); (case hg => rfl); (case hr => first | (go_simp; done) | (go_simp; rfl)); intro gU hg w3 gT hb; have dY := aj.mk (bE (by repeat (first | (with_reducible first | exact HB.out | apply ak | apply ah | apply au) | exact HB.out)) hb); have gW := aj.mk (gT); have iY := aj.mk ((by rw [hg]; exact (bL (by repeat (first | (with_reducible first | exact HB.out | apply ak | apply ah | apply au) | exact HB.out))) : w.heap.size ≤ gU)); have jF := aj.mk ((by rw [hg]; exact (bL (by repeat (first | (with_reducible first | exact HB.out | apply ak | apply ah | apply au) | exact HB.out))) : w.heap.size ≤ gU)); clear HB; have HB := dY; have dU := gW; have afH := iY; have qF := jF; clear dY gW iY jF; clear hb gT hg))
  (try simp only [Act.put, List.setIfInBounds_toArray, List.set_cons_zero, List.set_cons_succ])
  go_cut [4] (fun v4 wc => ∃ (kq : Nat) (qg : Bool), v4 = .bool qg ∧ aj (aH.j0 kq a0 qg = some (r1, r2, r3)) ∧ aj (kq ≤ k) ∧ aj (wc.heap[gU]? = some (.cells #[.int .i64 0, .int .i64 0, .int .i64 0] 142 (0, 0))) ∧ aj (Below w.heap.size w wc))
  case first =>
    have H := TH.out
    clear TH
    by_cases c4 : a0 = 2
    · rw [if_pos c4] at H
      have qj : (a0 == 2) = true := beq_iff_eq.mpr c4
      have Iq : (a0 != 2) = false := bne_eq_false_iff_eq.mpr c4
      clear c4
      (first | rw [qj] | rw [K6] | (simp only [gN, ig]; rw [qj]) | skip)
      have H' := aj.mk H
      clear H
      go_wp2
      go_meet
      case rel => exact ⟨_, ((a0 == 2)), (by first | rfl | (simp; done) | (simp [*]; done) | (simp [B.aV]; done) | (simp [B.aW]; done)), H', ⟨by first | omega | exact Nat.le_refl _⟩, ⟨by (with_reducible repeat (first | refine aG ?_ _ | refine aI ?_ | refine aA ?_ _)); exact dU.out⟩, ⟨by repeat (first | (with_reducible first | exact HB.out | apply ak | apply ah | apply au | refine aR ?_ qF.out) | exact HB.out)⟩⟩
    · rw [if_neg c4] at H
      have qj : (a0 == 2) = false := beq_eq_false_iff_ne.mpr c4
      have Iq : (a0 != 2) = true := bne_iff_ne.mpr c4
      (first | rw [qj] | rw [K6] | (simp only [gN, ig]; rw [qj]) | skip)
      by_cases c5 : a0 = 5
      · rw [if_pos c5] at H
        have oM : (a0 == 5) = true := beq_iff_eq.mpr c5
        have uJ : (a0 != 5) = false := bne_eq_false_iff_eq.mpr c5
        clear c5
        have H' := aj.mk H
        clear H
        go_wp2
        go_meet
        case rel => exact ⟨_, ((a0 == 5)), (by first | rfl | (simp; done) | (simp [*]; done) | (simp [B.aV]; done) | (simp [B.aW]; done)), H', ⟨by first | omega | exact Nat.le_refl _⟩, ⟨by (with_reducible repeat (first | refine aG ?_ _ | refine aI ?_ | refine aA ?_ _)); exact dU.out⟩, ⟨by repeat (first | (with_reducible first | exact HB.out | apply ak | apply ah | apply au | refine aR ?_ qF.out) | exact HB.out)⟩⟩
      · rw [if_neg c5] at H
        have oM : (a0 == 5) = false := beq_eq_false_iff_ne.mpr c5
        have uJ : (a0 != 5) = true := bne_iff_ne.mpr c5
        have H' := aj.mk H
        clear H
        go_wp2
        go_meet
        case rel => exact ⟨_, ((a0 == 12)), (by first | rfl | (simp; done) | (simp [*]; done) | (simp [B.aV]; done) | (simp [B.aW]; done)), H', ⟨by first | omega | exact Nat.le_refl _⟩, ⟨by (with_reducible repeat (first | refine aG ?_ _ | refine aI ?_ | refine aA ?_ _)); exact dU.out⟩, ⟨by repeat (first | (with_reducible first | exact HB.out | apply ak | apply ah | apply au | refine aR ?_ qF.out) | exact HB.out)⟩⟩
  case rest =>
    clear TH
    try clear c1
    try clear p2
    try clear c4
    try clear qj
    try clear Iq
    try clear K6
    try clear c5
    try clear oM
    try clear uJ
    obtain ⟨kq, qg, rfl, HA, HJ1, dU, HB⟩ := hcut
    cases kq with
    | zero => exact absurd HA.out (by simp [aH.j0])
    | succ kj1 =>
      have H := HA.out
      clear HA
      simp only [aH.j0] at H
      by_cases c6 : qg = true
      · subst c6
        have H1 : (some (0, 1, 0)) = some (r1, r2, r3) := by rw [if_pos rfl] at H; exact H
        clear H
        have H := H1
        clear H1
        simp only [Option.some.injEq, Prod.mk.injEq] at H
        obtain ⟨rfl, rfl, rfl⟩ := H
        have adO : wc.cell? ⟨gU, 0, none⟩ = some (.int .i64 0) := (aM dU.out 0).trans rfl
        have adP : wc.cell? ⟨gU, 1, none⟩ = some (.int .i64 0) := (aM dU.out 1).trans rfl
        have adQ : wc.cell? ⟨gU, 2, none⟩ = some (.int .i64 0) := (aM dU.out 2).trans rfl
        have adR := ay dU.out 0
        have adS := ay dU.out 1
        have adT := ay dU.out 2
        go_wp2
        refine bodyPost_ret (results_cell_row rfl _ _ gU 142 #[.int .i64 0, .int .i64 1, .int .i64 0] (0, 0) _ rfl (by (with_reducible repeat (first | refine aG ?_ _ | refine aI ?_ | refine aA ?_ _)); refine bU (cs := #[.int .i64 0, .int .i64 1, .int .i64 0]) ?_ 2 _ rfl; (with_reducible repeat (first | refine aG ?_ _ | refine aI ?_ | refine aA ?_ _)); refine bU (cs := #[.int .i64 0, .int .i64 0, .int .i64 0]) ?_ 1 _ rfl; (with_reducible repeat (first | refine aG ?_ _ | refine aI ?_ | refine aA ?_ _)); refine bU (cs := #[.int .i64 0, .int .i64 0, .int .i64 0]) ?_ 0 _ rfl; (with_reducible repeat (first | refine aG ?_ _ | refine aI ?_ | refine aA ?_ _)); exact dU.out) Try.underlying142 rfl (by kernel_rfl)) rfl ?_
        exact ⟨by first | rfl | (simp [aJ, aK] <;> rfl) | (simp [*, aJ, aK] <;> rfl), by repeat (first | (with_reducible first | exact HB.out | apply ak | apply ah | apply au | refine aR ?_ qF.out) | exact HB.out)⟩
      · replace c6 := Bool.eq_false_iff.mpr c6
        subst c6
        have H1 : (if a0 = 6 then (some (0, 2, 20)) else (if a0 = 15 then (some (2, 1, 0)) else (if a0 = 33 then (some (6, 1, 0)) else (if a0 = 1 then (some (4, 0, 0)) else (if a0 = 28 then (some (16, 0, 0)) else (some (0, 0, 0))))))) = some (r1, r2, r3) := by rw [if_neg (show ¬ (false = true) by decide)] at H; exact H
        clear H
        have H := H1
        clear H1
        by_cases c8 : a0 = 6
        · rw [if_pos c8] at H
          have qU : (a0 == 6) = true := beq_iff_eq.mpr c8
          have qV : (a0 != 6) = false := bne_eq_false_iff_eq.mpr c8
          clear c8
          simp only [Option.some.injEq, Prod.mk.injEq] at H
          obtain ⟨rfl, rfl, rfl⟩ := H
          have Lv : wc.cell? ⟨gU, 0, none⟩ = some (.int .i64 0) := (aM dU.out 0).trans rfl
          have Lx : wc.cell? ⟨gU, 1, none⟩ = some (.int .i64 0) := (aM dU.out 1).trans rfl
          have LA : wc.cell? ⟨gU, 2, none⟩ = some (.int .i64 0) := (aM dU.out 2).trans rfl
          have LB := ay dU.out 0
          have LC := ay dU.out 1
          have LD := ay dU.out 2
          go_wp2
          refine bodyPost_ret (results_cell_row rfl _ _ gU 142 #[.int .i64 0, .int .i64 2, .int .i64 20] (0, 0) _ rfl (by (with_reducible repeat (first | refine aG ?_ _ | refine aI ?_ | refine aA ?_ _)); refine bU (cs := #[.int .i64 0, .int .i64 2, .int .i64 0]) ?_ 2 _ rfl; (with_reducible repeat (first | refine aG ?_ _ | refine aI ?_ | refine aA ?_ _)); refine bU (cs := #[.int .i64 0, .int .i64 0, .int .i64 0]) ?_ 1 _ rfl; (with_reducible repeat (first | refine aG ?_ _ | refine aI ?_ | refine aA ?_ _)); refine bU (cs := #[.int .i64 0, .int .i64 0, .int .i64 0]) ?_ 0 _ rfl; (with_reducible repeat (first | refine aG ?_ _ | refine aI ?_ | refine aA ?_ _)); exact dU.out) Try.underlying142 rfl (by kernel_rfl)) rfl ?_
          exact ⟨by first | rfl | (simp [aJ, aK] <;> rfl) | (simp [*, aJ, aK] <;> rfl), by repeat (first | (with_reducible first | exact HB.out | apply ak | apply ah | apply au | refine aR ?_ qF.out) | exact HB.out)⟩
        · rw [if_neg c8] at H
          have qU : (a0 == 6) = false := beq_eq_false_iff_ne.mpr c8
          have qV : (a0 != 6) = true := bne_iff_ne.mpr c8
          by_cases c10 : a0 = 15
          · rw [if_pos c10] at H
            have qE : (a0 == 15) = true := beq_iff_eq.mpr c10
            have zN : (a0 != 15) = false := bne_eq_false_iff_eq.mpr c10
            clear c10
            simp only [Option.some.injEq, Prod.mk.injEq] at H
            obtain ⟨rfl, rfl, rfl⟩ := H
            have abC : wc.cell? ⟨gU, 0, none⟩ = some (.int .i64 0) := (aM dU.out 0).trans rfl
            have abD : wc.cell? ⟨gU, 1, none⟩ = some (.int .i64 0) := (aM dU.out 1).trans rfl
            have abE : wc.cell? ⟨gU, 2, none⟩ = some (.int .i64 0) := (aM dU.out 2).trans rfl
            have abF := ay dU.out 0
            have abG := ay dU.out 1
            have abH := ay dU.out 2
            go_wp2
            refine bodyPost_ret (results_cell_row rfl _ _ gU 142 #[.int .i64 2, .int .i64 1, .int .i64 0] (0, 0) _ rfl (by (with_reducible repeat (first | refine aG ?_ _ | refine aI ?_ | refine aA ?_ _)); refine bU (cs := #[.int .i64 2, .int .i64 1, .int .i64 0]) ?_ 2 _ rfl; (with_reducible repeat (first | refine aG ?_ _ | refine aI ?_ | refine aA ?_ _)); refine bU (cs := #[.int .i64 2, .int .i64 0, .int .i64 0]) ?_ 1 _ rfl; (with_reducible repeat (first | refine aG ?_ _ | refine aI ?_ | refine aA ?_ _)); refine bU (cs := #[.int .i64 0, .int .i64 0, .int .i64 0]) ?_ 0 _ rfl; (with_reducible repeat (first | refine aG ?_ _ | refine aI ?_ | refine aA ?_ _)); exact dU.out) Try.underlying142 rfl (by kernel_rfl)) rfl ?_
            exact ⟨by first | rfl | (simp [aJ, aK] <;> rfl) | (simp [*, aJ, aK] <;> rfl), by repeat (first | (with_reducible first | exact HB.out | apply ak | apply ah | apply au | refine aR ?_ qF.out) | exact HB.out)⟩
          · rw [if_neg c10] at H
            have qE : (a0 == 15) = false := beq_eq_false_iff_ne.mpr c10
            have zN : (a0 != 15) = true := bne_iff_ne.mpr c10
            by_cases c12 : a0 = 33
            · rw [if_pos c12] at H
              have tq : (a0 == 33) = true := beq_iff_eq.mpr c12
              have tu : (a0 != 33) = false := bne_eq_false_iff_eq.mpr c12
              clear c12
              simp only [Option.some.injEq, Prod.mk.injEq] at H
              obtain ⟨rfl, rfl, rfl⟩ := H
              have Bq : wc.cell? ⟨gU, 0, none⟩ = some (.int .i64 0) := (aM dU.out 0).trans rfl
              have Bt : wc.cell? ⟨gU, 1, none⟩ = some (.int .i64 0) := (aM dU.out 1).trans rfl
              have Bu : wc.cell? ⟨gU, 2, none⟩ = some (.int .i64 0) := (aM dU.out 2).trans rfl
              have Bv := ay dU.out 0
              have Bw := ay dU.out 1
              have Bz := ay dU.out 2
              go_wp2
              refine bodyPost_ret (results_cell_row rfl _ _ gU 142 #[.int .i64 6, .int .i64 1, .int .i64 0] (0, 0) _ rfl (by (with_reducible repeat (first | refine aG ?_ _ | refine aI ?_ | refine aA ?_ _)); refine bU (cs := #[.int .i64 6, .int .i64 1, .int .i64 0]) ?_ 2 _ rfl; (with_reducible repeat (first | refine aG ?_ _ | refine aI ?_ | refine aA ?_ _)); refine bU (cs := #[.int .i64 6, .int .i64 0, .int .i64 0]) ?_ 1 _ rfl; (with_reducible repeat (first | refine aG ?_ _ | refine aI ?_ | refine aA ?_ _)); refine bU (cs := #[.int .i64 0, .int .i64 0, .int .i64 0]) ?_ 0 _ rfl; (with_reducible repeat (first | refine aG ?_ _ | refine aI ?_ | refine aA ?_ _)); exact dU.out) Try.underlying142 rfl (by kernel_rfl)) rfl ?_
              exact ⟨by first | rfl | (simp [aJ, aK] <;> rfl) | (simp [*, aJ, aK] <;> rfl), by repeat (first | (with_reducible first | exact HB.out | apply ak | apply ah | apply au | refine aR ?_ qF.out) | exact HB.out)⟩
            · rw [if_neg c12] at H
              have tq : (a0 == 33) = false := beq_eq_false_iff_ne.mpr c12
              have tu : (a0 != 33) = true := bne_iff_ne.mpr c12
              by_cases c14 : a0 = 1
              · rw [if_pos c14] at H
                have zO : (a0 == 1) = true := beq_iff_eq.mpr c14
                have QG : (a0 != 1) = false := bne_eq_false_iff_eq.mpr c14
                clear c14
                simp only [Option.some.injEq, Prod.mk.injEq] at H
                obtain ⟨rfl, rfl, rfl⟩ := H
                have BA : wc.cell? ⟨gU, 0, none⟩ = some (.int .i64 0) := (aM dU.out 0).trans rfl
                have BD : wc.cell? ⟨gU, 1, none⟩ = some (.int .i64 0) := (aM dU.out 1).trans rfl
                have BF : wc.cell? ⟨gU, 2, none⟩ = some (.int .i64 0) := (aM dU.out 2).trans rfl
                have BG := ay dU.out 0
                have BH := ay dU.out 1
                have BI := ay dU.out 2
                go_wp2
                refine bodyPost_ret (results_cell_row rfl _ _ gU 142 #[.int .i64 4, .int .i64 0, .int .i64 0] (0, 0) _ rfl (by (with_reducible repeat (first | refine aG ?_ _ | refine aI ?_ | refine aA ?_ _)); refine bU (cs := #[.int .i64 4, .int .i64 0, .int .i64 0]) ?_ 2 _ rfl; (with_reducible repeat (first | refine aG ?_ _ | refine aI ?_ | refine aA ?_ _)); refine bU (cs := #[.int .i64 4, .int .i64 0, .int .i64 0]) ?_ 1 _ rfl; (with_reducible repeat (first | refine aG ?_ _ | refine aI ?_ | refine aA ?_ _)); refine bU (cs := #[.int .i64 0, .int .i64 0, .int .i64 0]) ?_ 0 _ rfl; (with_reducible repeat (first | refine aG ?_ _ | refine aI ?_ | refine aA ?_ _)); exact dU.out) Try.underlying142 rfl (by kernel_rfl)) rfl ?_
                exact ⟨by first | rfl | (simp [aJ, aK] <;> rfl) | (simp [*, aJ, aK] <;> rfl), by repeat (first | (with_reducible first | exact HB.out | apply ak | apply ah | apply au | refine aR ?_ qF.out) | exact HB.out)⟩
              · rw [if_neg c14] at H
                have zO : (a0 == 1) = false := beq_eq_false_iff_ne.mpr c14
                have QG : (a0 != 1) = true := bne_iff_ne.mpr c14
                by_cases c16 : a0 = 28
                · rw [if_pos c16] at H
                  have Gh : (a0 == 28) = true := beq_iff_eq.mpr c16
                  have YQ : (a0 != 28) = false := bne_eq_false_iff_eq.mpr c16
                  clear c16
                  simp only [Option.some.injEq, Prod.mk.injEq] at H
                  obtain ⟨rfl, rfl, rfl⟩ := H
                  have abI : wc.cell? ⟨gU, 0, none⟩ = some (.int .i64 0) := (aM dU.out 0).trans rfl
                  have abJ : wc.cell? ⟨gU, 1, none⟩ = some (.int .i64 0) := (aM dU.out 1).trans rfl
                  have abK : wc.cell? ⟨gU, 2, none⟩ = some (.int .i64 0) := (aM dU.out 2).trans rfl
                  have abL := ay dU.out 0
                  have abM := ay dU.out 1
                  have abN := ay dU.out 2
                  go_wp2
                  refine bodyPost_ret (results_cell_row rfl _ _ gU 142 #[.int .i64 16, .int .i64 0, .int .i64 0] (0, 0) _ rfl (by (with_reducible repeat (first | refine aG ?_ _ | refine aI ?_ | refine aA ?_ _)); refine bU (cs := #[.int .i64 16, .int .i64 0, .int .i64 0]) ?_ 2 _ rfl; (with_reducible repeat (first | refine aG ?_ _ | refine aI ?_ | refine aA ?_ _)); refine bU (cs := #[.int .i64 16, .int .i64 0, .int .i64 0]) ?_ 1 _ rfl; (with_reducible repeat (first | refine aG ?_ _ | refine aI ?_ | refine aA ?_ _)); refine bU (cs := #[.int .i64 0, .int .i64 0, .int .i64 0]) ?_ 0 _ rfl; (with_reducible repeat (first | refine aG ?_ _ | refine aI ?_ | refine aA ?_ _)); exact dU.out) Try.underlying142 rfl (by kernel_rfl)) rfl ?_
                  exact ⟨by first | rfl | (simp [aJ, aK] <;> rfl) | (simp [*, aJ, aK] <;> rfl), by repeat (first | (with_reducible first | exact HB.out | apply ak | apply ah | apply au | refine aR ?_ qF.out) | exact HB.out)⟩
                · rw [if_neg c16] at H
                  have Gh : (a0 == 28) = false := beq_eq_false_iff_ne.mpr c16
                  have YQ : (a0 != 28) = true := bne_iff_ne.mpr c16
                  simp only [Option.some.injEq, Prod.mk.injEq] at H
                  obtain ⟨rfl, rfl, rfl⟩ := H
                  have Gz : wc.cell? ⟨gU, 0, none⟩ = some (.int .i64 0) := (aM dU.out 0).trans rfl
                  have GA : wc.cell? ⟨gU, 1, none⟩ = some (.int .i64 0) := (aM dU.out 1).trans rfl
                  have GD : wc.cell? ⟨gU, 2, none⟩ = some (.int .i64 0) := (aM dU.out 2).trans rfl
                  have GH := ay dU.out 0
                  have GI := ay dU.out 1
                  have GJ := ay dU.out 2
                  go_wp2
                  refine bodyPost_ret (results_cell_row rfl _ _ gU 142 #[.int .i64 0, .int .i64 0, .int .i64 0] (0, 0) _ rfl (by (with_reducible repeat (first | refine aG ?_ _ | refine aI ?_ | refine aA ?_ _)); refine bU (cs := #[.int .i64 0, .int .i64 0, .int .i64 0]) ?_ 2 _ rfl; (with_reducible repeat (first | refine aG ?_ _ | refine aI ?_ | refine aA ?_ _)); refine bU (cs := #[.int .i64 0, .int .i64 0, .int .i64 0]) ?_ 1 _ rfl; (with_reducible repeat (first | refine aG ?_ _ | refine aI ?_ | refine aA ?_ _)); refine bU (cs := #[.int .i64 0, .int .i64 0, .int .i64 0]) ?_ 0 _ rfl; (with_reducible repeat (first | refine aG ?_ _ | refine aI ?_ | refine aA ?_ _)); exact dU.out) Try.underlying142 rfl (by kernel_rfl)) rfl ?_
                  exact ⟨by first | rfl | (simp [aJ, aK] <;> rfl) | (simp [*, aJ, aK] <;> rfl), by repeat (first | (with_reducible first | exact HB.out | apply ak | apply ah | apply au | refine aR ?_ qF.out) | exact HB.out)⟩
def bn.l0 : Nat → ByteArray → Int → Option (Bool)
  | 0, _, _ => none
  | k + 1, x0, x3 => if x3 < (x0.size : Int) then (if 0 ≤ x3 then (bn.l0 k x0 (wrap64 ((wrap64 (x3 + 1)) + (wrap64 (bt x0 x3))))) else (none)) else (if x3 = (x0.size : Int) then (some (decide (x3 > 0))) else (some false))
def bn.f (k : Nat) (a0 : ByteArray) : Option (Bool) := bn.l0 k a0 0
set_option maxHeartbeats 8000000 in
set_option maxRecDepth 100000 in
theorem bn.calls (k : Nat) (a0 : ByteArray) (r : Bool) (w : World) (h : bn.f k a0 = some r) :
    Calls Try.prog 117 #[.string a0] w fun e w' => e = .returned (.bool r) ∧ aY w w' := by
  have H : (bn.l0 k a0 0) = some r := h
  clear h
  have H' := aj.mk H
  clear H
  go_enter Try.func117, Try.ntmps117
  go_wp2
  go_loopg [3] k (fun kq v3 w' => ∃ (nX : Int), v3 = .int .i64 nX ∧ aj (bn.l0 kq a0 nX = some r) ∧ aj (kq ≤ k) ∧ aY w w')
  case atStart => exact ⟨(0), (by first | rfl | (simp; done) | (simp [*]; done) | (simp [B.aV]; done) | (simp [B.aW]; done)), H', ⟨Nat.le_refl _⟩, by repeat (first | exact aY.refl _ | apply aY.step)⟩
  case round =>
    clear H'
    try clear c1
    obtain ⟨nX, rfl, HA, sW, ⟨m1, rfl⟩⟩ := hrel
    cases gk with
    | zero => exact absurd HA.out (by simp [bn.l0])
    | succ k1 =>
      have H := HA.out
      clear HA
      simp only [bn.l0] at H
      by_cases c2 : nX < (a0.size : Int)
      · rw [if_pos c2] at H
        have vI : decide (nX < (a0.size : Int)) = true := decide_eq_true c2
        clear c2
        by_cases c3 : 0 ≤ nX
        · rw [if_pos c3] at H
          have ql : decide (0 ≤ nX) = true := decide_eq_true c3
          clear c3
          have H' := aj.mk H
          clear H
          have p4 : 0 ≤ (nX : Int) := of_decide_eq_true (by first | (with_reducible assumption) | assumption)
          have q4 : nX < (a0.size : Int) := of_decide_eq_true (by first | (with_reducible assumption) | assumption)
          have hx4 := ny a0 nX
          replace p4 := eq_true p4
          replace q4 := eq_true q4
          go_wp2
          go_roundg k1
          case measure => have := sW.out; omega
          case rel => exact ⟨(wrap64 ((wrap64 (nX + 1)) + (wrap64 (bt a0 nX)))), (by first | rfl | (simp; done) | (simp [*]; done) | (simp [B.aV]; done) | (simp [B.aW]; done)), H', ⟨by have := sW.out; omega⟩, by repeat (first | exact aY.refl _ | apply aY.step)⟩
        · rw [if_neg c3] at H
          exact absurd H (by simp)
      · rw [if_neg c2] at H
        have vI : decide (nX < (a0.size : Int)) = false := decide_eq_false c2
        clear c2
        by_cases c5 : nX = (a0.size : Int)
        · rw [if_pos c5] at H
          have oM : (nX == (a0.size : Int)) = true := beq_iff_eq.mpr c5
          have uJ : (nX != (a0.size : Int)) = false := bne_eq_false_iff_eq.mpr c5
          clear c5
          obtain rfl := Option.some.inj H
          go_wp2
          go_ret
          exact ⟨by first | rfl | (simp; done) | (simp [*]; done), by repeat (first | exact aY.refl _ | apply aY.step)⟩
        · rw [if_neg c5] at H
          have oM : (nX == (a0.size : Int)) = false := beq_eq_false_iff_ne.mpr c5
          have uJ : (nX != (a0.size : Int)) = true := bne_iff_ne.mpr c5
          obtain rfl := Option.some.inj H
          go_wp2
          go_ret
          exact ⟨by first | rfl | (simp; done) | (simp [*]; done), by repeat (first | exact aY.refl _ | apply aY.step)⟩
def aX.l0 : Nat → ByteArray → Int → Int → ByteArray → Int → Int → Int → Int → Int → Option (ByteArray × Int)
  | 0, _, _, _, _, _, _, _, _, _ => none
  | k + 1, x0, x1, x2, YR, N7, x15, OG, GK, GL => if x15 < GK then ((aU.f k x0 N7).bind fun GN => (if GN.2.2 = 0 then (if YR.size + GN.1.size ≤ 9223372036854775807 then (aX.l0 k x0 x1 x2 (YR ++ GN.1) GN.2.1 (wrap64 (x15 + 1)) OG GK GL) else (none)) else (some ((⟨#[]⟩ : ByteArray), 4)))) else (if (wrap64 (N7 + GL)) = (wrap64 (x1 + x2)) then (if 0 ≤ N7 then (if N7 ≤ (wrap64 (x1 + x2)) then (if (wrap64 (x1 + x2)) ≤ (x0.size : Int) then (if YR.size + (x0.extract (N7 : Int).toNat ((wrap64 (x1 + x2)) : Int).toNat).size ≤ 9223372036854775807 then (if ((YR ++ (x0.extract (N7 : Int).toNat ((wrap64 (x1 + x2)) : Int).toNat)).size : Int) > 65535 then (some ((⟨#[]⟩ : ByteArray), 4)) else (some (YR ++ (x0.extract (N7 : Int).toNat ((wrap64 (x1 + x2)) : Int).toNat), 0))) else (none)) else (none)) else (none)) else (none)) else (some ((⟨#[]⟩ : ByteArray), 4)))
def aX.f (k : Nat) (a0 : ByteArray) (a1 : Int) (a2 : Int) (a3 : Int) : Option (ByteArray × Int) := (bC.f a0 a1 a2).bind fun kV => (if kV.2 = true then ((aH.f k a3).bind fun eT => (if (eT.1 == 0 && (eT.2.1 == 0 && (eT.2.2 == 0))) = true then (if a3 = 16 then ((bn.f k kV.1).bind fun vL => (if vL = true then (if (kV.1.size : Int) > 65535 then (some ((⟨#[]⟩ : ByteArray), 4)) else (some (kV.1, 0))) else (some ((⟨#[]⟩ : ByteArray), 4)))) else (if (kV.1.size : Int) > 65535 then (some ((⟨#[]⟩ : ByteArray), 4)) else (some (kV.1, 0)))) else (if eT.1 > a2 then (some ((⟨#[]⟩ : ByteArray), 4)) else (if 0 ≤ eT.1 then (if eT.1 ≤ (kV.1.size : Int) then (aX.l0 k a0 a1 a2 (kV.1.extract 0 (eT.1 : Int).toNat) (wrap64 (a1 + eT.1)) 0 eT.1 eT.2.1 eT.2.2) else (none)) else (none))))) else (some ((⟨#[]⟩ : ByteArray), 2)))
set_option maxHeartbeats 8000000 in
set_option maxRecDepth 100000 in
theorem aX.calls (k : Nat) (a0 : ByteArray) (a1 : Int) (a2 : Int) (a3 : Int) (r1 : ByteArray) (r2 : Int) (w : World) (h : aX.f k a0 a1 a2 a3 = some (r1, r2)) :
    Calls Try.prog 104 #[.string a0, .int .i64 a1, .int .i64 a2, .int .i64 a3] w fun e w' => e = .returned (.tuple #[.string r1, .int .i64 r2]) ∧ Below w.heap.size w w' := by
  have Lu := Try.underlying142
  have HB := aj.mk (Below.refl w.heap.size w)
  have H : ((bC.f a0 a1 a2).bind fun kV => (if kV.2 = true then ((aH.f k a3).bind fun eT => (if (eT.1 == 0 && (eT.2.1 == 0 && (eT.2.2 == 0))) = true then (if a3 = 16 then ((bn.f k kV.1).bind fun vL => (if vL = true then (if (kV.1.size : Int) > 65535 then (some ((⟨#[]⟩ : ByteArray), 4)) else (some (kV.1, 0))) else (some ((⟨#[]⟩ : ByteArray), 4)))) else (if (kV.1.size : Int) > 65535 then (some ((⟨#[]⟩ : ByteArray), 4)) else (some (kV.1, 0)))) else (if eT.1 > a2 then (some ((⟨#[]⟩ : ByteArray), 4)) else (if 0 ≤ eT.1 then (if eT.1 ≤ (kV.1.size : Int) then (aX.l0 k a0 a1 a2 (kV.1.extract 0 (eT.1 : Int).toNat) (wrap64 (a1 + eT.1)) 0 eT.1 eT.2.1 eT.2.2) else (none)) else (none))))) else (some ((⟨#[]⟩ : ByteArray), 2)))) = some (r1, r2) := h
  clear h
  replace H := zbm H
  obtain ⟨⟨t160, YS⟩, QO, H⟩ := H
  replace H : (if YS = true then ((aH.f k a3).bind fun eT => (if (eT.1 == 0 && (eT.2.1 == 0 && (eT.2.2 == 0))) = true then (if a3 = 16 then ((bn.f k t160).bind fun vL => (if vL = true then (if (t160.size : Int) > 65535 then (some ((⟨#[]⟩ : ByteArray), 4)) else (some (t160, 0))) else (some ((⟨#[]⟩ : ByteArray), 4)))) else (if (t160.size : Int) > 65535 then (some ((⟨#[]⟩ : ByteArray), 4)) else (some (t160, 0)))) else (if eT.1 > a2 then (some ((⟨#[]⟩ : ByteArray), 4)) else (if 0 ≤ eT.1 then (if eT.1 ≤ (t160.size : Int) then (aX.l0 k a0 a1 a2 (t160.extract 0 (eT.1 : Int).toNat) (wrap64 (a1 + eT.1)) 0 eT.1 eT.2.1 eT.2.2) else (none)) else (none))))) else (some ((⟨#[]⟩ : ByteArray), 2))) = some (r1, r2) := H
  have A5 := aj.mk QO
  clear QO
  by_cases c6 : YS = true
  · subst c6
    have H1 : ((aH.f k a3).bind fun eT => (if (eT.1 == 0 && (eT.2.1 == 0 && (eT.2.2 == 0))) = true then (if a3 = 16 then ((bn.f k t160).bind fun vL => (if vL = true then (if (t160.size : Int) > 65535 then (some ((⟨#[]⟩ : ByteArray), 4)) else (some (t160, 0))) else (some ((⟨#[]⟩ : ByteArray), 4)))) else (if (t160.size : Int) > 65535 then (some ((⟨#[]⟩ : ByteArray), 4)) else (some (t160, 0)))) else (if eT.1 > a2 then (some ((⟨#[]⟩ : ByteArray), 4)) else (if 0 ≤ eT.1 then (if eT.1 ≤ (t160.size : Int) then (aX.l0 k a0 a1 a2 (t160.extract 0 (eT.1 : Int).toNat) (wrap64 (a1 + eT.1)) 0 eT.1 eT.2.1 eT.2.2) else (none)) else (none))))) = some (r1, r2) := by rw [if_pos rfl] at H; exact H
    clear H
    have H := H1
    clear H1
    replace H := zbm H
    obtain ⟨⟨t162, kC, t164⟩, X6, H⟩ := H
    replace H : (if (t162 == 0 && (kC == 0 && (t164 == 0))) = true then (if a3 = 16 then ((bn.f k t160).bind fun vL => (if vL = true then (if (t160.size : Int) > 65535 then (some ((⟨#[]⟩ : ByteArray), 4)) else (some (t160, 0))) else (some ((⟨#[]⟩ : ByteArray), 4)))) else (if (t160.size : Int) > 65535 then (some ((⟨#[]⟩ : ByteArray), 4)) else (some (t160, 0)))) else (if t162 > a2 then (some ((⟨#[]⟩ : ByteArray), 4)) else (if 0 ≤ t162 then (if t162 ≤ (t160.size : Int) then (aX.l0 k a0 a1 a2 (t160.extract 0 (t162 : Int).toNat) (wrap64 (a1 + t162)) 0 t162 kC t164) else (none)) else (none)))) = some (r1, r2) := H
    have A7 := aj.mk X6
    clear X6
    by_cases c8 : (t162 == 0 && (kC == 0 && (t164 == 0))) = true
    · rw [if_pos c8] at H
      have qU : (t162 == 0 && (kC == 0 && (t164 == 0))) = true := c8
      (try (have qV : decide (t162 = 0 && (kC == 0 && (t164 == 0))) = true := by simpa using c8))
      (try (have Lc : (t162 == 0 && (kC == 0 && (t164 == 0))) = true := by simpa using c8))
      clear c8
      by_cases c9 : a3 = 16
      · rw [if_pos c9] at H
        have sZ : (a3 == 16) = true := beq_iff_eq.mpr c9
        have Dx : (a3 != 16) = false := bne_eq_false_iff_eq.mpr c9
        clear c9
        replace H := zbm H
        obtain ⟨vL, Lj, H⟩ := H
        replace H : (if vL = true then (if (t160.size : Int) > 65535 then (some ((⟨#[]⟩ : ByteArray), 4)) else (some (t160, 0))) else (some ((⟨#[]⟩ : ByteArray), 4))) = some (r1, r2) := H
        have QI := aj.mk Lj
        clear Lj
        by_cases c11 : vL = true
        · subst c11
          have H1 : (if (t160.size : Int) > 65535 then (some ((⟨#[]⟩ : ByteArray), 4)) else (some (t160, 0))) = some (r1, r2) := by rw [if_pos rfl] at H; exact H
          clear H
          have H := H1
          clear H1
          by_cases c12 : (t160.size : Int) > 65535
          · rw [if_pos c12] at H
            have tq : decide (65535 < (t160.size : Int)) = true := decide_eq_true c12
            have tu : decide (65535 < t160.size) = true := decide_eq_true (by omega)
            clear c12
            simp only [Option.some.injEq, Prod.mk.injEq] at H
            obtain ⟨rfl, rfl⟩ := H
            go_enter Try.func104, Try.ntmps104
            go_wp2_with (first | ((with_reducible refine aQ (f := 99) rfl ?_); refine bP (some 23) rfl rfl Try.func99 (by kernel_rfl) rfl #[.string a0, .int .i64 a1, .int .i64 a2] rfl (by (try simp only [List.map_toArray, List.map_cons, List.map_nil]); first | done | rfl | (simp only [List.length_drop, List.length_take]; rfl) | (simp only [ByteArray.size_append, Int.natCast_add]; rfl) | (rw [B.dO] <;> first | rfl | omega | (simp only [decide_eq_false_iff_not, decide_eq_true_eq, Int.not_lt, Nat.not_lt, gt_iff_lt] at * <;> omega))) ?_; (with_reducible refine (bC.calls a0 a1 a2 t160 true _ A5.out).mono ?_); rintro e w' ⟨rfl, ⟨nd, rfl⟩⟩; refine ⟨_, rfl, ?_⟩) | ((with_reducible refine aQ (f := 106) rfl ?_); refine bP (some 29) rfl rfl Try.func106 (by kernel_rfl) rfl #[.int .i64 a3] rfl (by (try simp only [List.map_toArray, List.map_cons, List.map_nil]); first | done | rfl | (simp only [List.length_drop, List.length_take]; rfl) | (simp only [ByteArray.size_append, Int.natCast_add]; rfl) | (rw [B.dO] <;> first | rfl | omega | (simp only [decide_eq_false_iff_not, decide_eq_true_eq, Int.not_lt, Nat.not_lt, gt_iff_lt] at * <;> omega))) ?_; (with_reducible refine (aH.calls k a3 t162 kC t164 _ A7.out).mono ?_); rintro e w13 ⟨rfl, hb⟩; refine ⟨_, rfl, ?_⟩; have dY := aj.mk (bE (by repeat (first | (with_reducible first | exact HB.out | apply ak | apply ah | apply au) | exact HB.out)) hb); clear HB; have HB := dY; clear dY; (try clear hb); (try clear hb2); (try clear hk); (try clear hi)) | ((with_reducible refine gD (N := 12) rfl ?_); (try (refine jm (by rfl) ?_; dsimp only)); refine fO ?hg (N := 12) ?hd (cs := #[.int .i64 0, .int .i64 0, .int .i64 0]) (t := 142) ?hr ?_; (case hd => rfl); (case hg => rfl); (case hr => first | (go_simp; done) | (go_simp; rfl)); intro dL hg w14 gT hb; have dY := aj.mk (bE (by repeat (first | (with_reducible first | exact HB.out | apply ak | apply ah | apply au) | exact HB.out)) hb); have gW := aj.mk (gT); have iY := aj.mk ((by rw [hg]; exact (bL (by repeat (first | (with_reducible first | exact HB.out | apply ak | apply ah | apply au) | exact HB.out))) : w.heap.size ≤ dL)); have jF := aj.mk ((by rw [hg]; exact (bL (by repeat (first | (with_reducible first | exact HB.out | apply ak | apply ah | apply au) | exact HB.out))) : w.heap.size ≤ dL)); clear HB; have HB := dY; have bT := gW; have zU := iY; have kE := jF; clear dY gW iY jF; clear hb gT hg; have BA : w14.cell? ⟨dL, 0, none⟩ = some (.int .i64 0) := (aM bT.out 0).trans rfl; have BD : w14.cell? ⟨dL, 1, none⟩ = some (.int .i64 0) := (aM bT.out 1).trans rfl; have BF : w14.cell? ⟨dL, 2, none⟩ = some (.int .i64 0) := (aM bT.out 2).trans rfl; have BG := ay bT.out 0; have BH := ay bT.out 1; have BI := ay bT.out 2) | (go_at_call 117; (with_reducible refine (bn.calls k t160 true _ QI.out).mono ?_); rintro e w' ⟨rfl, ⟨nd, rfl⟩⟩))
            go_ret2
            exact ⟨by first | rfl | (simp [aJ, aK] <;> rfl) | (simp [*, aJ, aK] <;> rfl), by repeat (first | (with_reducible first | exact HB.out | apply ak | apply ah | apply au | refine aR ?_ kE.out) | exact HB.out)⟩
          · rw [if_neg c12] at H
            have tq : decide (65535 < (t160.size : Int)) = false := decide_eq_false c12
            have tu : decide (65535 < t160.size) = false := decide_eq_false (by omega)
            clear c12
            simp only [Option.some.injEq, Prod.mk.injEq] at H
            obtain ⟨rfl, rfl⟩ := H
            go_enter Try.func104, Try.ntmps104
            go_wp2_with (first | ((with_reducible refine aQ (f := 99) rfl ?_); refine bP (some 23) rfl rfl Try.func99 (by kernel_rfl) rfl #[.string a0, .int .i64 a1, .int .i64 a2] rfl (by (try simp only [List.map_toArray, List.map_cons, List.map_nil]); first | done | rfl | (simp only [List.length_drop, List.length_take]; rfl) | (simp only [ByteArray.size_append, Int.natCast_add]; rfl) | (rw [B.dO] <;> first | rfl | omega | (simp only [decide_eq_false_iff_not, decide_eq_true_eq, Int.not_lt, Nat.not_lt, gt_iff_lt] at * <;> omega))) ?_; (with_reducible refine (bC.calls a0 a1 a2 t160 true _ A5.out).mono ?_); rintro e w' ⟨rfl, ⟨nd, rfl⟩⟩; refine ⟨_, rfl, ?_⟩) | ((with_reducible refine aQ (f := 106) rfl ?_); refine bP (some 29) rfl rfl Try.func106 (by kernel_rfl) rfl #[.int .i64 a3] rfl (by (try simp only [List.map_toArray, List.map_cons, List.map_nil]); first | done | rfl | (simp only [List.length_drop, List.length_take]; rfl) | (simp only [ByteArray.size_append, Int.natCast_add]; rfl) | (rw [B.dO] <;> first | rfl | omega | (simp only [decide_eq_false_iff_not, decide_eq_true_eq, Int.not_lt, Nat.not_lt, gt_iff_lt] at * <;> omega))) ?_; (with_reducible refine (aH.calls k a3 t162 kC t164 _ A7.out).mono ?_); rintro e w16 ⟨rfl, hb⟩; refine ⟨_, rfl, ?_⟩; have dY := aj.mk (bE (by repeat (first | (with_reducible first | exact HB.out | apply ak | apply ah | apply au) | exact HB.out)) hb); clear HB; have HB := dY; clear dY; (try clear hb); (try clear hb2); (try clear hk); (try clear hi)) | ((with_reducible refine gD (N := 12) rfl ?_); (try (refine jm (by rfl) ?_; dsimp only)); refine fO ?hg (N := 12) ?hd (cs := #[.int .i64 0, .int .i64 0, .int .i64 0]) (t := 142) ?hr ?_; (case hd => rfl); (case hg => rfl); (case hr => first | (go_simp; done) | (go_simp; rfl)); intro dL hg w17 gT hb; have dY := aj.mk (bE (by repeat (first | (with_reducible first | exact HB.out | apply ak | apply ah | apply au) | exact HB.out)) hb); have gW := aj.mk (gT); have iY := aj.mk ((by rw [hg]; exact (bL (by repeat (first | (with_reducible first | exact HB.out | apply ak | apply ah | apply au) | exact HB.out))) : w.heap.size ≤ dL)); have jF := aj.mk ((by rw [hg]; exact (bL (by repeat (first | (with_reducible first | exact HB.out | apply ak | apply ah | apply au) | exact HB.out))) : w.heap.size ≤ dL)); clear HB; have HB := dY; have bT := gW; have zU := iY; have kE := jF; clear dY gW iY jF; clear hb gT hg; have Gz : w17.cell? ⟨dL, 0, none⟩ = some (.int .i64 0) := (aM bT.out 0).trans rfl; have GA : w17.cell? ⟨dL, 1, none⟩ = some (.int .i64 0) := (aM bT.out 1).trans rfl; have GD : w17.cell? ⟨dL, 2, none⟩ = some (.int .i64 0) := (aM bT.out 2).trans rfl; have GH := ay bT.out 0; have GI := ay bT.out 1; have GJ := ay bT.out 2) | (go_at_call 117; (with_reducible refine (bn.calls k t160 true _ QI.out).mono ?_); rintro e w' ⟨rfl, ⟨nd, rfl⟩⟩))
            go_ret2
            exact ⟨by first | rfl | (simp [aJ, aK] <;> rfl) | (simp [*, aJ, aK] <;> rfl), by repeat (first | (with_reducible first | exact HB.out | apply ak | apply ah | apply au | refine aR ?_ kE.out) | exact HB.out)⟩
        · replace c11 := Bool.eq_false_iff.mpr c11
          subst c11
          have H1 : (some ((⟨#[]⟩ : ByteArray), 4)) = some (r1, r2) := by rw [if_neg (show ¬ (false = true) by decide)] at H; exact H
          clear H
          have H := H1
          clear H1
          simp only [Option.some.injEq, Prod.mk.injEq] at H
          obtain ⟨rfl, rfl⟩ := H
          go_enter Try.func104, Try.ntmps104
          go_wp2_with (first | ((with_reducible refine aQ (f := 99) rfl ?_); refine bP (some 23) rfl rfl Try.func99 (by kernel_rfl) rfl #[.string a0, .int .i64 a1, .int .i64 a2] rfl (by (try simp only [List.map_toArray, List.map_cons, List.map_nil]); first | done | rfl | (simp only [List.length_drop, List.length_take]; rfl) | (simp only [ByteArray.size_append, Int.natCast_add]; rfl) | (rw [B.dO] <;> first | rfl | omega | (simp only [decide_eq_false_iff_not, decide_eq_true_eq, Int.not_lt, Nat.not_lt, gt_iff_lt] at * <;> omega))) ?_; (with_reducible refine (bC.calls a0 a1 a2 t160 true _ A5.out).mono ?_); rintro e w' ⟨rfl, ⟨nd, rfl⟩⟩; refine ⟨_, rfl, ?_⟩) | ((with_reducible refine aQ (f := 106) rfl ?_); refine bP (some 29) rfl rfl Try.func106 (by kernel_rfl) rfl #[.int .i64 a3] rfl (by (try simp only [List.map_toArray, List.map_cons, List.map_nil]); first | done | rfl | (simp only [List.length_drop, List.length_take]; rfl) | (simp only [ByteArray.size_append, Int.natCast_add]; rfl) | (rw [B.dO] <;> first | rfl | omega | (simp only [decide_eq_false_iff_not, decide_eq_true_eq, Int.not_lt, Nat.not_lt, gt_iff_lt] at * <;> omega))) ?_; (with_reducible refine (aH.calls k a3 t162 kC t164 _ A7.out).mono ?_); rintro e w19 ⟨rfl, hb⟩; refine ⟨_, rfl, ?_⟩; have dY := aj.mk (bE (by repeat (first | (with_reducible first | exact HB.out | apply ak | apply ah | apply au) | exact HB.out)) hb); clear HB; have HB := dY; clear dY; (try clear hb); (try clear hb2); (try clear hk); (try clear hi)) | ((with_reducible refine gD (N := 12) rfl ?_); (try (refine jm (by rfl) ?_; dsimp only)); refine fO ?hg (N := 12) ?hd (cs := #[.int .i64 0, .int .i64 0, .int .i64 0]) (t := 142) ?hr ?_; (case hd => rfl); (case hg => rfl); (case hr => first | (go_simp; done) | (go_simp; rfl)); intro dL hg w20 gT hb; have dY := aj.mk (bE (by repeat (first | (with_reducible first | exact HB.out | apply ak | apply ah | apply au) | exact HB.out)) hb); have gW := aj.mk (gT); have iY := aj.mk ((by rw [hg]; exact (bL (by repeat (first | (with_reducible first | exact HB.out | apply ak | apply ah | apply au) | exact HB.out))) : w.heap.size ≤ dL)); have jF := aj.mk ((by rw [hg]; exact (bL (by repeat (first | (with_reducible first | exact HB.out | apply ak | apply ah | apply au) | exact HB.out))) : w.heap.size ≤ dL)); clear HB; have HB := dY; have bT := gW; have zU := iY; have kE := jF; clear dY gW iY jF; clear hb gT hg; have OH : w20.cell? ⟨dL, 0, none⟩ = some (.int .i64 0) := (aM bT.out 0).trans rfl; have OI : w20.cell? ⟨dL, 1, none⟩ = some (.int .i64 0) := (aM bT.out 1).trans rfl; have OJ : w20.cell? ⟨dL, 2, none⟩ = some (.int .i64 0) := (aM bT.out 2).trans rfl; have OL := ay bT.out 0; have OM := ay bT.out 1; have OO := ay bT.out 2) | (go_at_call 117; (with_reducible refine (bn.calls k t160 false _ QI.out).mono ?_); rintro e w' ⟨rfl, ⟨nd, rfl⟩⟩))
          go_ret2
          exact ⟨by first | rfl | (simp [aJ, aK] <;> rfl) | (simp [*, aJ, aK] <;> rfl), by repeat (first | (with_reducible first | exact HB.out | apply ak | apply ah | apply au | refine aR ?_ kE.out) | exact HB.out)⟩
      · rw [if_neg c9] at H
        have sZ : (a3 == 16) = false := beq_eq_false_iff_ne.mpr c9
        have Dx : (a3 != 16) = true := bne_iff_ne.mpr c9
        by_cases BQ : (t160.size : Int) > 65535
        · rw [if_pos BQ] at H
          have LG : decide (65535 < (t160.size : Int)) = true := decide_eq_true BQ
          have LH : decide (65535 < t160.size) = true := decide_eq_true (by omega)
          clear BQ
          simp only [Option.some.injEq, Prod.mk.injEq] at H
          obtain ⟨rfl, rfl⟩ := H
          go_enter Try.func104, Try.ntmps104
          go_wp2_with (first | ((with_reducible refine aQ (f := 99) rfl ?_); refine bP (some 23) rfl rfl Try.func99 (by kernel_rfl) rfl #[.string a0, .int .i64 a1, .int .i64 a2] rfl (by (try simp only [List.map_toArray, List.map_cons, List.map_nil]); first | done | rfl | (simp only [List.length_drop, List.length_take]; rfl) | (simp only [ByteArray.size_append, Int.natCast_add]; rfl) | (rw [B.dO] <;> first | rfl | omega | (simp only [decide_eq_false_iff_not, decide_eq_true_eq, Int.not_lt, Nat.not_lt, gt_iff_lt] at * <;> omega))) ?_; (with_reducible refine (bC.calls a0 a1 a2 t160 true _ A5.out).mono ?_); rintro e w' ⟨rfl, ⟨nd, rfl⟩⟩; refine ⟨_, rfl, ?_⟩) | ((with_reducible refine aQ (f := 106) rfl ?_); refine bP (some 29) rfl rfl Try.func106 (by kernel_rfl) rfl #[.int .i64 a3] rfl (by (try simp only [List.map_toArray, List.map_cons, List.map_nil]); first | done | rfl | (simp only [List.length_drop, List.length_take]; rfl) | (simp only [ByteArray.size_append, Int.natCast_add]; rfl) | (rw [B.dO] <;> first | rfl | omega | (simp only [decide_eq_false_iff_not, decide_eq_true_eq, Int.not_lt, Nat.not_lt, gt_iff_lt] at * <;> omega))) ?_; (with_reducible refine (aH.calls k a3 t162 kC t164 _ A7.out).mono ?_); rintro e w23 ⟨rfl, hb⟩; refine ⟨_, rfl, ?_⟩; have dY := aj.mk (bE (by repeat (first | (with_reducible first | exact HB.out | apply ak | apply ah | apply au) | exact HB.out)) hb); clear HB; have HB := dY; clear dY; (try clear hb); (try clear hb2); (try clear hk); (try clear hi)) | ((with_reducible refine gD (N := 12) rfl ?_); (try (refine jm (by rfl) ?_; dsimp only)); refine fO ?hg (N := 12) ?hd (cs := #[.int .i64 0, .int .i64 0, .int .i64 0]) (t := 142) ?hr ?_; (case hd => rfl); (case hg => rfl); (case hr => first | (go_simp; done) | (go_simp; rfl)); intro dL hg w24 gT hb; have dY := aj.mk (bE (by repeat (first | (with_reducible first | exact HB.out | apply ak | apply ah | apply au) | exact HB.out)) hb); have gW := aj.mk (gT); have iY := aj.mk ((by rw [hg]; exact (bL (by repeat (first | (with_reducible first | exact HB.out | apply ak | apply ah | apply au) | exact HB.out))) : w.heap.size ≤ dL)); have jF := aj.mk ((by rw [hg]; exact (bL (by repeat (first | (with_reducible first | exact HB.out | apply ak | apply ah | apply au) | exact HB.out))) : w.heap.size ≤ dL)); clear HB; have HB := dY; have bT := gW; have zU := iY; have kE := jF; clear dY gW iY jF; clear hb gT hg; have OP : w24.cell? ⟨dL, 0, none⟩ = some (.int .i64 0) := (aM bT.out 0).trans rfl; have OQ : w24.cell? ⟨dL, 1, none⟩ = some (.int .i64 0) := (aM bT.out 1).trans rfl; have OT : w24.cell? ⟨dL, 2, none⟩ = some (.int .i64 0) := (aM bT.out 2).trans rfl; have OU := ay bT.out 0; have OV := ay bT.out 1; have OW := ay bT.out 2))
          go_ret2
          exact ⟨by first | rfl | (simp [aJ, aK] <;> rfl) | (simp [*, aJ, aK] <;> rfl), by repeat (first | (with_reducible first | exact HB.out | apply ak | apply ah | apply au | refine aR ?_ kE.out) | exact HB.out)⟩
        · rw [if_neg BQ] at H
          have LG : decide (65535 < (t160.size : Int)) = false := decide_eq_false BQ
          have LH : decide (65535 < t160.size) = false := decide_eq_false (by omega)
          clear BQ
          simp only [Option.some.injEq, Prod.mk.injEq] at H
          obtain ⟨rfl, rfl⟩ := H
          go_enter Try.func104, Try.ntmps104
          go_wp2_with (first | ((with_reducible refine aQ (f := 99) rfl ?_); refine bP (some 23) rfl rfl Try.func99 (by kernel_rfl) rfl #[.string a0, .int .i64 a1, .int .i64 a2] rfl (by (try simp only [List.map_toArray, List.map_cons, List.map_nil]); first | done | rfl | (simp only [List.length_drop, List.length_take]; rfl) | (simp only [ByteArray.size_append, Int.natCast_add]; rfl) | (rw [B.dO] <;> first | rfl | omega | (simp only [decide_eq_false_iff_not, decide_eq_true_eq, Int.not_lt, Nat.not_lt, gt_iff_lt] at * <;> omega))) ?_; (with_reducible refine (bC.calls a0 a1 a2 t160 true _ A5.out).mono ?_); rintro e w' ⟨rfl, ⟨nd, rfl⟩⟩; refine ⟨_, rfl, ?_⟩) | ((with_reducible refine aQ (f := 106) rfl ?_); refine bP (some 29) rfl rfl Try.func106 (by kernel_rfl) rfl #[.int .i64 a3] rfl (by (try simp only [List.map_toArray, List.map_cons, List.map_nil]); first | done | rfl | (simp only [List.length_drop, List.length_take]; rfl) | (simp only [ByteArray.size_append, Int.natCast_add]; rfl) | (rw [B.dO] <;> first | rfl | omega | (simp only [decide_eq_false_iff_not, decide_eq_true_eq, Int.not_lt, Nat.not_lt, gt_iff_lt] at * <;> omega))) ?_; (with_reducible refine (aH.calls k a3 t162 kC t164 _ A7.out).mono ?_); rintro e w26 ⟨rfl, hb⟩; refine ⟨_, rfl, ?_⟩; have dY := aj.mk (bE (by repeat (first | (with_reducible first | exact HB.out | apply ak | apply ah | apply au) | exact HB.out)) hb); clear HB; have HB := dY; clear dY; (try clear hb); (try clear hb2); (try clear hk); (try clear hi)) | ((with_reducible refine gD (N := 12) rfl ?_); (try (refine jm (by rfl) ?_; dsimp only)); refine fO ?hg (N := 12) ?hd (cs := #[.int .i64 0, .int .i64 0, .int .i64 0]) (t := 142) ?hr ?_; (case hd => rfl); (case hg => rfl); (case hr => first | (go_simp; done) | (go_simp; rfl)); intro dL hg w27 gT hb; have dY := aj.mk (bE (by repeat (first | (with_reducible first | exact HB.out | apply ak | apply ah | apply au) | exact HB.out)) hb); have gW := aj.mk (gT); have iY := aj.mk ((by rw [hg]; exact (bL (by repeat (first | (with_reducible first | exact HB.out | apply ak | apply ah | apply au) | exact HB.out))) : w.heap.size ≤ dL)); have jF := aj.mk ((by rw [hg]; exact (bL (by repeat (first | (with_reducible first | exact HB.out | apply ak | apply ah | apply au) | exact HB.out))) : w.heap.size ≤ dL)); clear HB; have HB := dY; have bT := gW; have zU := iY; have kE := jF; clear dY gW iY jF; clear hb gT hg; have OX : w27.cell? ⟨dL, 0, none⟩ = some (.int .i64 0) := (aM bT.out 0).trans rfl; have OY : w27.cell? ⟨dL, 1, none⟩ = some (.int .i64 0) := (aM bT.out 1).trans rfl; have OZ : w27.cell? ⟨dL, 2, none⟩ = some (.int .i64 0) := (aM bT.out 2).trans rfl; have O1 := ay bT.out 0; have O4 := ay bT.out 1; have O5 := ay bT.out 2))
          go_ret2
          exact ⟨by first | rfl | (simp [aJ, aK] <;> rfl) | (simp [*, aJ, aK] <;> rfl), by repeat (first | (with_reducible first | exact HB.out | apply ak | apply ah | apply au | refine aR ?_ kE.out) | exact HB.out)⟩
    · rw [if_neg c8] at H
      have qU : (t162 == 0 && (kC == 0 && (t164 == 0))) = false := by simpa using c8
      (try (have qV : decide (t162 = 0 && (kC == 0 && (t164 == 0))) = false := by simpa using c8))
      (try (have Lc : (t162 == 0 && (kC == 0 && (t164 == 0))) = false := by simpa using c8))
      (try (have XY : ¬ (t162 = 0 && (kC == 0 && (t164 == 0))) := by simpa using c8))
      clear c8
      by_cases Hw : t162 > a2
      · rw [if_pos Hw] at H
        have QS : decide (a2 < t162) = true := decide_eq_true Hw
        clear Hw
        simp only [Option.some.injEq, Prod.mk.injEq] at H
        obtain ⟨rfl, rfl⟩ := H
        go_enter Try.func104, Try.ntmps104
        go_wp2_with (first | ((with_reducible refine aQ (f := 99) rfl ?_); refine bP (some 23) rfl rfl Try.func99 (by kernel_rfl) rfl #[.string a0, .int .i64 a1, .int .i64 a2] rfl (by (try simp only [List.map_toArray, List.map_cons, List.map_nil]); first | done | rfl | (simp only [List.length_drop, List.length_take]; rfl) | (simp only [ByteArray.size_append, Int.natCast_add]; rfl) | (rw [B.dO] <;> first | rfl | omega | (simp only [decide_eq_false_iff_not, decide_eq_true_eq, Int.not_lt, Nat.not_lt, gt_iff_lt] at * <;> omega))) ?_; (with_reducible refine (bC.calls a0 a1 a2 t160 true _ A5.out).mono ?_); rintro e w' ⟨rfl, ⟨nd, rfl⟩⟩; refine ⟨_, rfl, ?_⟩) | ((with_reducible refine aQ (f := 106) rfl ?_); refine bP (some 29) rfl rfl Try.func106 (by kernel_rfl) rfl #[.int .i64 a3] rfl (by (try simp only [List.map_toArray, List.map_cons, List.map_nil]); first | done | rfl | (simp only [List.length_drop, List.length_take]; rfl) | (simp only [ByteArray.size_append, Int.natCast_add]; rfl) | (rw [B.dO] <;> first | rfl | omega | (simp only [decide_eq_false_iff_not, decide_eq_true_eq, Int.not_lt, Nat.not_lt, gt_iff_lt] at * <;> omega))) ?_; (with_reducible refine (aH.calls k a3 t162 kC t164 _ A7.out).mono ?_); rintro e w30 ⟨rfl, hb⟩; refine ⟨_, rfl, ?_⟩; have dY := aj.mk (bE (by repeat (first | (with_reducible first | exact HB.out | apply ak | apply ah | apply au) | exact HB.out)) hb); clear HB; have HB := dY; clear dY; (try clear hb); (try clear hb2); (try clear hk); (try clear hi)) | ((with_reducible refine gD (N := 12) rfl ?_); (try (refine jm (by rfl) ?_; dsimp only)); refine fO ?hg (N := 12) ?hd (cs := #[.int .i64 0, .int .i64 0, .int .i64 0]) (t := 142) ?hr ?_; (case hd => rfl); (case hg => rfl); (case hr => first | (go_simp; done) | (go_simp; rfl)); intro dL hg w31 gT hb; have dY := aj.mk (bE (by repeat (first | (with_reducible first | exact HB.out | apply ak | apply ah | apply au) | exact HB.out)) hb); have gW := aj.mk (gT); have iY := aj.mk ((by rw [hg]; exact (bL (by repeat (first | (with_reducible first | exact HB.out | apply ak | apply ah | apply au) | exact HB.out))) : w.heap.size ≤ dL)); have jF := aj.mk ((by rw [hg]; exact (bL (by repeat (first | (with_reducible first | exact HB.out | apply ak | apply ah | apply au) | exact HB.out))) : w.heap.size ≤ dL)); clear HB; have HB := dY; have bT := gW; have zU := iY; have kE := jF; clear dY gW iY jF; clear hb gT hg; have Gt : w31.cell? ⟨dL, 0, none⟩ = some (.int .i64 0) := (aM bT.out 0).trans rfl; have Gu : w31.cell? ⟨dL, 1, none⟩ = some (.int .i64 0) := (aM bT.out 1).trans rfl; have Gv : w31.cell? ⟨dL, 2, none⟩ = some (.int .i64 0) := (aM bT.out 2).trans rfl; have Gw := ay bT.out 0; have Gx := ay bT.out 1; have Gy := ay bT.out 2))
        go_ret2
        exact ⟨by first | rfl | (simp [aJ, aK] <;> rfl) | (simp [*, aJ, aK] <;> rfl), by repeat (first | (with_reducible first | exact HB.out | apply ak | apply ah | apply au | refine aR ?_ kE.out) | exact HB.out)⟩
      · rw [if_neg Hw] at H
        have QS : decide (a2 < t162) = false := decide_eq_false Hw
        clear Hw
        by_cases Nb : 0 ≤ t162
        · rw [if_pos Nb] at H
          have YT := eq_true Nb
          have YU : decide (0 ≤ t162) = true := decide_eq_true Nb
          clear Nb
          by_cases c34 : t162 ≤ (t160.size : Int)
          · rw [if_pos c34] at H
            have YV := eq_true c34
            have YW : decide (t162 ≤ (t160.size : Int)) = true := decide_eq_true c34
            clear c34
            have H' := aj.mk H
            clear H
            go_enter Try.func104, Try.ntmps104
            go_wp2_with (first | ((with_reducible refine aQ (f := 99) rfl ?_); refine bP (some 23) rfl rfl Try.func99 (by kernel_rfl) rfl #[.string a0, .int .i64 a1, .int .i64 a2] rfl (by (try simp only [List.map_toArray, List.map_cons, List.map_nil]); first | done | rfl | (simp only [List.length_drop, List.length_take]; rfl) | (simp only [ByteArray.size_append, Int.natCast_add]; rfl) | (rw [B.dO] <;> first | rfl | omega | (simp only [decide_eq_false_iff_not, decide_eq_true_eq, Int.not_lt, Nat.not_lt, gt_iff_lt] at * <;> omega))) ?_; (with_reducible refine (bC.calls a0 a1 a2 t160 true _ A5.out).mono ?_); rintro e w' ⟨rfl, ⟨nd, rfl⟩⟩; refine ⟨_, rfl, ?_⟩) | ((with_reducible refine aQ (f := 106) rfl ?_); refine bP (some 29) rfl rfl Try.func106 (by kernel_rfl) rfl #[.int .i64 a3] rfl (by (try simp only [List.map_toArray, List.map_cons, List.map_nil]); first | done | rfl | (simp only [List.length_drop, List.length_take]; rfl) | (simp only [ByteArray.size_append, Int.natCast_add]; rfl) | (rw [B.dO] <;> first | rfl | omega | (simp only [decide_eq_false_iff_not, decide_eq_true_eq, Int.not_lt, Nat.not_lt, gt_iff_lt] at * <;> omega))) ?_; (with_reducible refine (aH.calls k a3 t162 kC t164 _ A7.out).mono ?_); rintro e w35 ⟨rfl, hb⟩; refine ⟨_, rfl, ?_⟩; have dY := aj.mk (bE (by repeat (first | (with_reducible first | exact HB.out | apply ak | apply ah | apply au) | exact HB.out)) hb); clear HB; have HB := dY; clear dY; (try clear hb); (try clear hb2); (try clear hk); (try clear hi)) | ((with_reducible refine gD (N := 12) rfl ?_); (try (refine jm (by rfl) ?_; dsimp only)); refine fO ?hg (N := 12) ?hd (cs := #[.int .i64 0, .int .i64 0, .int .i64 0]) (t := 142) ?hr ?_; (case hd => rfl); (case hg => rfl); (case hr => first | (go_simp; done) | (go_simp; rfl)); intro dL hg w36 gT hb; have dY := aj.mk (bE (by repeat (first | (with_reducible first | exact HB.out | apply ak | apply ah | apply au) | exact HB.out)) hb); have gW := aj.mk (gT); have iY := aj.mk ((by rw [hg]; exact (bL (by repeat (first | (with_reducible first | exact HB.out | apply ak | apply ah | apply au) | exact HB.out))) : w.heap.size ≤ dL)); have jF := aj.mk ((by rw [hg]; exact (bL (by repeat (first | (with_reducible first | exact HB.out | apply ak | apply ah | apply au) | exact HB.out))) : w.heap.size ≤ dL)); clear HB; have HB := dY; have bT := gW; have zU := iY; have kE := jF; clear dY gW iY jF; clear hb gT hg; have O6 : w36.cell? ⟨dL, 0, none⟩ = some (.int .i64 0) := (aM bT.out 0).trans rfl; have O7 : w36.cell? ⟨dL, 1, none⟩ = some (.int .i64 0) := (aM bT.out 1).trans rfl; have O8 : w36.cell? ⟨dL, 2, none⟩ = some (.int .i64 0) := (aM bT.out 2).trans rfl; have O9 := ay bT.out 0; have Pb := ay bT.out 1; have Pf := ay bT.out 2))
            go_loopg [13, 14, 15] k (fun kq v13 v14 v15 w' => ∃ (dF : ByteArray) (bQ : Int) (vo : Int), v13 = .string dF ∧ v14 = .int .i64 bQ ∧ v15 = .int .i64 vo ∧ aj (aX.l0 kq a0 a1 a2 dF bQ vo t162 kC t164 = some (r1, r2)) ∧ aj (kq ≤ k) ∧ aj (w'.heap[dL]? = some (.cells #[.int .i64 t162, .int .i64 kC, .int .i64 t164] 142 (0, 0))) ∧ aj (Below w.heap.size w w'))
            case atStart => exact ⟨(t160.extract 0 (t162 : Int).toNat), (wrap64 (a1 + t162)), (0), (by first | rfl | (simp; done) | (simp [*]; done) | (simp [B.aV]; done) | (simp [B.aW]; done)), (by first | rfl | (simp; done) | (simp [*]; done) | (simp [B.aV]; done) | (simp [B.aW]; done)), (by first | rfl | (simp; done) | (simp [*]; done) | (simp [B.aV]; done) | (simp [B.aW]; done)), H', ⟨Nat.le_refl _⟩, ⟨by (with_reducible repeat (first | refine aG ?_ _ | refine aI ?_ | refine aA ?_ _)); refine bU (cs := #[.int .i64 t162, .int .i64 kC, .int .i64 0]) ?_ 2 _ rfl; (with_reducible repeat (first | refine aG ?_ _ | refine aI ?_ | refine aA ?_ _)); refine bU (cs := #[.int .i64 t162, .int .i64 0, .int .i64 0]) ?_ 1 _ rfl; (with_reducible repeat (first | refine aG ?_ _ | refine aI ?_ | refine aA ?_ _)); refine bU (cs := #[.int .i64 0, .int .i64 0, .int .i64 0]) ?_ 0 _ rfl; (with_reducible repeat (first | refine aG ?_ _ | refine aI ?_ | refine aA ?_ _)); exact bT.out⟩, ⟨by repeat (first | (with_reducible first | exact HB.out | apply ak | apply ah | apply au | refine aR ?_ kE.out) | exact HB.out)⟩⟩
            case round =>
              clear H'
              try clear c1
              try clear c2
              try clear p2
              try clear c3
              try clear c6
              try clear p6
              try clear c8
              try clear qU
              try clear qV
              try clear Lc
              try clear c9
              try clear sZ
              try clear Dx
              try clear c10
              try clear c11
              try clear c12
              try clear tq
              try clear tu
              try clear BQ
              try clear LG
              try clear LH
              try clear Hw
              try clear QS
              try clear Nb
              try clear YT
              try clear YU
              try clear c34
              try clear YV
              try clear YW
              try clear BA
              try clear BD
              try clear BF
              try clear Gz
              try clear GA
              try clear GD
              try clear OH
              try clear OI
              try clear OJ
              try clear OP
              try clear OQ
              try clear OT
              try clear OX
              try clear OY
              try clear OZ
              try clear Gt
              try clear Gu
              try clear Gv
              try clear O6
              try clear O7
              try clear O8
              try clear BG
              try clear BH
              try clear BI
              try clear GH
              try clear GI
              try clear GJ
              try clear OL
              try clear OM
              try clear OO
              try clear OU
              try clear OV
              try clear OW
              try clear O1
              try clear O4
              try clear O5
              try clear Gw
              try clear Gx
              try clear Gy
              try clear O9
              try clear Pb
              try clear Pf
              obtain ⟨dF, bQ, vo, rfl, rfl, rfl, HA, sW, bT, HB⟩ := hrel
              cases gk with
              | zero => exact absurd HA.out (by simp [aX.l0])
              | succ k1 =>
                have H := HA.out
                clear HA
                simp only [aX.l0] at H
                by_cases Je : vo < kC
                · rw [if_pos Je] at H
                  have QN : decide (vo < kC) = true := decide_eq_true Je
                  clear Je
                  replace H := zbm H
                  obtain ⟨⟨t167, t168, DR⟩, YX, H⟩ := H
                  replace H : (if DR = 0 then (if dF.size + t167.size ≤ 9223372036854775807 then (aX.l0 k1 a0 a1 a2 (dF ++ t167) t168 (wrap64 (vo + 1)) t162 kC t164) else (none)) else (some ((⟨#[]⟩ : ByteArray), 4))) = some (r1, r2) := H
                  have A39 := aj.mk YX
                  clear YX
                  by_cases c40 : DR = 0
                  · rw [if_pos c40] at H
                    have YZ : (DR == 0) = true := beq_iff_eq.mpr c40
                    have Y0 : (DR != 0) = false := bne_eq_false_iff_eq.mpr c40
                    clear c40
                    by_cases Y1 : dF.size + t167.size ≤ 9223372036854775807
                    · rw [if_pos Y1] at H
                      have afI := eq_true Y1
                      have afJ : decide (dF.size + t167.size ≤ 9223372036854775807) = true := decide_eq_true Y1
                      try have afK : (9223372036854775807 < dF.size + t167.size) = False := eq_false (Nat.not_lt.2 Y1)
                      have H' := aj.mk H
                      clear H
                      have Oy : wr.cell? ⟨dL, 0, none⟩ = some (.int .i64 t162) := (aM bT.out 0).trans rfl
                      have Oz : wr.cell? ⟨dL, 1, none⟩ = some (.int .i64 kC) := (aM bT.out 1).trans rfl
                      have OA : wr.cell? ⟨dL, 2, none⟩ = some (.int .i64 t164) := (aM bT.out 2).trans rfl
                      have OB := ay bT.out 0
                      have OC := ay bT.out 1
                      have OD := ay bT.out 2
                      go_wp2_with (first | ((with_reducible refine aQ (f := 118) rfl ?_); refine bP (some 67) rfl rfl Try.func118 (by kernel_rfl) rfl #[.string a0, .int .i64 bQ] rfl (by (try simp only [List.map_toArray, List.map_cons, List.map_nil]); first | done | rfl | (simp only [List.length_drop, List.length_take]; rfl) | (simp only [ByteArray.size_append, Int.natCast_add]; rfl) | (rw [B.dO] <;> first | rfl | omega | (simp only [decide_eq_false_iff_not, decide_eq_true_eq, Int.not_lt, Nat.not_lt, gt_iff_lt] at * <;> omega))) ?_; (with_reducible refine (aU.calls k1 a0 bQ t167 t168 DR _ A39.out).mono ?_); rintro e w' ⟨rfl, ⟨nd, rfl⟩⟩; refine ⟨_, rfl, ?_⟩))
                      go_roundg k1
                      case measure => have := sW.out; omega
                      case rel => exact ⟨(dF ++ t167), (t168), (wrap64 (vo + 1)), (by first | rfl | (simp; done) | (simp [*]; done) | (simp [B.aV]; done) | (simp [B.aW]; done)), (by first | rfl | (simp; done) | (simp [*]; done) | (simp [B.aV]; done) | (simp [B.aW]; done)), (by first | rfl | (simp; done) | (simp [*]; done) | (simp [B.aV]; done) | (simp [B.aW]; done)), H', ⟨by have := sW.out; omega⟩, ⟨by (with_reducible repeat (first | refine aG ?_ _ | refine aI ?_ | refine aA ?_ _)); exact bT.out⟩, ⟨by repeat (first | (with_reducible first | exact HB.out | apply ak | apply ah | apply au | refine aR ?_ kE.out) | exact HB.out)⟩⟩
                    · rw [if_neg Y1] at H
                      exact absurd H (by simp)
                  · rw [if_neg c40] at H
                    have YZ : (DR == 0) = false := beq_eq_false_iff_ne.mpr c40
                    have Y0 : (DR != 0) = true := bne_iff_ne.mpr c40
                    simp only [Option.some.injEq, Prod.mk.injEq] at H
                    obtain ⟨rfl, rfl⟩ := H
                    have abO : wr.cell? ⟨dL, 0, none⟩ = some (.int .i64 t162) := (aM bT.out 0).trans rfl
                    have abP : wr.cell? ⟨dL, 1, none⟩ = some (.int .i64 kC) := (aM bT.out 1).trans rfl
                    have abQ : wr.cell? ⟨dL, 2, none⟩ = some (.int .i64 t164) := (aM bT.out 2).trans rfl
                    have abR := ay bT.out 0
                    have abS := ay bT.out 1
                    have abT := ay bT.out 2
                    go_wp2_with (first | ((with_reducible refine aQ (f := 118) rfl ?_); refine bP (some 67) rfl rfl Try.func118 (by kernel_rfl) rfl #[.string a0, .int .i64 bQ] rfl (by (try simp only [List.map_toArray, List.map_cons, List.map_nil]); first | done | rfl | (simp only [List.length_drop, List.length_take]; rfl) | (simp only [ByteArray.size_append, Int.natCast_add]; rfl) | (rw [B.dO] <;> first | rfl | omega | (simp only [decide_eq_false_iff_not, decide_eq_true_eq, Int.not_lt, Nat.not_lt, gt_iff_lt] at * <;> omega))) ?_; (with_reducible refine (aU.calls k1 a0 bQ t167 t168 DR _ A39.out).mono ?_); rintro e w' ⟨rfl, ⟨nd, rfl⟩⟩; refine ⟨_, rfl, ?_⟩))
                    go_ret2
                    exact ⟨by first | rfl | (simp [aJ, aK] <;> rfl) | (simp [*, aJ, aK] <;> rfl), by repeat (first | (with_reducible first | exact HB.out | apply ak | apply ah | apply au | refine aR ?_ kE.out) | exact HB.out)⟩
                · rw [if_neg Je] at H
                  have QN : decide (vo < kC) = false := decide_eq_false Je
                  clear Je
                  by_cases LJ : (wrap64 (bQ + t164)) = (wrap64 (a1 + a2))
                  · rw [if_pos LJ] at H
                    have Y2 : ((wrap64 (bQ + t164)) == (wrap64 (a1 + a2))) = true := beq_iff_eq.mpr LJ
                    have Y3 : ((wrap64 (bQ + t164)) != (wrap64 (a1 + a2))) = false := bne_eq_false_iff_eq.mpr LJ
                    (try (have Y4 : (((bQ + t164)) == ((a1 + a2))) = true := by have h_ : ((wrap64 (bQ + t164)) == (wrap64 (a1 + a2))) = true := beq_iff_eq.mpr LJ; rw [B.dO (by omega) (by omega)] at h_; rw [B.dO (by omega) (by omega)] at h_; exact h_))
                    (try (have Y5 : (((bQ + t164)) != ((a1 + a2))) = false := by have h_ : ((wrap64 (bQ + t164)) != (wrap64 (a1 + a2))) = false := bne_eq_false_iff_eq.mpr LJ; rw [B.dO (by omega) (by omega)] at h_; rw [B.dO (by omega) (by omega)] at h_; exact h_))
                    clear LJ
                    by_cases Y6 : 0 ≤ bQ
                    · rw [if_pos Y6] at H
                      have afL := eq_true Y6
                      have afM : decide (0 ≤ bQ) = true := decide_eq_true Y6
                      clear Y6
                      by_cases c46 : bQ ≤ (wrap64 (a1 + a2))
                      · rw [if_pos c46] at H
                        have afN := eq_true c46
                        have afO : decide (bQ ≤ (wrap64 (a1 + a2))) = true := decide_eq_true c46
                        by_cases c47 : (wrap64 (a1 + a2)) ≤ (a0.size : Int)
                        · rw [if_pos c47] at H
                          have afP := eq_true c47
                          have afQ : decide ((wrap64 (a1 + a2)) ≤ (a0.size : Int)) = true := decide_eq_true c47
                          by_cases Y7 : dF.size + (a0.extract (bQ : Int).toNat ((wrap64 (a1 + a2)) : Int).toNat).size ≤ 9223372036854775807
                          · rw [if_pos Y7] at H
                            have afR := eq_true Y7
                            have afS : decide (dF.size + (a0.extract (bQ : Int).toNat ((wrap64 (a1 + a2)) : Int).toNat).size ≤ 9223372036854775807) = true := decide_eq_true Y7
                            try have afT : (9223372036854775807 < dF.size + (a0.extract (bQ : Int).toNat ((wrap64 (a1 + a2)) : Int).toNat).size) = False := eq_false (Nat.not_lt.2 Y7)
                            by_cases c49 : ((dF ++ (a0.extract (bQ : Int).toNat ((wrap64 (a1 + a2)) : Int).toNat)).size : Int) > 65535
                            · rw [if_pos c49] at H
                              have Y8 : decide (65535 < ((dF ++ (a0.extract (bQ : Int).toNat ((wrap64 (a1 + a2)) : Int).toNat)).size : Int)) = true := decide_eq_true c49
                              have Y9 : decide (65535 < (dF ++ (a0.extract (bQ : Int).toNat ((wrap64 (a1 + a2)) : Int).toNat)).size) = true := decide_eq_true (by omega)
                              (try (have Za : decide (65535 < ((dF.size : Int) + ((a0.extract (bQ : Int).toNat ((wrap64 (a1 + a2)) : Int).toNat).size : Int))) = true := by have h_ : decide (65535 < ((dF ++ (a0.extract (bQ : Int).toNat ((wrap64 (a1 + a2)) : Int).toNat)).size : Int)) = true := decide_eq_true c49; rw [show ((dF ++ (a0.extract (bQ : Int).toNat ((wrap64 (a1 + a2)) : Int).toNat)).size : Int) = ((dF.size : Int) + ((a0.extract (bQ : Int).toNat ((wrap64 (a1 + a2)) : Int).toNat).size : Int)) from by (simp only [ByteArray.size_append, Int.natCast_add]; first | done | rfl)] at h_; (first | exact h_ | (simp only [Int.add_sub_cancel] at h_; exact h_))))
                              (try (have Zb : decide (65535 < ((dF.size : Int) + ((((wrap64 (a1 + a2)) : Int).toNat - (bQ : Int).toNat : Nat) : Int))) = true := by have h_ : decide (65535 < ((dF ++ (a0.extract (bQ : Int).toNat ((wrap64 (a1 + a2)) : Int).toNat)).size : Int)) = true := decide_eq_true c49; rw [show ((dF ++ (a0.extract (bQ : Int).toNat ((wrap64 (a1 + a2)) : Int).toNat)).size : Int) = ((dF.size : Int) + ((a0.extract (bQ : Int).toNat ((wrap64 (a1 + a2)) : Int).toNat).size : Int)) from by (simp only [ByteArray.size_append, Int.natCast_add]; first | done | rfl)] at h_; rw [show ((a0.extract (bQ : Int).toNat ((wrap64 (a1 + a2)) : Int).toNat).size : Int) = ((((wrap64 (a1 + a2)) : Int).toNat - (bQ : Int).toNat : Nat) : Int) from by (have h1_ : (wrap64 (a1 + a2)) ≤ (a0.size : Int) := of_decide_eq_true (by assumption); rw [ByteArray.size_extract]; omega)] at h_; exact h_))
                              (try (have Zc : decide (65535 < ((dF ++ (a0.extract (bQ : Int).toNat (((a1 + a2)) : Int).toNat)).size : Int)) = true := by have h_ : decide (65535 < ((dF ++ (a0.extract (bQ : Int).toNat ((wrap64 (a1 + a2)) : Int).toNat)).size : Int)) = true := decide_eq_true c49; rw [B.dO (by omega) (by omega)] at h_; exact h_))
                              (try (have Zd : decide (65535 < (dF ++ (a0.extract (bQ : Int).toNat (((a1 + a2)) : Int).toNat)).size) = true := by have h_ : decide (65535 < (dF ++ (a0.extract (bQ : Int).toNat ((wrap64 (a1 + a2)) : Int).toNat)).size) = true := decide_eq_true (by omega); rw [B.dO (by omega) (by omega)] at h_; exact h_))
                              (try (have Ze : decide (65535 < ((dF.size : Int) + ((a0.extract (bQ : Int).toNat (((a1 + a2)) : Int).toNat).size : Int))) = true := by have h_ : decide (65535 < ((dF.size : Int) + ((a0.extract (bQ : Int).toNat ((wrap64 (a1 + a2)) : Int).toNat).size : Int))) = true := by have h_ : decide (65535 < ((dF ++ (a0.extract (bQ : Int).toNat ((wrap64 (a1 + a2)) : Int).toNat)).size : Int)) = true := decide_eq_true c49; rw [show ((dF ++ (a0.extract (bQ : Int).toNat ((wrap64 (a1 + a2)) : Int).toNat)).size : Int) = ((dF.size : Int) + ((a0.extract (bQ : Int).toNat ((wrap64 (a1 + a2)) : Int).toNat).size : Int)) from by (simp only [ByteArray.size_append, Int.natCast_add]; first | done | rfl)] at h_; (first | exact h_ | (simp only [Int.add_sub_cancel] at h_; exact h_)); rw [B.dO (by omega) (by omega)] at h_; exact h_))
                              (try (have Zf : decide (65535 < ((dF.size : Int) + (((((a1 + a2)) : Int).toNat - (bQ : Int).toNat : Nat) : Int))) = true := by have h_ : decide (65535 < ((dF.size : Int) + ((((wrap64 (a1 + a2)) : Int).toNat - (bQ : Int).toNat : Nat) : Int))) = true := by have h_ : decide (65535 < ((dF ++ (a0.extract (bQ : Int).toNat ((wrap64 (a1 + a2)) : Int).toNat)).size : Int)) = true := decide_eq_true c49; rw [show ((dF ++ (a0.extract (bQ : Int).toNat ((wrap64 (a1 + a2)) : Int).toNat)).size : Int) = ((dF.size : Int) + ((a0.extract (bQ : Int).toNat ((wrap64 (a1 + a2)) : Int).toNat).size : Int)) from by (simp only [ByteArray.size_append, Int.natCast_add]; first | done | rfl)] at h_; rw [show ((a0.extract (bQ : Int).toNat ((wrap64 (a1 + a2)) : Int).toNat).size : Int) = ((((wrap64 (a1 + a2)) : Int).toNat - (bQ : Int).toNat : Nat) : Int) from by (have h1_ : (wrap64 (a1 + a2)) ≤ (a0.size : Int) := of_decide_eq_true (by assumption); rw [ByteArray.size_extract]; omega)] at h_; exact h_; rw [B.dO (by omega) (by omega)] at h_; exact h_))
                              clear c49
                              simp only [Option.some.injEq, Prod.mk.injEq] at H
                              obtain ⟨rfl, rfl⟩ := H
                              have abU : wr.cell? ⟨dL, 0, none⟩ = some (.int .i64 t162) := (aM bT.out 0).trans rfl
                              have abV : wr.cell? ⟨dL, 1, none⟩ = some (.int .i64 kC) := (aM bT.out 1).trans rfl
                              have abW : wr.cell? ⟨dL, 2, none⟩ = some (.int .i64 t164) := (aM bT.out 2).trans rfl
                              have abX := ay bT.out 0
                              have abY := ay bT.out 1
                              have abZ := ay bT.out 2
                              go_wp2
                              go_ret2
                              exact ⟨by first | rfl | (simp [aJ, aK] <;> rfl) | (simp [*, aJ, aK] <;> rfl), by repeat (first | (with_reducible first | exact HB.out | apply ak | apply ah | apply au | refine aR ?_ kE.out) | exact HB.out)⟩
                            · rw [if_neg c49] at H
                              have Y8 : decide (65535 < ((dF ++ (a0.extract (bQ : Int).toNat ((wrap64 (a1 + a2)) : Int).toNat)).size : Int)) = false := decide_eq_false c49
                              have Y9 : decide (65535 < (dF ++ (a0.extract (bQ : Int).toNat ((wrap64 (a1 + a2)) : Int).toNat)).size) = false := decide_eq_false (by omega)
                              (try (have Za : decide (65535 < ((dF.size : Int) + ((a0.extract (bQ : Int).toNat ((wrap64 (a1 + a2)) : Int).toNat).size : Int))) = false := by have h_ : decide (65535 < ((dF ++ (a0.extract (bQ : Int).toNat ((wrap64 (a1 + a2)) : Int).toNat)).size : Int)) = false := decide_eq_false c49; rw [show ((dF ++ (a0.extract (bQ : Int).toNat ((wrap64 (a1 + a2)) : Int).toNat)).size : Int) = ((dF.size : Int) + ((a0.extract (bQ : Int).toNat ((wrap64 (a1 + a2)) : Int).toNat).size : Int)) from by (simp only [ByteArray.size_append, Int.natCast_add]; first | done | rfl)] at h_; (first | exact h_ | (simp only [Int.add_sub_cancel] at h_; exact h_))))
                              (try (have Zb : decide (65535 < ((dF.size : Int) + ((((wrap64 (a1 + a2)) : Int).toNat - (bQ : Int).toNat : Nat) : Int))) = false := by have h_ : decide (65535 < ((dF ++ (a0.extract (bQ : Int).toNat ((wrap64 (a1 + a2)) : Int).toNat)).size : Int)) = false := decide_eq_false c49; rw [show ((dF ++ (a0.extract (bQ : Int).toNat ((wrap64 (a1 + a2)) : Int).toNat)).size : Int) = ((dF.size : Int) + ((a0.extract (bQ : Int).toNat ((wrap64 (a1 + a2)) : Int).toNat).size : Int)) from by (simp only [ByteArray.size_append, Int.natCast_add]; first | done | rfl)] at h_; rw [show ((a0.extract (bQ : Int).toNat ((wrap64 (a1 + a2)) : Int).toNat).size : Int) = ((((wrap64 (a1 + a2)) : Int).toNat - (bQ : Int).toNat : Nat) : Int) from by (have h1_ : (wrap64 (a1 + a2)) ≤ (a0.size : Int) := of_decide_eq_true (by assumption); rw [ByteArray.size_extract]; omega)] at h_; exact h_))
                              (try (have Zc : decide (65535 < ((dF ++ (a0.extract (bQ : Int).toNat (((a1 + a2)) : Int).toNat)).size : Int)) = false := by have h_ : decide (65535 < ((dF ++ (a0.extract (bQ : Int).toNat ((wrap64 (a1 + a2)) : Int).toNat)).size : Int)) = false := decide_eq_false c49; rw [B.dO (by omega) (by omega)] at h_; exact h_))
                              (try (have Zd : decide (65535 < (dF ++ (a0.extract (bQ : Int).toNat (((a1 + a2)) : Int).toNat)).size) = false := by have h_ : decide (65535 < (dF ++ (a0.extract (bQ : Int).toNat ((wrap64 (a1 + a2)) : Int).toNat)).size) = false := decide_eq_false (by omega); rw [B.dO (by omega) (by omega)] at h_; exact h_))
                              (try (have Ze : decide (65535 < ((dF.size : Int) + ((a0.extract (bQ : Int).toNat (((a1 + a2)) : Int).toNat).size : Int))) = false := by have h_ : decide (65535 < ((dF.size : Int) + ((a0.extract (bQ : Int).toNat ((wrap64 (a1 + a2)) : Int).toNat).size : Int))) = false := by have h_ : decide (65535 < ((dF ++ (a0.extract (bQ : Int).toNat ((wrap64 (a1 + a2)) : Int).toNat)).size : Int)) = false := decide_eq_false c49; rw [show ((dF ++ (a0.extract (bQ : Int).toNat ((wrap64 (a1 + a2)) : Int).toNat)).size : Int) = ((dF.size : Int) + ((a0.extract (bQ : Int).toNat ((wrap64 (a1 + a2)) : Int).toNat).size : Int)) from by (simp only [ByteArray.size_append, Int.natCast_add]; first | done | rfl)] at h_; (first | exact h_ | (simp only [Int.add_sub_cancel] at h_; exact h_)); rw [B.dO (by omega) (by omega)] at h_; exact h_))
                              (try (have Zf : decide (65535 < ((dF.size : Int) + (((((a1 + a2)) : Int).toNat - (bQ : Int).toNat : Nat) : Int))) = false := by have h_ : decide (65535 < ((dF.size : Int) + ((((wrap64 (a1 + a2)) : Int).toNat - (bQ : Int).toNat : Nat) : Int))) = false := by have h_ : decide (65535 < ((dF ++ (a0.extract (bQ : Int).toNat ((wrap64 (a1 + a2)) : Int).toNat)).size : Int)) = false := decide_eq_false c49; rw [show ((dF ++ (a0.extract (bQ : Int).toNat ((wrap64 (a1 + a2)) : Int).toNat)).size : Int) = ((dF.size : Int) + ((a0.extract (bQ : Int).toNat ((wrap64 (a1 + a2)) : Int).toNat).size : Int)) from by (simp only [ByteArray.size_append, Int.natCast_add]; first | done | rfl)] at h_; rw [show ((a0.extract (bQ : Int).toNat ((wrap64 (a1 + a2)) : Int).toNat).size : Int) = ((((wrap64 (a1 + a2)) : Int).toNat - (bQ : Int).toNat : Nat) : Int) from by (have h1_ : (wrap64 (a1 + a2)) ≤ (a0.size : Int) := of_decide_eq_true (by assumption); rw [ByteArray.size_extract]; omega)] at h_; exact h_; rw [B.dO (by omega) (by omega)] at h_; exact h_))
                              clear c49
                              simp only [Option.some.injEq, Prod.mk.injEq] at H
                              obtain ⟨rfl, rfl⟩ := H
                              have ab0 : wr.cell? ⟨dL, 0, none⟩ = some (.int .i64 t162) := (aM bT.out 0).trans rfl
                              have ab1 : wr.cell? ⟨dL, 1, none⟩ = some (.int .i64 kC) := (aM bT.out 1).trans rfl
                              have ab2 : wr.cell? ⟨dL, 2, none⟩ = some (.int .i64 t164) := (aM bT.out 2).trans rfl
                              have ab3 := ay bT.out 0
                              have ab4 := ay bT.out 1
                              have ab5 := ay bT.out 2
                              go_wp2
                              go_ret2
                              exact ⟨by first | rfl | (simp [aJ, aK] <;> rfl) | (simp [*, aJ, aK] <;> rfl), by repeat (first | (with_reducible first | exact HB.out | apply ak | apply ah | apply au | refine aR ?_ kE.out) | exact HB.out)⟩
                          · rw [if_neg Y7] at H
                            exact absurd H (by simp)
                        · rw [if_neg c47] at H
                          exact absurd H (by simp)
                      · rw [if_neg c46] at H
                        exact absurd H (by simp)
                    · rw [if_neg Y6] at H
                      exact absurd H (by simp)
                  · rw [if_neg LJ] at H
                    have Y2 : ((wrap64 (bQ + t164)) == (wrap64 (a1 + a2))) = false := beq_eq_false_iff_ne.mpr LJ
                    have Y3 : ((wrap64 (bQ + t164)) != (wrap64 (a1 + a2))) = true := bne_iff_ne.mpr LJ
                    (try (have Y4 : (((bQ + t164)) == ((a1 + a2))) = false := by have h_ : ((wrap64 (bQ + t164)) == (wrap64 (a1 + a2))) = false := beq_eq_false_iff_ne.mpr LJ; rw [B.dO (by omega) (by omega)] at h_; rw [B.dO (by omega) (by omega)] at h_; exact h_))
                    (try (have Y5 : (((bQ + t164)) != ((a1 + a2))) = true := by have h_ : ((wrap64 (bQ + t164)) != (wrap64 (a1 + a2))) = true := bne_iff_ne.mpr LJ; rw [B.dO (by omega) (by omega)] at h_; rw [B.dO (by omega) (by omega)] at h_; exact h_))
                    simp only [Option.some.injEq, Prod.mk.injEq] at H
                    obtain ⟨rfl, rfl⟩ := H
                    have ab6 : wr.cell? ⟨dL, 0, none⟩ = some (.int .i64 t162) := (aM bT.out 0).trans rfl
                    have ab7 : wr.cell? ⟨dL, 1, none⟩ = some (.int .i64 kC) := (aM bT.out 1).trans rfl
                    have ab8 : wr.cell? ⟨dL, 2, none⟩ = some (.int .i64 t164) := (aM bT.out 2).trans rfl
                    have ab9 := ay bT.out 0
                    have acd := ay bT.out 1
                    have ace := ay bT.out 2
                    go_wp2
                    go_ret2
                    exact ⟨by first | rfl | (simp [aJ, aK] <;> rfl) | (simp [*, aJ, aK] <;> rfl), by repeat (first | (with_reducible first | exact HB.out | apply ak | apply ah | apply au | refine aR ?_ kE.out) | exact HB.out)⟩
          · rw [if_neg c34] at H
            exact absurd H (by simp)
        · rw [if_neg Nb] at H
          exact absurd H (by simp)
  · replace c6 := Bool.eq_false_iff.mpr c6
    subst c6
    have H1 : (some ((⟨#[]⟩ : ByteArray), 2)) = some (r1, r2) := by rw [if_neg (show ¬ (false = true) by decide)] at H; exact H
    clear H
    have H := H1
    clear H1
    simp only [Option.some.injEq, Prod.mk.injEq] at H
    obtain ⟨rfl, rfl⟩ := H
    go_enter Try.func104, Try.ntmps104
    go_wp2_with (first | ((with_reducible refine aQ (f := 99) rfl ?_); refine bP (some 23) rfl rfl Try.func99 (by kernel_rfl) rfl #[.string a0, .int .i64 a1, .int .i64 a2] rfl (by (try simp only [List.map_toArray, List.map_cons, List.map_nil]); first | done | rfl | (simp only [List.length_drop, List.length_take]; rfl) | (simp only [ByteArray.size_append, Int.natCast_add]; rfl) | (rw [B.dO] <;> first | rfl | omega | (simp only [decide_eq_false_iff_not, decide_eq_true_eq, Int.not_lt, Nat.not_lt, gt_iff_lt] at * <;> omega))) ?_; (with_reducible refine (bC.calls a0 a1 a2 t160 false _ A5.out).mono ?_); rintro e w' ⟨rfl, ⟨nd, rfl⟩⟩; refine ⟨_, rfl, ?_⟩))
    go_ret2
    exact ⟨by first | rfl | (simp [aJ, aK] <;> rfl) | (simp [*, aJ, aK] <;> rfl), by repeat (first | (with_reducible first | exact HB.out | apply ak | apply ah | apply au) | exact HB.out)⟩
def bR.f (k : Nat) (a0 : Int) (a1 : ByteArray) : Option (Bool) := if (a1.size : Int) > 65535 then (some false) else ((aX.f k a1 0 (a1.size : Int) a0).bind fun DT => (if DT.2 = 0 then (some (DT.1.toList == a1.toList)) else (some false)))
set_option maxHeartbeats 8000000 in
set_option maxRecDepth 100000 in
theorem bR.calls (k : Nat) (a0 : Int) (a1 : ByteArray) (r : Bool) (w : World) (h : bR.f k a0 a1 = some r) :
    Calls Try.prog 83 #[.int .i64 a0, .string a1] w fun e w' => e = .returned (.bool r) ∧ Below w.heap.size w w' := by
  have HB := aj.mk (Below.refl w.heap.size w)
  have H : (if (a1.size : Int) > 65535 then (some false) else ((aX.f k a1 0 (a1.size : Int) a0).bind fun DT => (if DT.2 = 0 then (some (DT.1.toList == a1.toList)) else (some false)))) = some r := h
  clear h
  by_cases c3 : (a1.size : Int) > 65535
  · rw [if_pos c3] at H
    have ql : decide (65535 < (a1.size : Int)) = true := decide_eq_true c3
    have Bj : decide (65535 < a1.size) = true := decide_eq_true (by omega)
    clear c3
    obtain rfl := Option.some.inj H
    go_enter Try.func83, Try.ntmps83
    go_wp2
    go_ret
    exact ⟨by first | rfl | (simp [aJ, aK] <;> rfl) | (simp [*, aJ, aK] <;> rfl), by repeat (first | (with_reducible first | exact HB.out | apply ak | apply ah | apply au) | exact HB.out)⟩
  · rw [if_neg c3] at H
    have ql : decide (65535 < (a1.size : Int)) = false := decide_eq_false c3
    have Bj : decide (65535 < a1.size) = false := decide_eq_false (by omega)
    clear c3
    replace H := zbm H
    obtain ⟨⟨Ua, t171⟩, Dy, H⟩ := H
    replace H : (if t171 = 0 then (some (Ua.toList == a1.toList)) else (some false)) = some r := H
    have A4 := aj.mk Dy
    clear Dy
    by_cases c5 : t171 = 0
    · rw [if_pos c5] at H
      have oM : (t171 == 0) = true := beq_iff_eq.mpr c5
      have uJ : (t171 != 0) = false := bne_eq_false_iff_eq.mpr c5
      clear c5
      obtain rfl := Option.some.inj H
      go_enter Try.func83, Try.ntmps83
      go_wp2_with (first | ((with_reducible refine aQ (f := 104) rfl ?_); refine bP (some 15) rfl rfl Try.func104 (by kernel_rfl) rfl #[.string a1, .int .i64 0, .int .i64 (a1.size : Int), .int .i64 a0] rfl (by (try simp only [List.map_toArray, List.map_cons, List.map_nil]); first | done | rfl | (simp only [List.length_drop, List.length_take]; rfl) | (simp only [ByteArray.size_append, Int.natCast_add]; rfl) | (rw [B.dO] <;> first | rfl | omega | (simp only [decide_eq_false_iff_not, decide_eq_true_eq, Int.not_lt, Nat.not_lt, gt_iff_lt] at * <;> omega))) ?_; (with_reducible refine (aX.calls k a1 0 (a1.size : Int) a0 Ua t171 _ A4.out).mono ?_); rintro e w6 ⟨rfl, hb⟩; refine ⟨_, rfl, ?_⟩; have dY := aj.mk (bE (by repeat (first | (with_reducible first | exact HB.out | apply ak | apply ah | apply au) | exact HB.out)) hb); clear HB; have HB := dY; clear dY; (try clear hb); (try clear hb2); (try clear hk); (try clear hi)))
      go_ret
      exact ⟨by first | rfl | (simp [aJ, aK] <;> rfl) | (simp [*, aJ, aK] <;> rfl), by repeat (first | (with_reducible first | exact HB.out | apply ak | apply ah | apply au) | exact HB.out)⟩
    · rw [if_neg c5] at H
      have oM : (t171 == 0) = false := beq_eq_false_iff_ne.mpr c5
      have uJ : (t171 != 0) = true := bne_iff_ne.mpr c5
      obtain rfl := Option.some.inj H
      go_enter Try.func83, Try.ntmps83
      go_wp2_with (first | ((with_reducible refine aQ (f := 104) rfl ?_); refine bP (some 15) rfl rfl Try.func104 (by kernel_rfl) rfl #[.string a1, .int .i64 0, .int .i64 (a1.size : Int), .int .i64 a0] rfl (by (try simp only [List.map_toArray, List.map_cons, List.map_nil]); first | done | rfl | (simp only [List.length_drop, List.length_take]; rfl) | (simp only [ByteArray.size_append, Int.natCast_add]; rfl) | (rw [B.dO] <;> first | rfl | omega | (simp only [decide_eq_false_iff_not, decide_eq_true_eq, Int.not_lt, Nat.not_lt, gt_iff_lt] at * <;> omega))) ?_; (with_reducible refine (aX.calls k a1 0 (a1.size : Int) a0 Ua t171 _ A4.out).mono ?_); rintro e w7 ⟨rfl, hb⟩; refine ⟨_, rfl, ?_⟩; have dY := aj.mk (bE (by repeat (first | (with_reducible first | exact HB.out | apply ak | apply ah | apply au) | exact HB.out)) hb); clear HB; have HB := dY; clear dY; (try clear hb); (try clear hb2); (try clear hk); (try clear hi)))
      go_ret
      exact ⟨by first | rfl | (simp [aJ, aK] <;> rfl) | (simp [*, aJ, aK] <;> rfl), by repeat (first | (with_reducible first | exact HB.out | apply ak | apply ah | apply au) | exact HB.out)⟩
def bg.l0 : Nat → ByteArray → List ByteArray → Int → Int → Int → Int → Int → Option (List ByteArray)
  | 0, _, _, _, _, _, _, _ => none
  | k + 1, x1, x5, x7, x8, Pg, GQ, Ph => if x8 < GQ then ((aU.f k x1 x7).bind fun QT => (if x5.length < 8796093022208 then (bg.l0 k x1 (x5 ++ [QT.1]) QT.2.1 (wrap64 (x8 + 1)) Pg GQ Ph) else (none))) else (some x5)
def bg.f (k : Nat) (a0 : Int) (a1 : ByteArray) : Option (List ByteArray) := (bR.f k a0 a1).bind fun IK => (if IK = true then ((aH.f k a0).bind fun kD => (bg.l0 k a1 ([] : List ByteArray) kD.1 0 kD.1 kD.2.1 kD.2.2)) else (some ([] : List ByteArray)))
set_option maxHeartbeats 8000000 in
set_option maxRecDepth 100000 in
theorem bg.calls (k : Nat) (a0 : Int) (a1 : ByteArray) (r : List ByteArray) (w : World) (h : bg.f k a0 a1 = some r) :
    Calls Try.prog 105 #[.int .i64 a0, .string a1] w fun e w' => ∃ QD : Value, e = .returned (QD) ∧ Kd.R Kd.string 9 w' w.heap.size (fun _ => True) QD r ∧ Below w.heap.size w w' := by
  have Lu := Try.underlying142
  have HB := aj.mk (Below.refl w.heap.size w)
  have H : ((bR.f k a0 a1).bind fun IK => (if IK = true then ((aH.f k a0).bind fun kD => (bg.l0 k a1 ([] : List ByteArray) kD.1 0 kD.1 kD.2.1 kD.2.2)) else (some ([] : List ByteArray)))) = some r := h
  clear h
  replace H := zbm H
  obtain ⟨IK, QH, H⟩ := H
  replace H : (if IK = true then ((aH.f k a0).bind fun kD => (bg.l0 k a1 ([] : List ByteArray) kD.1 0 kD.1 kD.2.1 kD.2.2)) else (some ([] : List ByteArray))) = some r := H
  have A3 := aj.mk QH
  clear QH
  by_cases c4 : IK = true
  · subst c4
    have H1 : ((aH.f k a0).bind fun kD => (bg.l0 k a1 ([] : List ByteArray) kD.1 0 kD.1 kD.2.1 kD.2.2)) = some r := by rw [if_pos rfl] at H; exact H
    clear H
    have H := H1
    clear H1
    replace H := zbm H
    obtain ⟨⟨t173, uK, t175⟩, QO, H⟩ := H
    replace H : (bg.l0 k a1 ([] : List ByteArray) t173 0 t173 uK t175) = some r := H
    have A5 := aj.mk QO
    clear QO
    have H' := aj.mk H
    clear H
    go_enter Try.func105, Try.ntmps105
    go_wp2_with (first | ((with_reducible refine aQ (f := 83) rfl ?_); refine bP (some 14) rfl rfl Try.func83 (by kernel_rfl) rfl #[.int .i64 a0, .string a1] rfl (by (try simp only [List.map_toArray, List.map_cons, List.map_nil]); first | done | rfl | (simp only [List.length_drop, List.length_take]; rfl) | (simp only [ByteArray.size_append, Int.natCast_add]; rfl) | (rw [B.dO] <;> first | rfl | omega | (simp only [decide_eq_false_iff_not, decide_eq_true_eq, Int.not_lt, Nat.not_lt, gt_iff_lt] at * <;> omega))) ?_; (with_reducible refine (bR.calls k a0 a1 true _ A3.out).mono ?_); rintro e w6 ⟨rfl, hb⟩; refine ⟨_, rfl, ?_⟩; have dY := aj.mk (bE (by repeat (first | (with_reducible first | exact HB.out | apply ak | apply ah | apply au) | exact HB.out)) hb); clear HB; have HB := dY; clear dY; (try clear hb); (try clear hb2); (try clear hk); (try clear hi)) | ((with_reducible refine aQ (f := 106) rfl ?_); refine bP (some 17) rfl rfl Try.func106 (by kernel_rfl) rfl #[.int .i64 a0] rfl (by (try simp only [List.map_toArray, List.map_cons, List.map_nil]); first | done | rfl | (simp only [List.length_drop, List.length_take]; rfl) | (simp only [ByteArray.size_append, Int.natCast_add]; rfl) | (rw [B.dO] <;> first | rfl | omega | (simp only [decide_eq_false_iff_not, decide_eq_true_eq, Int.not_lt, Nat.not_lt, gt_iff_lt] at * <;> omega))) ?_; (with_reducible refine (aH.calls k a0 t173 uK t175 _ A5.out).mono ?_); rintro e w7 ⟨rfl, hb⟩; refine ⟨_, rfl, ?_⟩; have dY := aj.mk (bE (by repeat (first | (with_reducible first | exact HB.out | apply ak | apply ah | apply au) | exact HB.out)) hb); clear HB; have HB := dY; clear dY; (try clear hb); (try clear hb2); (try clear hk); (try clear hi)) | ((with_reducible refine gD (N := 6) rfl ?_); refine fO ?hg (N := 6) ?hd (cs := #[.int .i64 0, .int .i64 0, .int .i64 0]) (t := 142) ?hr ?_; (case hd => rfl); (case hg => rfl); (case hr => first | (go_simp; done) | (go_simp; rfl)); intro nD hg w8 gT hb; have dY := aj.mk (bE (by repeat (first | (with_reducible first | exact HB.out | apply ak | apply ah | apply au) | exact HB.out)) hb); have gW := aj.mk (gT); have iY := aj.mk ((by rw [hg]; exact (bL (by repeat (first | (with_reducible first | exact HB.out | apply ak | apply ah | apply au) | exact HB.out))) : w.heap.size ≤ nD)); have jF := aj.mk ((by rw [hg]; exact (bL (by repeat (first | (with_reducible first | exact HB.out | apply ak | apply ah | apply au) | exact HB.out))) : w.heap.size ≤ nD)); clear HB; have HB := dY; have iT := gW; have afU := iY; have DU := jF; clear dY gW iY jF; clear hb gT hg; have Lv : w8.cell? ⟨nD, 0, none⟩ = some (.int .i64 0) := (aM iT.out 0).trans rfl; have Lx : w8.cell? ⟨nD, 1, none⟩ = some (.int .i64 0) := (aM iT.out 1).trans rfl; have LA : w8.cell? ⟨nD, 2, none⟩ = some (.int .i64 0) := (aM iT.out 2).trans rfl; have LB := ay iT.out 0; have LC := ay iT.out 1; have LD := ay iT.out 2))
    go_loopg [5, 7, 8] k (fun kq v5 v7 v8 w' => ∃ (DV : List ByteArray) (dJ : Int) (gF : Int), v7 = .int .i64 dJ ∧ v8 = .int .i64 gF ∧ aj (bg.l0 kq a1 DV dJ gF t173 uK t175 = some r) ∧ aj (kq ≤ k) ∧ aj (Kd.R Kd.string 9 w' w.heap.size (fun _ => True) v5 DV) ∧ aj (w'.heap[nD]? = some (.cells #[.int .i64 t173, .int .i64 uK, .int .i64 t175] 142 (0, 0))) ∧ aj (Below w.heap.size w w'))
    case atStart => exact ⟨(([] : List ByteArray)), (t173), (0), (by first | rfl | (simp; done) | (simp [*]; done) | (simp [B.aV]; done) | (simp [B.aW]; done)), (by first | rfl | (simp; done) | (simp [*]; done) | (simp [B.aV]; done) | (simp [B.aW]; done)), H', ⟨Nat.le_refl _⟩, ⟨by first | exact Kd.jA _ _ _ _ _ | exact Kd.kR _ _ _ _ _ | exact Kd.kS _ _ _ _ _ | exact Kd.kP _ _ _ _ _ | exact Kd.kQ _ _ _ _ _⟩, ⟨by (with_reducible repeat (first | refine aG ?_ _ | refine aI ?_ | refine aA ?_ _)); refine bU (cs := #[.int .i64 t173, .int .i64 uK, .int .i64 0]) ?_ 2 _ rfl; (with_reducible repeat (first | refine aG ?_ _ | refine aI ?_ | refine aA ?_ _)); refine bU (cs := #[.int .i64 t173, .int .i64 0, .int .i64 0]) ?_ 1 _ rfl; (with_reducible repeat (first | refine aG ?_ _ | refine aI ?_ | refine aA ?_ _)); refine bU (cs := #[.int .i64 0, .int .i64 0, .int .i64 0]) ?_ 0 _ rfl; (with_reducible repeat (first | refine aG ?_ _ | refine aI ?_ | refine aA ?_ _)); exact iT.out⟩, ⟨by repeat (first | (with_reducible first | exact HB.out | apply ak | apply ah | apply au | refine aR ?_ DU.out) | exact HB.out)⟩⟩
    case round =>
      clear H'
      try clear c1
      try clear p2
      try clear c4
      try clear c8
      try clear Lv
      try clear Lx
      try clear LA
      try clear LB
      try clear LC
      try clear LD
      obtain ⟨DV, dJ, gF, rfl, rfl, HA, sW, uL, iT, HB⟩ := hrel
      cases gk with
      | zero => exact absurd HA.out (by simp [bg.l0])
      | succ k1 =>
        have H := HA.out
        clear HA
        simp only [bg.l0] at H
        by_cases c10 : gF < uK
        · rw [if_pos c10] at H
          have qE : decide (gF < uK) = true := decide_eq_true c10
          clear c10
          replace H := zbm H
          obtain ⟨⟨LK, Pj, adU⟩, Zg, H⟩ := H
          replace H : (if DV.length < 8796093022208 then (bg.l0 k1 a1 (DV ++ [LK]) Pj (wrap64 (gF + 1)) t173 uK t175) else (none)) = some r := H
          have A11 := aj.mk Zg
          clear Zg
          by_cases c12 : DV.length < 8796093022208
          · rw [if_pos c12] at H
            have Zh := aj.mk c12
            clear c12
            obtain ⟨Zi, DW⟩ : ∃ y_ : List ByteArray, y_ = (DV ++ [LK]) := ⟨_, rfl⟩
            replace H : (bg.l0 k1 a1 Zi Pj (wrap64 (gF + 1)) t173 uK t175) = some r := by first | (rw [DW]; with_reducible exact H) | (have EU := (Option.bind_some _ _).symm.trans H; rw [DW]; with_reducible exact EU) | (have EU := (Option.bind_some _ _).symm.trans H; with_reducible exact EU) | with_reducible exact H | (rw [DW]; exact H) | exact H
            have Zj := aj.mk DW
            clear DW
            have H' := aj.mk H
            clear H
            have Bq : wr.cell? ⟨nD, 0, none⟩ = some (.int .i64 t173) := (aM iT.out 0).trans rfl
            have Bt : wr.cell? ⟨nD, 1, none⟩ = some (.int .i64 uK) := (aM iT.out 1).trans rfl
            have Bu : wr.cell? ⟨nD, 2, none⟩ = some (.int .i64 t175) := (aM iT.out 2).trans rfl
            have Bv := ay iT.out 0
            have Bw := ay iT.out 1
            have Bz := ay iT.out 2
            go_wp2_with (first | ((with_reducible refine aQ (f := 118) rfl ?_); refine bP (some 29) rfl rfl Try.func118 (by kernel_rfl) rfl #[.string a1, .int .i64 dJ] rfl (by (try simp only [List.map_toArray, List.map_cons, List.map_nil]); first | done | rfl | (simp only [List.length_drop, List.length_take]; rfl) | (simp only [ByteArray.size_append, Int.natCast_add]; rfl) | (rw [B.dO] <;> first | rfl | omega | (simp only [decide_eq_false_iff_not, decide_eq_true_eq, Int.not_lt, Nat.not_lt, gt_iff_lt] at * <;> omega))) ?_; (with_reducible refine (aU.calls k1 a1 dJ LK Pj adU _ A11.out).mono ?_); rintro e w' ⟨rfl, ⟨nd, rfl⟩⟩; refine ⟨_, rfl, ?_⟩) | ((with_reducible refine nN (b := .append) (xs := #[.tmp 33, .tmp 35]) rfl ?_); at_builtin; refine Kd.xD Kd.string (w0 := w) w.heap.size rfl (.tmp 33) (.tmp 35) 33 9 (.string ⟨#[]⟩) 16 rfl Try.underlying33 Gf rfl (by decide) (by omega) u5 DV LK [.string LK] (fun _ => True) (fun _ => False) rfl rfl ?aP (fun _ hk => hk.elim) ?aF ?aO ?aB ?aS ?aL ?_; (case aP => exact rfl); (case aB => exact (by repeat (first | (with_reducible first | exact HB.out | apply ak | apply ah | apply au | refine aR ?_ DU.out) | exact HB.out))); (case aF => exact (fun _ _ => trivial)); (case aO => exact (by (with_reducible repeat (first | apply Kd.eX | apply Kd.fF | apply Kd.fP)); exact uL.out)); (case aS => exact (bL (by repeat (first | (with_reducible first | exact HB.out | apply ak | apply ah | apply au | refine aR ?_ DU.out) | exact HB.out)))); (case aL => have := Zh.out; omega); intro agi w14 ho hb hg hat; rw [← Zj.out] at ho; have dY := aj.mk (pG (g := nD) (o := .cells #[.int .i64 t173, .int .i64 uK, .int .i64 t175] 142 (0, 0)) (by (with_reducible repeat (first | refine aG ?_ _ | refine aI ?_ | refine aA ?_ _)); exact iT.out) hg (Kd.NR uL.out iT.out (by decide))); have gW := aj.mk (hb); have iY := aj.mk (ho); clear iT; clear HB; clear uL; have iT := dY; have HB := gW; have Zk := iY; clear dY gW iY; clear ho hb hg hat))
            go_roundg k1
            case measure => have := sW.out; omega
            case rel => exact ⟨(Zi), (Pj), (wrap64 (gF + 1)), (by first | rfl | (simp; done) | (simp [*]; done) | (simp [B.aV]; done) | (simp [B.aW]; done)), (by first | rfl | (simp; done) | (simp [*]; done) | (simp [B.aV]; done) | (simp [B.aW]; done)), H', ⟨by have := sW.out; omega⟩, ⟨by (with_reducible repeat (first | apply Kd.eX | apply Kd.fF | apply Kd.fP)); exact Zk.out⟩, ⟨by (with_reducible repeat (first | refine aG ?_ _ | refine aI ?_ | refine aA ?_ _)); exact iT.out⟩, ⟨by repeat (first | (with_reducible first | exact HB.out | apply ak | apply ah | apply au | refine aR ?_ DU.out) | exact HB.out)⟩⟩
          · rw [if_neg c12] at H
            exact absurd H (by simp)
        · rw [if_neg c10] at H
          have qE : decide (gF < uK) = false := decide_eq_false c10
          clear c10
          obtain rfl := Option.some.inj H
          have BA : wr.cell? ⟨nD, 0, none⟩ = some (.int .i64 t173) := (aM iT.out 0).trans rfl
          have BD : wr.cell? ⟨nD, 1, none⟩ = some (.int .i64 uK) := (aM iT.out 1).trans rfl
          have BF : wr.cell? ⟨nD, 2, none⟩ = some (.int .i64 t175) := (aM iT.out 2).trans rfl
          have BG := ay iT.out 0
          have BH := ay iT.out 1
          have BI := ay iT.out 2
          go_wp2
          go_ret
          exact ⟨_, by first | rfl | (simp [aJ, aK] <;> rfl) | (simp [*, aJ, aK] <;> rfl), by (with_reducible repeat (first | apply Kd.eX | apply Kd.fF | apply Kd.fP)); exact uL.out, by repeat (first | (with_reducible first | exact HB.out | apply ak | apply ah | apply au | refine aR ?_ DU.out) | exact HB.out)⟩
  · replace c4 := Bool.eq_false_iff.mpr c4
    subst c4
    have H1 : (some ([] : List ByteArray)) = some r := by rw [if_neg (show ¬ (false = true) by decide)] at H; exact H
    clear H
    have H := H1
    clear H1
    obtain rfl := Option.some.inj H
    go_enter Try.func105, Try.ntmps105
    go_wp2_with (first | ((with_reducible refine aQ (f := 83) rfl ?_); refine bP (some 14) rfl rfl Try.func83 (by kernel_rfl) rfl #[.int .i64 a0, .string a1] rfl (by (try simp only [List.map_toArray, List.map_cons, List.map_nil]); first | done | rfl | (simp only [List.length_drop, List.length_take]; rfl) | (simp only [ByteArray.size_append, Int.natCast_add]; rfl) | (rw [B.dO] <;> first | rfl | omega | (simp only [decide_eq_false_iff_not, decide_eq_true_eq, Int.not_lt, Nat.not_lt, gt_iff_lt] at * <;> omega))) ?_; (with_reducible refine (bR.calls k a0 a1 false _ A3.out).mono ?_); rintro e w16 ⟨rfl, hb⟩; refine ⟨_, rfl, ?_⟩; have dY := aj.mk (bE (by repeat (first | (with_reducible first | exact HB.out | apply ak | apply ah | apply au) | exact HB.out)) hb); clear HB; have HB := dY; clear dY; (try clear hb); (try clear hb2); (try clear hk); (try clear hi)))
    go_ret
    exact ⟨_, by first | rfl | (simp [aJ, aK] <;> rfl) | (simp [*, aJ, aK] <;> rfl), by first | exact Kd.jA _ _ _ _ _ | exact Kd.kR _ _ _ _ _ | exact Kd.kS _ _ _ _ _ | exact Kd.kP _ _ _ _ _ | exact Kd.kQ _ _ _ _ _, by repeat (first | (with_reducible first | exact HB.out | apply ak | apply ah | apply au) | exact HB.out)⟩
def bG.l0 : Nat → ByteArray → List ByteArray → ByteArray → Int → Int → Option (ByteArray)
  | 0, _, _, _, _, _ => none
  | k + 1, x1, x5, x7, x8, x9 => if x9 < (x5.length : Int) then (if 0 ≤ x9 then ((fu.f k (oG ByteArray.empty x5 x9)).bind fun y7 => (if x7.size + y7.size ≤ 9223372036854775807 then (bG.l0 k x1 x5 (x7 ++ y7) (wrap64 (x8 + ((oG ByteArray.empty x5 x9).size : Int))) (wrap64 (x9 + 1))) else (none))) else (none)) else (if 0 ≤ x8 then (if x8 ≤ (x1.size : Int) then (if x7.size + (x1.extract (x8 : Int).toNat x1.size).size ≤ 9223372036854775807 then (some (x7 ++ (x1.extract (x8 : Int).toNat x1.size))) else (none)) else (none)) else (none))
def bG.f (k : Nat) (a0 : Int) (a1 : ByteArray) : Option (ByteArray) := (bR.f k a0 a1).bind fun t183 => (if t183 = true then ((bg.f k a0 a1).bind fun l9 => ((aH.f k a0).bind fun iX => (if 0 ≤ iX.1 then (if iX.1 ≤ (a1.size : Int) then (bG.l0 k a1 l9 (a1.extract 0 (iX.1 : Int).toNat) iX.1 0) else (none)) else (none)))) else (some (⟨#[]⟩ : ByteArray)))
set_option maxHeartbeats 8000000 in
set_option maxRecDepth 100000 in
theorem bG.calls (k : Nat) (a0 : Int) (a1 : ByteArray) (r : ByteArray) (w : World) (h : bG.f k a0 a1 = some r) :
    Calls Try.prog 84 #[.int .i64 a0, .string a1] w fun e w' => e = .returned (.string r) ∧ Below w.heap.size w w' := by
  have Lu := Try.underlying142
  have HB := aj.mk (Below.refl w.heap.size w)
  have H : ((bR.f k a0 a1).bind fun t183 => (if t183 = true then ((bg.f k a0 a1).bind fun l9 => ((aH.f k a0).bind fun iX => (if 0 ≤ iX.1 then (if iX.1 ≤ (a1.size : Int) then (bG.l0 k a1 l9 (a1.extract 0 (iX.1 : Int).toNat) iX.1 0) else (none)) else (none)))) else (some (⟨#[]⟩ : ByteArray)))) = some r := h
  clear h
  replace H := zbm H
  obtain ⟨t183, QH, H⟩ := H
  replace H : (if t183 = true then ((bg.f k a0 a1).bind fun l9 => ((aH.f k a0).bind fun iX => (if 0 ≤ iX.1 then (if iX.1 ≤ (a1.size : Int) then (bG.l0 k a1 l9 (a1.extract 0 (iX.1 : Int).toNat) iX.1 0) else (none)) else (none)))) else (some (⟨#[]⟩ : ByteArray))) = some r := H
  have A3 := aj.mk QH
  clear QH
  by_cases c4 : t183 = true
  · subst c4
    have H1 : ((bg.f k a0 a1).bind fun l9 => ((aH.f k a0).bind fun iX => (if 0 ≤ iX.1 then (if iX.1 ≤ (a1.size : Int) then (bG.l0 k a1 l9 (a1.extract 0 (iX.1 : Int).toNat) iX.1 0) else (none)) else (none)))) = some r := by rw [if_pos rfl] at H; exact H
    clear H
    have H := H1
    clear H1
    replace H := zbm H
    obtain ⟨l9, QO, H⟩ := H
    replace H : ((aH.f k a0).bind fun iX => (if 0 ≤ iX.1 then (if iX.1 ≤ (a1.size : Int) then (bG.l0 k a1 l9 (a1.extract 0 (iX.1 : Int).toNat) iX.1 0) else (none)) else (none))) = some r := H
    have A5 := aj.mk QO
    clear QO
    replace H := zbm H
    obtain ⟨⟨qp, LM, Pk⟩, A60, H⟩ := H
    replace H : (if 0 ≤ qp then (if qp ≤ (a1.size : Int) then (bG.l0 k a1 l9 (a1.extract 0 (qp : Int).toNat) qp 0) else (none)) else (none)) = some r := H
    have A6 := aj.mk A60
    clear A60
    by_cases c7 : 0 ≤ qp
    · rw [if_pos c7] at H
      have tJ := eq_true c7
      have Iy : decide (0 ≤ qp) = true := decide_eq_true c7
      clear c7
      by_cases c8 : qp ≤ (a1.size : Int)
      · rw [if_pos c8] at H
        have qU := eq_true c8
        have qV : decide (qp ≤ (a1.size : Int)) = true := decide_eq_true c8
        clear c8
        have H' := aj.mk H
        clear H
        go_enter Try.func84, Try.ntmps84
        go_wp2_with (first | ((with_reducible refine aQ (f := 83) rfl ?_); refine bP (some 12) rfl rfl Try.func83 (by kernel_rfl) rfl #[.int .i64 a0, .string a1] rfl (by (try simp only [List.map_toArray, List.map_cons, List.map_nil]); first | done | rfl | (simp only [List.length_drop, List.length_take]; rfl) | (simp only [ByteArray.size_append, Int.natCast_add]; rfl) | (rw [B.dO] <;> first | rfl | omega | (simp only [decide_eq_false_iff_not, decide_eq_true_eq, Int.not_lt, Nat.not_lt, gt_iff_lt] at * <;> omega))) ?_; (with_reducible refine (bR.calls k a0 a1 true _ A3.out).mono ?_); rintro e w9 ⟨rfl, hb⟩; refine ⟨_, rfl, ?_⟩; have dY := aj.mk (bE (by repeat (first | (with_reducible first | exact HB.out | apply ak | apply ah | apply au) | exact HB.out)) hb); clear HB; have HB := dY; clear dY; (try clear hb); (try clear hb2); (try clear hk); (try clear hi)) | ((with_reducible refine aQ (f := 105) rfl ?_); refine bP (some 16) rfl rfl Try.func105 (by kernel_rfl) rfl #[.int .i64 a0, .string a1] rfl (by (try simp only [List.map_toArray, List.map_cons, List.map_nil]); first | done | rfl | (simp only [List.length_drop, List.length_take]; rfl) | (simp only [ByteArray.size_append, Int.natCast_add]; rfl) | (rw [B.dO] <;> first | rfl | omega | (simp only [decide_eq_false_iff_not, decide_eq_true_eq, Int.not_lt, Nat.not_lt, gt_iff_lt] at * <;> omega))) ?_; (with_reducible refine (bg.calls k a0 a1 l9 _ A5.out).mono ?_); rintro e w10 ⟨adV, rfl, ho0, hb⟩; refine ⟨_, rfl, ?_⟩; have dY := aj.mk (Kd.sN ho0 (bL (by repeat (first | (with_reducible first | exact HB.out | apply ak | apply ah | apply au) | exact HB.out)))); have gW := aj.mk (bE (by repeat (first | (with_reducible first | exact HB.out | apply ak | apply ah | apply au) | exact HB.out)) hb); clear HB; have yj := dY; have HB := gW; clear dY gW; (try clear hb); (try clear hb2); (try clear hk); (try clear hi); (try clear ho0)) | ((with_reducible refine aQ (f := 106) rfl ?_); refine bP (some 18) rfl rfl Try.func106 (by kernel_rfl) rfl #[.int .i64 a0] rfl (by (try simp only [List.map_toArray, List.map_cons, List.map_nil]); first | done | rfl | (simp only [List.length_drop, List.length_take]; rfl) | (simp only [ByteArray.size_append, Int.natCast_add]; rfl) | (rw [B.dO] <;> first | rfl | omega | (simp only [decide_eq_false_iff_not, decide_eq_true_eq, Int.not_lt, Nat.not_lt, gt_iff_lt] at * <;> omega))) ?_; (with_reducible refine (aH.calls k a0 qp LM Pk _ A6.out).mono ?_); rintro e TT ⟨rfl, hb⟩; refine ⟨_, rfl, ?_⟩; have dY := aj.mk (Kd.jZ (by (with_reducible repeat (first | apply Kd.eX | apply Kd.fF | apply Kd.fP)); exact yj.out) hb); have gW := aj.mk (bE (by repeat (first | (with_reducible first | exact HB.out | apply ak | apply ah | apply au) | exact HB.out)) hb); clear yj; clear HB; have yj := dY; have HB := gW; clear dY gW; (try clear hb); (try clear hb2); (try clear hk); (try clear hi)) | ((with_reducible refine gD (N := 6) rfl ?_); refine fO ?hg (N := 6) ?hd (cs := #[.int .i64 0, .int .i64 0, .int .i64 0]) (t := 142) ?hr ?_; (case hd => rfl); (case hg => rfl); (case hr => first | (go_simp; done) | (go_simp; rfl)); intro qG hg w12 gT hb; have dY := aj.mk (Kd.jZ (by (with_reducible repeat (first | apply Kd.eX | apply Kd.fF | apply Kd.fP)); exact yj.out) hb); have gW := aj.mk (bE (by repeat (first | (with_reducible first | exact HB.out | apply ak | apply ah | apply au) | exact HB.out)) hb); have iY := aj.mk (gT); have jF := aj.mk ((by rw [hg]; exact (bL (by repeat (first | (with_reducible first | exact HB.out | apply ak | apply ah | apply au) | exact HB.out))) : w.heap.size ≤ qG)); have qo := aj.mk ((by rw [hg]; exact (bL (by repeat (first | (with_reducible first | exact HB.out | apply ak | apply ah | apply au) | exact HB.out))) : w.heap.size ≤ qG)); clear yj; clear HB; have yj := dY; have HB := gW; have nE := iY; have afV := jF; have GR := qo; clear dY gW iY jF qo; clear hb gT hg; have Bq : w12.cell? ⟨qG, 0, none⟩ = some (.int .i64 0) := (aM nE.out 0).trans rfl; have Bt : w12.cell? ⟨qG, 1, none⟩ = some (.int .i64 0) := (aM nE.out 1).trans rfl; have Bu : w12.cell? ⟨qG, 2, none⟩ = some (.int .i64 0) := (aM nE.out 2).trans rfl; have Bv := ay nE.out 0; have Bw := ay nE.out 1; have Bz := ay nE.out 2))
        go_loopg [7, 8, 9] k (fun kq v7 v8 v9 w' => ∃ (dJ : ByteArray) (gF : Int) (iG : Int), v7 = .string dJ ∧ v8 = .int .i64 gF ∧ v9 = .int .i64 iG ∧ aj (bG.l0 kq a1 l9 dJ gF iG = some r) ∧ aj (kq ≤ k) ∧ aj (Kd.R Kd.string 9 w' w.heap.size (fun _ => True) adV l9) ∧ aj (w'.heap[qG]? = some (.cells #[.int .i64 qp, .int .i64 LM, .int .i64 Pk] 142 (0, 0))) ∧ aj (Below w.heap.size w w'))
        case atStart => exact ⟨(a1.extract 0 (qp : Int).toNat), (qp), (0), (by first | rfl | (simp; done) | (simp [*]; done) | (simp [B.aV]; done) | (simp [B.aW]; done)), (by first | rfl | (simp; done) | (simp [*]; done) | (simp [B.aV]; done) | (simp [B.aW]; done)), (by first | rfl | (simp; done) | (simp [*]; done) | (simp [B.aV]; done) | (simp [B.aW]; done)), H', ⟨Nat.le_refl _⟩, ⟨by (with_reducible repeat (first | apply Kd.eX | apply Kd.fF | apply Kd.fP)); exact Kd.oI (Kd.sO (p := ⟨qG, 2, none⟩) (Kd.sO (p := ⟨qG, 1, none⟩) (Kd.sO (p := ⟨qG, 0, none⟩) (Kd.sP yj.out nE.out (by decide)) (fun _ hk => hk.2) (.int .i64 qp)) (fun _ hk => hk.2) (.int .i64 LM)) (fun _ hk => hk.2) (.int .i64 Pk)) (fun _ hk => trivial)⟩, ⟨by (with_reducible repeat (first | refine aG ?_ _ | refine aI ?_ | refine aA ?_ _)); refine bU (cs := #[.int .i64 qp, .int .i64 LM, .int .i64 0]) ?_ 2 _ rfl; (with_reducible repeat (first | refine aG ?_ _ | refine aI ?_ | refine aA ?_ _)); refine bU (cs := #[.int .i64 qp, .int .i64 0, .int .i64 0]) ?_ 1 _ rfl; (with_reducible repeat (first | refine aG ?_ _ | refine aI ?_ | refine aA ?_ _)); refine bU (cs := #[.int .i64 0, .int .i64 0, .int .i64 0]) ?_ 0 _ rfl; (with_reducible repeat (first | refine aG ?_ _ | refine aI ?_ | refine aA ?_ _)); exact nE.out⟩, ⟨by repeat (first | (with_reducible first | exact HB.out | apply ak | apply ah | apply au | refine aR ?_ GR.out) | exact HB.out)⟩⟩
        case round =>
          clear H'
          try clear c1
          try clear p2
          try clear c4
          try clear c7
          try clear tJ
          try clear Iy
          try clear c8
          try clear qU
          try clear qV
          try clear c10
          try clear Bq
          try clear Bt
          try clear Bu
          try clear Bv
          try clear Bw
          try clear Bz
          obtain ⟨dJ, gF, iG, rfl, rfl, rfl, HA, sW, uL, nE, HB⟩ := hrel
          cases gk with
          | zero => exact absurd HA.out (by simp [bG.l0])
          | succ k1 =>
            have H := HA.out
            clear HA
            simp only [bG.l0] at H
            by_cases c14 : iG < (l9.length : Int)
            · rw [if_pos c14] at H
              have zO : decide (iG < (l9.length : Int)) = true := decide_eq_true c14
              clear c14
              by_cases c15 : 0 ≤ iG
              · rw [if_pos c15] at H
                have XV : decide (0 ≤ iG) = true := decide_eq_true c15
                clear c15
                replace H := zbm H
                obtain ⟨y7, Zl, H⟩ := H
                replace H : (if dJ.size + y7.size ≤ 9223372036854775807 then (bG.l0 k1 a1 l9 (dJ ++ y7) (wrap64 (gF + ((oG ByteArray.empty l9 iG).size : Int))) (wrap64 (iG + 1))) else (none)) = some r := H
                have A16 := aj.mk Zl
                clear Zl
                by_cases c17 : dJ.size + y7.size ≤ 9223372036854775807
                · rw [if_pos c17] at H
                  have QL := eq_true c17
                  have afW : decide (dJ.size + y7.size ≤ 9223372036854775807) = true := decide_eq_true c17
                  try have afX : (9223372036854775807 < dJ.size + y7.size) = False := eq_false (Nat.not_lt.2 c17)
                  have H' := aj.mk H
                  clear H
                  obtain ⟨agj, agk, adW⟩ := Kd.vU uL.out
                  subst adW
                  have Ub : 0 ≤ (iG : Int) := of_decide_eq_true (by first | (with_reducible assumption) | assumption)
                  have Uc : iG < (l9.length : Int) := of_decide_eq_true (by first | (with_reducible assumption) | assumption)
                  obtain ⟨Zm, adX, acf⟩ := Kd.zG (Kd.oJ uL.out).2.2 iG Ub Uc
                  cases adX
                  replace Ub := eq_true Ub
                  replace Uc := eq_true Uc
                  go_wp2_with (first | ((with_reducible refine aQ (f := 101) rfl ?_); refine bP (some 36) rfl rfl Try.func101 (by kernel_rfl) rfl #[.string (oG ByteArray.empty l9 iG)] rfl (by (try simp only [List.map_toArray, List.map_cons, List.map_nil]); first | done | rfl | (simp only [List.length_drop, List.length_take]; rfl) | (simp only [ByteArray.size_append, Int.natCast_add]; rfl) | (rw [B.dO] <;> first | rfl | omega | (simp only [decide_eq_false_iff_not, decide_eq_true_eq, Int.not_lt, Nat.not_lt, gt_iff_lt] at * <;> omega))) ?_; (with_reducible refine (fu.calls k1 (oG ByteArray.empty l9 iG) y7 _ A16.out).mono ?_); rintro e w19 ⟨rfl, hb⟩; refine ⟨_, rfl, ?_⟩; have dY := aj.mk (Kd.jZ (by (with_reducible repeat (first | apply Kd.eX | apply Kd.fF | apply Kd.fP)); exact uL.out) hb); have gW := aj.mk (dM (g := qG) (o := .cells #[.int .i64 qp, .int .i64 LM, .int .i64 Pk] 142 (0, 0)) (by (with_reducible repeat (first | refine aG ?_ _ | refine aI ?_ | refine aA ?_ _)); exact nE.out) hb); have iY := aj.mk (bE (by repeat (first | (with_reducible first | exact HB.out | apply ak | apply ah | apply au | refine aR ?_ GR.out) | exact HB.out)) hb); clear uL; clear nE; clear HB; have uL := dY; have nE := gW; have HB := iY; clear dY gW iY; (try clear hb); (try clear hb2); (try clear hk); (try clear hi); have Ud : 0 ≤ (iG : Int) := of_decide_eq_true (by first | (with_reducible assumption) | assumption); have Ue : iG < (l9.length : Int) := of_decide_eq_true (by first | (with_reducible assumption) | assumption); obtain ⟨Zn, adY, acg⟩ := Kd.zG (Kd.oJ uL.out).2.2 iG Ud Ue; obtain rfl : Zm = Zn := (by injection adY); replace Ud := eq_true Ud; replace Ue := eq_true Ue))
                  go_roundg k1
                  case measure => have := sW.out; omega
                  case rel => exact ⟨(dJ ++ y7), (wrap64 (gF + ((oG ByteArray.empty l9 iG).size : Int))), (wrap64 (iG + 1)), (by first | rfl | (simp; done) | (simp [*]; done) | (simp [B.aV]; done) | (simp [B.aW]; done)), (by first | rfl | (simp; done) | (simp [*]; done) | (simp [B.aV]; done) | (simp [B.aW]; done)), (by first | rfl | (simp; done) | (simp [*]; done) | (simp [B.aV]; done) | (simp [B.aW]; done)), H', ⟨by have := sW.out; omega⟩, ⟨by (with_reducible repeat (first | apply Kd.eX | apply Kd.fF | apply Kd.fP)); exact uL.out⟩, ⟨by (with_reducible repeat (first | refine aG ?_ _ | refine aI ?_ | refine aA ?_ _)); exact nE.out⟩, ⟨by repeat (first | (with_reducible first | exact HB.out | apply ak | apply ah | apply au | refine aR ?_ GR.out) | exact HB.out)⟩⟩
                · rw [if_neg c17] at H
                  exact absurd H (by simp)
              · rw [if_neg c15] at H
                exact absurd H (by simp)
            · rw [if_neg c14] at H
              have zO : decide (iG < (l9.length : Int)) = false := decide_eq_false c14
              clear c14
              by_cases c20 : 0 ≤ gF
              · rw [if_pos c20] at H
                have Lm := eq_true c20
                have Yo : decide (0 ≤ gF) = true := decide_eq_true c20
                clear c20
                by_cases c21 : gF ≤ (a1.size : Int)
                · rw [if_pos c21] at H
                  have QJ := eq_true c21
                  have QK : decide (gF ≤ (a1.size : Int)) = true := decide_eq_true c21
                  clear c21
                  by_cases BQ : dJ.size + (a1.extract (gF : Int).toNat a1.size).size ≤ 9223372036854775807
                  · rw [if_pos BQ] at H
                    have LG := eq_true BQ
                    have LH : decide (dJ.size + (a1.extract (gF : Int).toNat a1.size).size ≤ 9223372036854775807) = true := decide_eq_true BQ
                    try have afY : (9223372036854775807 < dJ.size + (a1.extract (gF : Int).toNat a1.size).size) = False := eq_false (Nat.not_lt.2 BQ)
                    obtain rfl := Option.some.inj H
                    obtain ⟨agl, agm, adZ⟩ := Kd.vU uL.out
                    subst adZ
                    go_wp2
                    go_ret
                    exact ⟨by first | rfl | (simp [aJ, aK] <;> rfl) | (simp [*, aJ, aK] <;> rfl), by repeat (first | (with_reducible first | exact HB.out | apply ak | apply ah | apply au | refine aR ?_ GR.out) | exact HB.out)⟩
                  · rw [if_neg BQ] at H
                    exact absurd H (by simp)
                · rw [if_neg c21] at H
                  exact absurd H (by simp)
              · rw [if_neg c20] at H
                exact absurd H (by simp)
      · rw [if_neg c8] at H
        exact absurd H (by simp)
    · rw [if_neg c7] at H
      exact absurd H (by simp)
  · replace c4 := Bool.eq_false_iff.mpr c4
    subst c4
    have H1 : (some (⟨#[]⟩ : ByteArray)) = some r := by rw [if_neg (show ¬ (false = true) by decide)] at H; exact H
    clear H
    have H := H1
    clear H1
    obtain rfl := Option.some.inj H
    go_enter Try.func84, Try.ntmps84
    go_wp2_with (first | ((with_reducible refine aQ (f := 83) rfl ?_); refine bP (some 12) rfl rfl Try.func83 (by kernel_rfl) rfl #[.int .i64 a0, .string a1] rfl (by (try simp only [List.map_toArray, List.map_cons, List.map_nil]); first | done | rfl | (simp only [List.length_drop, List.length_take]; rfl) | (simp only [ByteArray.size_append, Int.natCast_add]; rfl) | (rw [B.dO] <;> first | rfl | omega | (simp only [decide_eq_false_iff_not, decide_eq_true_eq, Int.not_lt, Nat.not_lt, gt_iff_lt] at * <;> omega))) ?_; (with_reducible refine (bR.calls k a0 a1 false _ A3.out).mono ?_); rintro e w24 ⟨rfl, hb⟩; refine ⟨_, rfl, ?_⟩; have dY := aj.mk (bE (by repeat (first | (with_reducible first | exact HB.out | apply ak | apply ah | apply au) | exact HB.out)) hb); clear HB; have HB := dY; clear dY; (try clear hb); (try clear hb2); (try clear hk); (try clear hi)))
    go_ret
    exact ⟨by first | rfl | (simp [aJ, aK] <;> rfl) | (simp [*, aJ, aK] <;> rfl), by repeat (first | (with_reducible first | exact HB.out | apply ak | apply ah | apply au) | exact HB.out)⟩
end Go.Proofs.Ytdkkgecdhapfhaa.ZQ
namespace Go.Proofs.Ytdkkgecdhapfhaa.ZQ
open Go.RowKit Go.Proofs.YtdkkgecdhapfhaaW.bD Go.Proofs.YtdkkgecdhapfhaaW.dV Go.Proofs.YtdkkgecdhapfhaaW.eF Go.Proofs.Ytdkkgecdhapfhaa.B
def vv (msg : ByteArray) (i : Int) : ByteArray × Int × Int := (bF.f (rounds i) msg i).getD (⟨#[]⟩, 0, 0)
theorem QU (msg : ByteArray) (i : Int) (hm : msg.size ≤ 100000) : bF.f (rounds i) msg i = some (vv msg i) := by
  obtain ⟨R, h1, _⟩ := zQ (rounds i) msg i hm (Nat.le_refl _)
  unfold vv; rw [h1]; rfl
theorem QV (k : Nat) (msg : ByteArray) (i : Int) (hm : msg.size ≤ 100000) (hk : rounds i ≤ k) : bF.f k msg i = some (vv msg i) := DJ hk (QU msg i hm)
theorem uM (k : Nat) (msg : ByteArray) (i : Int) (hm : msg.size ≤ 100000) (hk : rounds i ≤ k) : aU.f k msg i = some (vv msg i) := by
  obtain ⟨R, h1, h2⟩ := zQ k msg i hm hk
  rw [QV k msg i hm hk] at h1
  rw [h2, h1]
theorem tN (msg : ByteArray) (i : Int) (hm : msg.size ≤ 100000) :
    ((vv msg i).2.2 = 0 ∧ jB (vv msg i).1 = true ∧ 0 ≤ i ∧ i < (vv msg i).2.1 ∧ (vv msg i).2.1 ≤ (msg.size : Int)) ∨ (((vv msg i).2.2 = 2 ∨ (vv msg i).2.2 = 3) ∧ (vv msg i).1 = ⟨#[]⟩ ∧ (vv msg i).2.1 = 0) := EZ hm (QU msg i hm)
def DX (msg : ByteArray) (e : Int) : Nat → Int → List ByteArray → Option (List ByteArray × Int)
  | 0, i, l => some (l, i)
  | n + 1, i, l => if (vv msg i).2.2 = 0 then (if (vv msg i).2.1 > e then none else DX msg e n (vv msg i).2.1 (l ++ [(vv msg i).1])) else none
theorem pW (msg : ByteArray) (e : Int) (hm : msg.size ≤ 100000) : ∀ (n : Nat) (i : Int) (l : List ByteArray) (R : List ByteArray × Int), DX msg e n i l = some R → i ≤ e → i ≤ R.2 ∧ R.2 ≤ e ∧ R.1.length = l.length + n ∧ (∃ l', R.1 = l ++ l' ∧ ∀ x ∈ l', jB x = true)
  | 0, i, l, R, h, hi => by cases h; exact ⟨Int.le_refl _, hi, rfl, [], by simp, by simp⟩
  | n + 1, i, l, R, h, hi => by
    rw [DX] at h
    by_cases h0 : (vv msg i).2.2 = 0
    · rw [if_pos h0] at h
      by_cases h1 : (vv msg i).2.1 > e
      · rw [if_pos h1] at h; cases h
      · rw [if_neg h1] at h
        obtain ⟨a1, a2, a3, l', a4, a5⟩ := pW msg e hm n _ _ R h (by omega)
        rcases tN msg i hm with ⟨_, b2, _, b4, _⟩ | ⟨b1, _⟩
        · refine ⟨by omega, a2, by rw [a3, List.length_append, List.length_singleton]; omega, (vv msg i).1 :: l', by rw [a4]; simp, ?_⟩
          intro x hx
          rcases List.mem_cons.mp hx with rfl | hx
          · exact b2
          · exact a5 x hx
        · omega
    · rw [if_neg h0] at h; cases h
def K0 : Nat := 101000
theorem pX {msg : ByteArray} {i : Int} {k : Nat} (hm : msg.size ≤ 100000) (hi : i ≤ (msg.size : Int)) (hk : K0 ≤ k) : rounds i ≤ k := by unfold rounds; unfold K0 at hk; omega
theorem BJ (msg : ByteArray) (e s0 s1 s2 : Int) (a b : ByteArray) (hm : msg.size ≤ 100000) (he : e ≤ (msg.size : Int)) (h2 : 0 ≤ s2 ∧ s2 ≤ 1000) (c : Int) (hc : c ≤ 100) : ∀ (n k : Nat) (i x : Int) (l : List ByteArray), K0 + n ≤ k → x + n = c → 0 ≤ x → 0 ≤ i → i ≤ e → l.length + n ≤ 1000 →
    bV.l0 (k + 1) msg i e c x s0 s1 s2 a b l = (match DX msg e n i l with
      | some R => some (a, msg.extract R.2.toNat e.toNat, R.1, (((msg.extract R.2.toNat e.toNat).size : Int) == s2))
      | none => some (⟨#[]⟩, ⟨#[]⟩, [], false))
  | 0, k, i, x, l, hk, hx, hx0, hi, hie, hl => by
    rw [bV.l0, if_neg (by omega), if_pos hi, if_pos hie, if_pos he, DX]
  | n + 1, k, i, x, l, hk, hx, hx0, hi, hie, hl => by
    obtain ⟨k, rfl⟩ : ∃ m, k = m + 1 := ⟨k - 1, by omega⟩
    rw [bV.l0, if_pos (by omega), QV (k + 1) msg i hm (pX hm (by omega) (by omega)), DX]
    simp only [Option.bind_some]
    by_cases h0 : (vv msg i).2.2 = 0
    · rw [if_pos h0, if_pos h0]
      by_cases h1 : (vv msg i).2.1 > e
      · rw [if_pos h1, if_pos h1]
      · rcases tN msg i hm with ⟨_, _, _, b4, _⟩ | ⟨b1, _⟩
        · rw [if_neg h1, if_neg h1, if_pos (by omega), dO (by omega) (by omega)]
          exact BJ msg e s0 s1 s2 a b hm he h2 c hc n k _ (x + 1) _ (by omega) (by omega) (by omega) (by omega) (by omega) (by rw [List.length_append, List.length_singleton]; omega)
        · omega
    · rw [if_neg h0, if_neg h0]
def LP (s : ByteArray) : Nat → Int → Bool
  | 0, _ => false
  | k + 1, i => if i < (s.size : Int) then LP s k (i + 1 + bt s i) else decide (i = s.size)
def E9 (s : ByteArray) : Bool := decide (0 < s.size) && LP s (s.size + 1) 0
theorem Uf (s : ByteArray) {k : Nat} {i : Int} (h : (s.size : Int) < i) : LP s k i = false := by
  cases k with
  | zero => rfl
  | succ k => rw [LP, if_neg (by omega)]; simp; omega
theorem LQ (s : ByteArray) (hs : s.size ≤ 100000) (d : Nat) : ∀ (k m : Nat) (i : Int), 0 ≤ i → i ≤ (s.size : Int) → s.size - i.toNat ≤ d → d + 1 ≤ k → d + 1 ≤ m → dK.l0 k (s.extract i.toNat s.size) = some (LP s m i) := by
  induction d with
  | zero =>
    intro k m i h0 h1 h2 hk hm
    obtain ⟨k, rfl⟩ : ∃ j, k = j + 1 := ⟨k - 1, by omega⟩
    obtain ⟨m, rfl⟩ : ∃ j, m = j + 1 := ⟨m - 1, by omega⟩
    rw [dK.l0, if_pos (toList_nil.mpr (by rw [ByteArray.size_extract]; omega)), LP, if_neg (by omega), decide_eq_true (by omega)]
  | succ d ih =>
    intro k m i h0 h1 h2 hk hm
    obtain ⟨k, rfl⟩ : ∃ j, k = j + 1 := ⟨k - 1, by omega⟩
    obtain ⟨m, rfl⟩ : ∃ j, m = j + 1 := ⟨m - 1, by omega⟩
    have hz : (s.extract i.toNat s.size).size = s.size - i.toNat := by rw [ByteArray.size_extract]; omega
    by_cases hi : i < (s.size : Int)
    · have hb : bt (s.extract i.toNat s.size) 0 = bt s i := by
        rw [lZ (by omega) (by omega)]; congr 1; omega
      have hr := fZ s i
      rw [dK.l0, if_neg (by rw [toList_nil]; omega), if_pos (by omega), hb, dO (n := bt s i) (by omega) (by omega), dO (n := 1 + bt s i) (by omega) (by omega), LP, if_pos hi]
      by_cases h3 : 1 + bt s i > ((s.extract i.toNat s.size).size : Int)
      · rw [if_pos h3, Uf s (by omega)]
      · rw [if_neg h3, if_pos (by omega), if_pos (by omega)]
        have e : (s.extract i.toNat s.size).extract (1 + bt s i).toNat (s.extract i.toNat s.size).size = s.extract (i + 1 + bt s i).toNat s.size := by
          rw [ByteArray.extract_extract, hz]
          congr 1 <;> omega
        rw [e]
        exact ih k m _ (by omega) (by omega) (by omega) (by omega) (by omega)
    · rw [dK.l0, if_pos (toList_nil.mpr (by omega)), LP, if_neg hi, decide_eq_true (by omega)]
theorem LU (k : Nat) (hk : K0 ≤ k) (s : ByteArray) (hs : s.size ≤ 100000) : dK.f k s = some (E9 s) := by
  unfold dK.f E9
  by_cases h : s.toList = ([] : List UInt8)
  · rw [if_pos h]; rw [toList_nil] at h; rw [h]; rfl
  · rw [if_neg h]
    rw [toList_nil] at h
    unfold K0 at hk
    have := LQ s hs s.size k (s.size + 1) 0 (by omega) (by omega) (by omega) (by omega) (by omega)
    rw [show (0 : Int).toNat = 0 from rfl, ByteArray.extract_zero_size] at this
    rw [this, decide_eq_true (by omega), Bool.true_and]
theorem BK (s : ByteArray) (hs : s.size ≤ 100000) (d : Nat) : ∀ (k m : Nat) (i : Int), 0 ≤ i → (i : Int) ≤ s.size + 300 → 0 < i ∨ 0 < s.size → s.size - i.toNat ≤ d → d + 1 ≤ k → d + 1 ≤ m → bn.l0 k s i = some (LP s m i) := by
  induction d with
  | zero =>
    intro k m i h0 h1 hp h2 hk hm
    obtain ⟨k, rfl⟩ : ∃ j, k = j + 1 := ⟨k - 1, by omega⟩
    obtain ⟨m, rfl⟩ : ∃ j, m = j + 1 := ⟨m - 1, by omega⟩
    have hlt : ¬ i < (s.size : Int) := by omega
    rw [bn.l0, if_neg hlt, LP, if_neg hlt]
    by_cases h : i = (s.size : Int)
    · rw [if_pos h, decide_eq_true (by omega), decide_eq_true h]
    · rw [if_neg h, decide_eq_false h]
  | succ d ih =>
    intro k m i h0 h1 hp h2 hk hm
    obtain ⟨k, rfl⟩ : ∃ j, k = j + 1 := ⟨k - 1, by omega⟩
    obtain ⟨m, rfl⟩ : ∃ j, m = j + 1 := ⟨m - 1, by omega⟩
    have hr := fZ s i
    rw [bn.l0, LP]
    by_cases hi : i < (s.size : Int)
    · rw [if_pos hi, if_pos hi, if_pos h0, dO (n := bt s i) (by omega) (by omega), dO (n := i + 1) (by omega) (by omega), dO (by omega) (by omega)]
      exact ih k m _ (by omega) (by omega) (by omega) (by omega) (by omega) (by omega)
    · rw [if_neg hi, if_neg hi]
      by_cases h : i = (s.size : Int)
      · rw [if_pos h, decide_eq_true (by omega), decide_eq_true h]
      · rw [if_neg h, decide_eq_false h]
theorem BL (k : Nat) (hk : K0 ≤ k) (s : ByteArray) (hs : s.size ≤ 100000) : bn.f k s = some (E9 s) := by
  unfold bn.f E9
  unfold K0 at hk
  by_cases h : 0 < s.size
  · rw [BK s hs s.size k (s.size + 1) 0 (by omega) (by omega) (by omega) (by omega) (by omega) (by omega), decide_eq_true h, Bool.true_and]
  · obtain ⟨k, rfl⟩ : ∃ j, k = j + 1 := ⟨k - 1, by omega⟩
    rw [bn.l0, if_neg (by omega), if_pos (by omega), decide_eq_false h]; rfl
end Go.Proofs.Ytdkkgecdhapfhaa.ZQ
namespace Go.Proofs.Ytdkkgecdhapfhaa.ZQ
open Go.RowKit Go.Proofs.YtdkkgecdhapfhaaW.bD Go.Proofs.YtdkkgecdhapfhaaW.dV Go.Proofs.YtdkkgecdhapfhaaW.eF Go.Proofs.Ytdkkgecdhapfhaa.B
theorem Fa (l m : List ByteArray) : strings_Join.cat (l ++ m) = strings_Join.cat l ++ strings_Join.cat m := by
  induction l with
  | nil => exact (empty_append _).symm
  | cons x l ih => rw [List.cons_append, strings_Join.cat, ih, strings_Join.cat, ByteArray.append_assoc]
theorem Pm (x : ByteArray) : strings_Join.cat [x] = x := append_empty x
theorem oQ {n : ByteArray} (h : jB n = true) : n.size ≤ 255 := by
  obtain ⟨l, _, _, hz⟩ := Gb.mp h; exact hz
theorem tO : ∀ {l : List ByteArray}, (∀ x ∈ l, jB x = true) → (strings_Join.cat l).size ≤ 255 * l.length
  | [], _ => Nat.zero_le _
  | x :: l, h => by
    have h1 := oQ (h x (by simp))
    have h2 := tO (l := l) (fun y hy => h y (by simp [hy]))
    rw [strings_Join.cat, ByteArray.size_append, List.length_cons]
    omega
def yt (d : ByteArray) : ByteArray × Int := if (d.size : Int) > 65535 then (⟨#[]⟩, 4) else (d, 0)
theorem uN (d : ByteArray) : (if (d.size : Int) > 65535 then some ((⟨#[]⟩ : ByteArray), (4 : Int)) else some (d, 0)) = some (yt d) := by
  unfold yt; split <;> rfl
def IL (msg : ByteArray) (i size : Int) (s : Int × Int × Int) : ByteArray × Int :=
  if s.1 ≤ size then (match DX msg (i + size) s.2.1.toNat (i + s.1) [] with
    | some R => if R.2 + s.2.2 = i + size then yt (msg.extract i.toNat (i + s.1).toNat ++ strings_Join.cat R.1 ++ msg.extract R.2.toNat (i + size).toNat) else (⟨#[]⟩, 4)
    | none => (⟨#[]⟩, 4)) else (⟨#[]⟩, 4)
def y8 (msg : ByteArray) (i size kind : Int) : ByteArray × Int :=
  if gQ msg i size then (match aD.yg kind with
    | some s => IL msg i size s
    | none => if kind = 16 then (if E9 (msg.extract i.toNat (i + size).toNat) = true then yt (msg.extract i.toNat (i + size).toNat) else (⟨#[]⟩, 4)) else yt (msg.extract i.toNat (i + size).toNat))
  else (⟨#[]⟩, 2)
theorem kK {kind : Int} {s : Int × Int × Int} (h : aD.yg kind = some s) : 0 ≤ s.1 ∧ s.1 ≤ 16 ∧ 0 ≤ s.2.1 ∧ s.2.1 ≤ 2 ∧ 0 ≤ s.2.2 ∧ s.2.2 ≤ 20 ∧ kind ≠ 16 ∧ (s.1 = 0 → s.2.1 = 0 → False) := by
  unfold aD.yg at h
  repeat' split at h
  all_goals (first | (cases h; subst_vars; decide) | cases h)
theorem Ug (k : Nat) (hk : K0 ≤ k) (kind : Int) (hkind : kind ≠ 16) (d : ByteArray) : aD.fin k kind d true = some (yt d) := by
  unfold aD.fin
  rw [if_pos rfl, if_neg hkind, uN]
theorem uO (k : Nat) (kind : Int) (d : ByteArray) : aD.fin k kind d false = some (⟨#[]⟩, 4) := by
  unfold aD.fin; rw [if_neg Bool.false_ne_true]
theorem zV (msg : ByteArray) (i size kind : Int) (k : Nat) (hk : K0 ≤ k) (hm : msg.size ≤ 100000) (f : ByteArray → Option Bool) (hf : ∀ s, s.size ≤ 100000 → f s = some (E9 s)) (t : ByteArray) (ht : t.size ≤ 100000) :
    (if kind = 16 then ((f t).bind fun b => if b = true then (if (t.size : Int) > 65535 then some ((⟨#[]⟩ : ByteArray), (4 : Int)) else some (t, 0)) else some (⟨#[]⟩, 4)) else (if (t.size : Int) > 65535 then some (⟨#[]⟩, 4) else some (t, 0))) =
      some (if kind = 16 then (if E9 t = true then yt t else (⟨#[]⟩, 4)) else yt t) := by
  rw [hf t ht, uN]
  simp only [Option.bind_some]
  split
  · split <;> rfl
  · rfl
theorem IQ (k : Nat) (hk : K0 + 10 ≤ k) (msg : ByteArray) (i size kind : Int) (hm : msg.size ≤ 100000) (ht : gQ msg i size) (s : Int × Int × Int) (hs : aD.yg kind = some s) : aD.g k msg i size kind s = some (IL msg i size s) := by
  obtain ⟨h0, h1, h2⟩ := ht
  obtain ⟨a1, a2, a3, a4, a5, a6, a7, a8⟩ := kK hs
  obtain ⟨s0, s1, s2⟩ := s
  simp only at a1 a2 a3 a4 a5 a6 a8
  have e1 : wrap64 (i + size) = i + size := dO (by omega) (by omega)
  have e2 : wrap64 (i + size - i) = size := by rw [dO (by omega) (by omega)]; omega
  have e3 : wrap64 (i + s0) = i + s0 := dO (by omega) (by omega)
  unfold aD.g bV.f IL
  simp only [e1, e2, e3]
  by_cases c : s0 ≤ size
  · rw [if_pos c, if_pos c, if_pos h0, if_pos (by omega), if_pos (by omega)]
    obtain ⟨k, rfl⟩ : ∃ j, k = j + 1 := ⟨k - 1, by omega⟩
    rw [BJ msg (i + size) s0 s1 s2 _ _ hm h2 ⟨a5, by omega⟩ s1 (by omega) s1.toNat k (i + s0) 0 [] (by omega) (by omega) (Int.le_refl _) (by omega) (by omega) (by simp only [List.length_nil]; omega)]
    have hz : (msg.extract i.toNat (i + s0).toNat).size ≤ 16 := by rw [ByteArray.size_extract]; omega
    cases hr : DX msg (i + size) s1.toNat (i + s0) [] with
    | none =>
      simp only [Option.bind_some]
      rw [if_pos (by decide), if_pos (by decide), uO]
    | some R =>
      obtain ⟨b1, b2, b3, l', b4, b5⟩ := pW msg _ hm _ _ _ R hr (by omega)
      have hcz := tO b5
      rw [List.nil_append] at b4
      rw [← b4] at hcz
      rw [List.length_nil, Nat.zero_add] at b3
      have hbz : (msg.extract R.2.toNat (i + size).toNat).size = (i + size - R.2).toNat := by rw [ByteArray.size_extract]; omega
      simp only [Option.bind_some]
      rw [if_pos (by omega), if_pos (by omega)]
      by_cases d : R.2 + s2 = i + size
      · rw [if_pos d, show (((msg.extract R.2.toNat (i + size).toNat).size : Int) == s2) = true from beq_iff_eq.mpr (by omega), Ug k.succ (by omega) kind a7]
      · rw [if_neg d, show (((msg.extract R.2.toNat (i + size).toNat).size : Int) == s2) = false from beq_eq_false_iff_ne.mpr (by omega), uO]
  · rw [if_neg c, if_neg c]
    simp only [Option.bind_some]
    rw [if_pos (by decide), if_pos (by decide), uO]
theorem Uh (k : Nat) (hk : K0 + 10 ≤ k) (msg : ByteArray) (i size kind : Int) (hm : msg.size ≤ 100000) : aD.f k msg i size kind = some (y8 msg i size kind) := by
  unfold aD.f y8
  rw [tH msg i size (by omega)]
  simp only [Option.bind_some]
  by_cases ht : gQ msg i size
  · rw [if_pos ht, if_pos ht]
    simp only [if_true]
    cases hs : aD.yg kind with
    | some s => exact IQ k hk msg i size kind hm ht s hs
    | none =>
      have hz : (msg.extract i.toNat (i + size).toNat).size ≤ 100000 := by rw [ByteArray.size_extract]; omega
      have := zV msg i size kind k (by omega) hm (dK.f k) (fun s h => LU k (by omega) s h) _ hz
      unfold aD.fin
      rw [if_pos rfl]
      exact this
  · rw [if_neg ht, if_neg ht]; rfl
theorem nR (k : Nat) (hk : 1 ≤ k) (kind : Int) : aH.f k kind = some ((aD.yg kind).getD (0, 0, 0)) := by
  obtain ⟨k, rfl⟩ : ∃ j, k = j + 1 := ⟨k - 1, by omega⟩
  unfold aH.f aD.yg
  simp only [aH.j0]
  by_cases h1 : kind = 1
  · subst h1; rfl
  by_cases h2 : kind = 28
  · subst h2; rfl
  by_cases h3 : kind = 2
  · subst h3; rfl
  by_cases h4 : kind = 5
  · subst h4; rfl
  by_cases h5 : kind = 12
  · subst h5; rfl
  by_cases h6 : kind = 6
  · subst h6; rfl
  by_cases h7 : kind = 15
  · subst h7; rfl
  by_cases h8 : kind = 33
  · subst h8; rfl
  simp [h1, h2, h3, h4, h5, h6, h7, h8]
theorem DY (msg : ByteArray) (i size s0 s1 s2 : Int) (hm : msg.size ≤ 100000) (ht : gQ msg i size) (h2 : 0 ≤ s2 ∧ s2 ≤ 1000) (hs : s1 ≤ 100) : ∀ (n k : Nat) (j x : Int) (out : ByteArray), K0 + n ≤ k → x + n = s1 → 0 ≤ x → i + size < j → j ≤ (msg.size : Int) → out.size + 300 * n ≤ 1000000 →
    aX.l0 (k + 1) msg i size out j x s0 s1 s2 = some (⟨#[]⟩, 4)
  | 0, k, j, x, out, hk, hx, hx0, hj, hjm, ho => by
    obtain ⟨t0, t1, t2⟩ := ht
    rw [aX.l0, if_neg (by omega), dO (n := j + s2) (by omega) (by omega), dO (n := i + size) (by omega) (by omega), if_neg (by omega)]
  | n + 1, k, j, x, out, hk, hx, hx0, hj, hjm, ho => by
    obtain ⟨k, rfl⟩ : ∃ m, k = m + 1 := ⟨k - 1, by omega⟩
    rw [aX.l0, if_pos (by omega), uM (k + 1) msg j hm (pX hm (by omega) (by omega))]
    simp only [Option.bind_some]
    rcases tN msg j hm with ⟨b1, b2, _, b4, b5⟩ | ⟨b1, _⟩
    · have hz := oQ b2
      rw [if_pos b1, if_pos (by omega), dO (n := x + 1) (by omega) (by omega)]
      exact DY msg i size s0 s1 s2 hm ht h2 hs n k _ _ _ (by omega) (by omega) (by omega) (by omega) b5 (by rw [ByteArray.size_append]; omega)
    · rw [if_neg (by omega)]
theorem LV (msg : ByteArray) (i size s0 s1 s2 : Int) (a : ByteArray) (hm : msg.size ≤ 100000) (ht : gQ msg i size) (h2 : 0 ≤ s2 ∧ s2 ≤ 1000) (hs : s1 ≤ 100) : ∀ (n k : Nat) (j x : Int) (l : List ByteArray), K0 + n ≤ k → x + n = s1 → 0 ≤ x → 0 ≤ j → j ≤ i + size → (a ++ strings_Join.cat l).size + 300 * n ≤ 800000 →
    aX.l0 (k + 1) msg i size (a ++ strings_Join.cat l) j x s0 s1 s2 = some (match DX msg (i + size) n j l with
      | some R => if R.2 + s2 = i + size then yt (a ++ strings_Join.cat R.1 ++ msg.extract R.2.toNat (i + size).toNat) else (⟨#[]⟩, 4)
      | none => (⟨#[]⟩, 4))
  | 0, k, j, x, l, hk, hx, hx0, hj0, hj, ho => by
    obtain ⟨t0, t1, t2⟩ := ht
    rw [aX.l0, if_neg (by omega), dO (n := j + s2) (by omega) (by omega), dO (n := i + size) (by omega) (by omega), DX]
    simp only
    by_cases c : j + s2 = i + size
    · have hz : (msg.extract j.toNat (i + size).toNat).size ≤ 100000 := by rw [ByteArray.size_extract]; omega
      rw [if_pos c, if_pos c, if_pos hj0, if_pos hj, if_pos t2, if_pos (by omega), uN]
    · rw [if_neg c, if_neg c]
  | n + 1, k, j, x, l, hk, hx, hx0, hj0, hj, ho => by
    have ht0 := ht
    obtain ⟨t0, t1, t2⟩ := ht
    obtain ⟨k, rfl⟩ : ∃ m, k = m + 1 := ⟨k - 1, by omega⟩
    rw [aX.l0, if_pos (by omega), uM (k + 1) msg j hm (pX hm (by omega) (by omega)), DX]
    simp only [Option.bind_some]
    rcases tN msg j hm with ⟨b1, b2, _, b4, b5⟩ | ⟨b1, _⟩
    · have hz := oQ b2
      rw [if_pos b1, if_pos b1, if_pos (by omega), dO (n := x + 1) (by omega) (by omega)]
      by_cases c : (vv msg j).2.1 > i + size
      · rw [if_pos c]
        exact DY msg i size s0 s1 s2 hm ht0 h2 hs n k _ _ _ (by omega) (by omega) (by omega) (by omega) b5 (by rw [ByteArray.size_append]; omega)
      · rw [if_neg c]
        have e : a ++ strings_Join.cat l ++ (vv msg j).1 = a ++ strings_Join.cat (l ++ [(vv msg j).1]) := by rw [Fa, Pm, ByteArray.append_assoc]
        rw [e]
        exact LV msg i size s0 s1 s2 a hm ht0 h2 hs n k _ _ _ (by omega) (by omega) (by omega) (by omega) (by omega) (by rw [← e, ByteArray.size_append]; omega)
    · rw [if_neg (by omega), if_neg (by omega)]
theorem Fb (k : Nat) (hk : K0 + 10 ≤ k) (msg : ByteArray) (i size kind : Int) (hm : msg.size ≤ 100000) : aX.f k msg i size kind = some (y8 msg i size kind) := by
  unfold aX.f y8
  rw [oN msg i size (by omega), nR k (by omega)]
  simp only [Option.bind_some]
  by_cases ht : gQ msg i size
  · rw [if_pos ht, if_pos ht]
    simp only [if_true]
    obtain ⟨t0, t1, t2⟩ := ht
    have hz : (msg.extract i.toNat (i + size).toNat).size = size.toNat := by rw [ByteArray.size_extract]; omega
    cases hs : aD.yg kind with
    | none =>
      simp only [Option.getD_none]
      rw [if_pos (by decide)]
      exact zV msg i size kind k (by omega) hm (bn.f k) (fun s h => BL k (by omega) s h) _ (by omega)
    | some s =>
      obtain ⟨a1, a2, a3, a4, a5, a6, a7, a8⟩ := kK hs
      obtain ⟨s0, s1, s2⟩ := s
      simp only at a1 a2 a3 a4 a5 a6 a8
      simp only [Option.getD_some]
      have main : (if s0 > size then some ((⟨#[]⟩ : ByteArray), (4 : Int)) else (if 0 ≤ s0 then (if s0 ≤ ((msg.extract i.toNat (i + size).toNat).size : Int) then (aX.l0 k msg i size ((msg.extract i.toNat (i + size).toNat).extract 0 (s0 : Int).toNat) (wrap64 (i + s0)) 0 s0 s1 s2) else none) else none)) = some (IL msg i size (s0, s1, s2)) := by
        unfold IL
        simp only
        by_cases c : s0 > size
        · rw [if_pos c, if_neg (by omega)]
        · rw [if_neg c, if_pos a1, if_pos (by omega), if_pos (by omega), dO (by omega) (by omega)]
          obtain ⟨k, rfl⟩ : ∃ j, k = j + 1 := ⟨k - 1, by omega⟩
          have e : (msg.extract i.toNat (i + size).toNat).extract 0 s0.toNat = msg.extract i.toNat (i + s0).toNat := by
            rw [ByteArray.extract_extract]; congr 1 <;> omega
          have hz2 : (msg.extract i.toNat (i + s0).toNat).size ≤ 16 := by rw [ByteArray.size_extract]; omega
          have h := LV msg i size s0 s1 s2 (msg.extract i.toNat (i + s0).toNat) hm ⟨t0, t1, t2⟩ ⟨a5, by omega⟩ (by omega) s1.toNat k (i + s0) 0 [] (by omega) (by omega) (Int.le_refl _) (by omega) (by omega) (by simp only [strings_Join.cat, append_empty]; omega)
          simp only [strings_Join.cat, append_empty] at h
          rw [e, h]
      have hne : ¬ ((s0 == 0 && (s1 == 0 && (s2 == 0))) = true) := by
        intro h
        simp only [Bool.and_eq_true, beq_iff_eq] at h
        exact a8 h.1 h.2.1
      rw [if_neg hne]
      exact main
  · rw [if_neg ht, if_neg ht]; rfl
end Go.Proofs.Ytdkkgecdhapfhaa.ZQ
namespace Go.Proofs.Ytdkkgecdhapfhaa.ZQ
open Go.RowKit Go.Proofs.YtdkkgecdhapfhaaW.bD Go.Proofs.YtdkkgecdhapfhaaW.dV Go.Proofs.YtdkkgecdhapfhaaW.eF Go.Proofs.Ytdkkgecdhapfhaa.B
def vS (kind : Int) (d : ByteArray) : Bool := decide (d.size ≤ 65535) && (decide ((y8 d 0 d.size kind).2 = 0) && decide ((y8 d 0 d.size kind).1 = d))
theorem tQ {kind : Int} {d : ByteArray} : vS kind d = true ↔ d.size ≤ 65535 ∧ y8 d 0 d.size kind = (d, 0) := by
  unfold vS
  simp only [Bool.and_eq_true, decide_eq_true_eq]
  constructor
  · rintro ⟨h1, h2, h3⟩; exact ⟨h1, Prod.ext h3 h2⟩
  · rintro ⟨h1, h2⟩; rw [h2]; exact ⟨h1, rfl, rfl⟩
theorem zW (k : Nat) (hk : K0 + 10 ≤ k) (kind : Int) (d : ByteArray) : iN.f k kind d = some (vS kind d) := by
  unfold iN.f vS
  by_cases h : (d.size : Int) > 65535
  · rw [if_pos h, decide_eq_false (by omega)]; rfl
  · rw [if_neg h, Uh k hk d 0 _ kind (by omega), decide_eq_true (by omega), Bool.true_and]
    simp only [Option.bind_some]
    by_cases h0 : (y8 d 0 d.size kind).2 = 0
    · rw [if_pos h0, decide_eq_true h0, xU, Bool.true_and]
    · rw [if_neg h0, decide_eq_false h0, Bool.false_and]
theorem mQ (k : Nat) (hk : K0 + 10 ≤ k) (kind : Int) (d : ByteArray) : bR.f k kind d = some (vS kind d) := by
  unfold bR.f vS
  by_cases h : (d.size : Int) > 65535
  · rw [if_pos h, decide_eq_false (by omega)]; rfl
  · rw [if_neg h, Fb k hk d 0 _ kind (by omega), decide_eq_true (by omega), Bool.true_and]
    simp only [Option.bind_some]
    by_cases h0 : (y8 d 0 d.size kind).2 = 0
    · rw [if_pos h0, decide_eq_true h0, xU, Bool.true_and]
    · rw [if_neg h0, decide_eq_false h0, Bool.false_and]
theorem Fe (d : ByteArray) : gQ d 0 d.size := ⟨Int.le_refl _, by omega, by omega⟩
theorem IU {x d : ByteArray} (h : yt x = (d, 0)) : x = d ∧ x.size ≤ 65535 := by
  unfold yt at h
  split at h
  · have := congrArg Prod.snd h; cases this
  · exact ⟨congrArg Prod.fst h, by omega⟩
theorem oU {kind : Int} {d : ByteArray} {s : Int × Int × Int} (h : vS kind d = true) (hs : aD.yg kind = some s) :
    ∃ R, s.1 ≤ (d.size : Int) ∧ DX d d.size s.2.1.toNat s.1 [] = some R ∧ R.2 + s.2.2 = d.size ∧ d = d.extract 0 s.1.toNat ++ strings_Join.cat R.1 ++ d.extract R.2.toNat d.size ∧ s.1 ≤ R.2 ∧ R.2 ≤ (d.size : Int) ∧ R.1.length = s.2.1.toNat ∧ (∀ x ∈ R.1, jB x = true) ∧ R.2 = s.1 + (strings_Join.cat R.1).size := by
  obtain ⟨h0, h1⟩ := tQ.mp h
  unfold y8 IL at h1
  rw [if_pos (Fe d), hs] at h1
  simp only [Int.zero_add, Int.toNat_natCast] at h1
  obtain ⟨a1, a2, a3, a4, a5, a6, a7, a8⟩ := kK hs
  by_cases c : s.1 ≤ (d.size : Int)
  · rw [if_pos c] at h1
    cases hr : DX d d.size s.2.1.toNat s.1 [] with
    | none => rw [hr] at h1; have := congrArg Prod.snd h1; cases this
    | some R =>
      rw [hr] at h1
      simp only at h1
      by_cases e : R.2 + s.2.2 = d.size
      · rw [if_pos e] at h1
        obtain ⟨h2, _⟩ := IU h1
        obtain ⟨b1, b2, b3, l', b4, b5⟩ := pW d _ (by omega) _ _ _ R hr c
        rw [List.nil_append] at b4
        rw [← b4] at b5
        have hz := congrArg ByteArray.size h2
        simp only [ByteArray.size_append, ByteArray.size_extract] at hz
        refine ⟨R, c, rfl, e, h2.symm, b1, b2, by rw [b3]; simp, b5, ?_⟩
        simp only [show (0 : Int).toNat = 0 from rfl] at hz
        omega
      · rw [if_neg e] at h1; have := congrArg Prod.snd h1; cases this
  · rw [if_neg c] at h1; have := congrArg Prod.snd h1; cases this
def prt (kind : Int) (d : ByteArray) : ByteArray × ByteArray × List ByteArray × Bool :=
  if vS kind d = true then (match aD.yg kind with
    | some s => (match DX d d.size s.2.1.toNat s.1 [] with
      | some R => (d.extract 0 s.1.toNat, d.extract R.2.toNat d.size, R.1, true)
      | none => (⟨#[]⟩, ⟨#[]⟩, [], false))
    | none => (d, ⟨#[]⟩, [], true)) else (⟨#[]⟩, ⟨#[]⟩, [], false)
theorem uP : (⟨#[]⟩ : ByteArray).size = 0 := rfl
theorem vM (k : Nat) (hk : K0 + 20 ≤ k) (d : ByteArray) (hd : d.size ≤ 65535) (s0 s1 s2 : Int) (a1 : 0 ≤ s0) (a3 : 0 ≤ s1) (a4 : s1 ≤ 2) (a5 : 0 ≤ s2) (a6 : s2 ≤ 20) (R : List ByteArray × Int) (c1 : s0 ≤ (d.size : Int)) (c2 : DX d d.size s1.toNat s0 [] = some R) (c3 : R.2 + s2 = d.size) :
    bV.f k d 0 (d.size : Int) s0 s1 s2 = some (d.extract 0 s0.toNat, d.extract R.2.toNat d.size, R.1, true) := by
  unfold bV.f
  have e2 : wrap64 ((d.size : Int) - 0) = d.size := by rw [dO (by omega) (by omega)]; omega
  have e3 : wrap64 (0 + s0) = s0 := by rw [dO (by omega) (by omega)]; omega
  obtain ⟨b1, b2, _⟩ := pW d _ (by omega) _ _ _ R c2 c1
  have hz : ((d.extract R.2.toNat d.size).size : Int) = s2 := by rw [ByteArray.size_extract]; omega
  obtain ⟨k, rfl⟩ : ∃ j, k = j + 1 := ⟨k - 1, by omega⟩
  have h := BJ d d.size s0 s1 s2 (d.extract 0 s0.toNat) ⟨#[]⟩ (by omega) (Int.le_refl _) ⟨a5, by omega⟩ s1 (by omega) s1.toNat k s0 0 [] (by omega) (by omega) (Int.le_refl _) a1 c1 (by simp only [List.length_nil]; omega)
  rw [c2] at h
  simp only [Int.toNat_natCast] at h
  rw [show (((d.extract R.2.toNat d.size).size : Int) == s2) = true from beq_iff_eq.mpr hz] at h
  rw [e2, if_pos c1, if_pos (Int.le_refl _), e3, if_pos a1, if_pos c1]
  exact h
theorem IV (k : Nat) (hk : K0 + 20 ≤ k) (kind : Int) (d : ByteArray) : dn.f k kind d = some (prt kind d) := by
  unfold dn.f prt
  rw [zW k (by omega)]
  simp only [Option.bind_some]
  by_cases h : vS kind d = true
  · rw [if_pos h, if_pos h]
    cases hs : aD.yg kind with
    | none => rfl
    | some s =>
      obtain ⟨R, c1, c2, c3, c4, c5, c6, c7, c8, c9⟩ := oU h hs
      obtain ⟨a1, a2, a3, a4, a5, a6, a7, a8⟩ := kK hs
      obtain ⟨h0, _⟩ := tQ.mp h
      obtain ⟨s0, s1, s2⟩ := s
      simp only at a1 a2 a3 a4 a5 a6 c1 c2 c3 c5
      simp only [c2]
      exact vM k hk d h0 s0 s1 s2 a1 a3 a4 a5 a6 R c1 c2 c3
  · rw [if_neg h, if_neg h]
theorem zX {kind : Int} {d : ByteArray} : (∀ x ∈ (prt kind d).2.2.1, jB x = true) ∧ (prt kind d).2.2.1.length ≤ 2 := by
  unfold prt
  by_cases h : vS kind d = true
  · rw [if_pos h]
    cases hs : aD.yg kind with
    | none => exact ⟨by simp, by simp⟩
    | some s =>
      obtain ⟨R, c1, c2, c3, c4, c5, c6, c7, c8, c9⟩ := oU h hs
      obtain ⟨a1, a2, a3, a4, a5, a6, a7, a8⟩ := kK hs
      simp only [c2]
      exact ⟨c8, by omega⟩
  · rw [if_neg h]; exact ⟨by simp, by simp⟩
theorem vB (k : Nat) (hk : 600 ≤ k) (n : ByteArray) (hs : n.size ≤ 1000000000) : l6.f k n = some (if jB n = true then nW n else ⟨#[]⟩) := by
  unfold l6.f
  rw [DF k hk n hs, TI n hs]
  simp only [Option.bind_some]
  split <;> rfl
theorem yu (k : Nat) (hk : 600 ≤ k) (n : ByteArray) (hs : n.size ≤ 1000000000) : fu.f k n = some (if jB n = true then nW n else ⟨#[]⟩) := by
  unfold fu.f
  rw [tC k hk n hs, Lg n hs]
  simp only [Option.bind_some]
  split <;> rfl
theorem all_eq (k : Nat) (hk : 600 ≤ k) : ∀ l : List ByteArray, (∀ x ∈ l, jB x = true) → eD.all k l = some (l.map nW)
  | [], _ => rfl
  | x :: l, h => by
    have hx := h x (by simp)
    have hz := oQ hx
    rw [eD.all, vB k hk x (by omega), if_pos hx]
    simp only [Option.bind_some]
    rw [all_eq k hk l (fun y hy => h y (by simp [hy]))]
    rfl
theorem tT : ∀ l : List ByteArray, (strings_Join.cat (l.map nW)).size = (strings_Join.cat l).size
  | [] => rfl
  | x :: l => by rw [List.map_cons, strings_Join.cat, strings_Join.cat, ByteArray.size_append, ByteArray.size_append, zR, tT l]
def lw (kind : Int) (d : ByteArray) : ByteArray := (prt kind d).1 ++ strings_Join.cat ((prt kind d).2.2.1.map nW) ++ (prt kind d).2.1
theorem IW {kind : Int} {d : ByteArray} : (prt kind d).1.size ≤ 65535 ∧ (prt kind d).2.1.size ≤ 65535 := by
  unfold prt
  by_cases h : vS kind d = true
  · obtain ⟨h0, _⟩ := tQ.mp h
    rw [if_pos h]
    cases hs : aD.yg kind with
    | none => exact ⟨h0, by show (⟨#[]⟩ : ByteArray).size ≤ 65535; decide⟩
    | some s =>
      obtain ⟨R, c1, c2, _⟩ := oU h hs
      simp only [c2]
      simp only [ByteArray.size_extract]
      omega
  · rw [if_neg h]; exact ⟨by decide, by decide⟩
theorem Pn (k : Nat) (hk : K0 + 20 ≤ k) (kind : Int) (d : ByteArray) : eD.f k kind d = some (lw kind d) := by
  obtain ⟨p1, p2⟩ := @zX kind d
  obtain ⟨p3, p4⟩ := @IW kind d
  have hcz := tO p1
  unfold eD.f
  rw [IV k hk]
  simp only [Option.bind_some]
  rw [all_eq k (by unfold K0 at hk; omega) _ p1]
  simp only [Option.bind_some]
  unfold eD.fin lw
  rw [if_pos (by rw [tT]; omega), if_pos (by rw [List.length_map]; omega)]
theorem tV (d : ByteArray) (e s0 s1 s2 : Int) (hm : d.size ≤ 100000) (he : e ≤ (d.size : Int)) (hs : s1 ≤ 100) : ∀ (n k : Nat) (l : List ByteArray) (i x : Int) (R : List ByteArray × Int), K0 + n ≤ k → x + n = s1 → 0 ≤ x → i ≤ e → l.length + n ≤ 1000 → DX d e n i l = some R →
    bg.l0 (k + 1) d l i x s0 s1 s2 = some R.1
  | 0, k, l, i, x, R, hk, hx, hx0, hi, hl, h => by
    cases h
    rw [bg.l0, if_neg (by omega)]
  | n + 1, k, l, i, x, R, hk, hx, hx0, hi, hl, h => by
    obtain ⟨k, rfl⟩ : ∃ m, k = m + 1 := ⟨k - 1, by omega⟩
    rw [DX] at h
    rw [bg.l0, if_pos (by omega), uM (k + 1) d i hm (pX hm (by omega) (by omega))]
    simp only [Option.bind_some]
    by_cases h0 : (vv d i).2.2 = 0
    · rw [if_pos h0] at h
      by_cases h1 : (vv d i).2.1 > e
      · rw [if_pos h1] at h; cases h
      · rw [if_neg h1] at h
        rw [if_pos (by omega), dO (by omega) (by omega)]
        exact tV d e s0 s1 s2 hm he hs n k _ _ _ R (by omega) (by omega) (by omega) (by omega) (by rw [List.length_append, List.length_singleton]; omega) h
    · rw [if_neg h0] at h; cases h
theorem BM (k : Nat) (hk : K0 + 20 ≤ k) (kind : Int) (d : ByteArray) : bg.f k kind d = some (prt kind d).2.2.1 := by
  unfold bg.f prt
  rw [mQ k (by omega), nR k (by omega)]
  simp only [Option.bind_some]
  obtain ⟨k, rfl⟩ : ∃ j, k = j + 1 := ⟨k - 1, by omega⟩
  by_cases h : vS kind d = true
  · rw [if_pos h, if_pos h]
    obtain ⟨h0, _⟩ := tQ.mp h
    cases hs : aD.yg kind with
    | none =>
      rw [Option.getD_none, bg.l0, if_neg (by decide)]
    | some s =>
      obtain ⟨R, c1, c2, c3, c4, c5, c6, c7, c8, c9⟩ := oU h hs
      obtain ⟨a1, a2, a3, a4, a5, a6, a7, a8⟩ := kK hs
      simp only [c2, Option.getD_some]
      exact tV d d.size _ _ _ (by omega) (Int.le_refl _) (by omega) s.2.1.toNat k [] s.1 0 R (by omega) (by omega) (Int.le_refl _) c1 (by simp only [List.length_nil]; omega) c2
  · rw [if_neg h, if_neg h]
theorem Po {α} (d : α) (p : List α) (x : α) (s : List α) : oG d (p ++ x :: s) (p.length : Int) = x := by
  unfold oG; simp
theorem qY (d : ByteArray) (hd : d.size ≤ 65535) (xs : List ByteArray) (hxs : xs.length ≤ 1000) : ∀ (suf pre : List ByteArray) (k : Nat) (out : ByteArray) (i : Int), xs = pre ++ suf → (∀ x ∈ suf, jB x = true) → 700 + suf.length ≤ k → 0 ≤ i → i + (strings_Join.cat suf).size ≤ d.size → out.size + (strings_Join.cat suf).size ≤ 1000000 →
    bG.l0 (k + 1) d xs out i (pre.length : Int) = some (out ++ strings_Join.cat (suf.map nW) ++ d.extract (i + (strings_Join.cat suf).size).toNat d.size)
  | [], pre, k, out, i, hx, hn, hk, hi, hs, ho => by
    rw [List.append_nil] at hx
    subst hx
    have hz : (d.extract i.toNat d.size).size ≤ 65535 := by rw [ByteArray.size_extract]; omega
    simp only [strings_Join.cat, List.map_nil, Dp, append_empty] at hs ho ⊢
    rw [bG.l0, if_neg (by omega), if_pos hi, if_pos (by omega), if_pos (by omega)]
    congr 3
    omega
  | x :: suf, pre, k, out, i, hx, hn, hk, hi, hs, ho => by
    obtain ⟨k, rfl⟩ : ∃ j, k = j + 1 := ⟨k - 1, by simp only [List.length_cons] at hk; omega⟩
    have hxn := hn x (by simp)
    have hz := oQ hxn
    have hrd : oG ByteArray.empty xs (pre.length : Int) = x := by rw [hx]; exact Po _ _ _ _
    have hl : (xs.length : Int) = pre.length + suf.length + 1 := by rw [hx]; simp; omega
    simp only [List.length_cons, strings_Join.cat, ByteArray.size_append] at hk hs ho
    have hlz := zR x
    rw [bG.l0, if_pos (by omega), if_pos (by omega), hrd, yu (k + 1) (by omega) x (by omega), if_pos hxn]
    simp only [Option.bind_some]
    rw [if_pos (by omega), dO (n := i + (x.size : Int)) (by omega) (by omega), dO (by omega) (by omega), show ((pre.length : Int) + 1) = ((pre ++ [x]).length : Int) from by simp]
    have := qY d hd xs hxs suf (pre ++ [x]) k (out ++ nW x) (i + x.size) (by rw [hx]; simp) (fun y hy => hn y (by simp [hy])) (by omega) (by omega) (by omega) (by rw [ByteArray.size_append]; omega)
    rw [this]
    have e : i + (x.size : Int) + ((strings_Join.cat suf).size : Int) = i + ((x.size + (strings_Join.cat suf).size : Nat) : Int) := by omega
    rw [e]
    simp only [List.map_cons, strings_Join.cat, ByteArray.size_append, ByteArray.append_assoc]
theorem Fg (k : Nat) (hk : K0 + 20 ≤ k) (kind : Int) (d : ByteArray) : bG.f k kind d = some (lw kind d) := by
  obtain ⟨p1, p2⟩ := @zX kind d
  unfold bG.f
  rw [mQ k (by omega), BM k hk, nR k (by omega)]
  simp only [Option.bind_some]
  unfold lw prt
  unfold prt at p1 p2
  unfold K0 at hk
  obtain ⟨k, rfl⟩ : ∃ j, k = j + 1 := ⟨k - 1, by omega⟩
  by_cases h : vS kind d = true
  · simp only [if_pos h] at p1 p2 ⊢
    obtain ⟨h0, _⟩ := tQ.mp h
    cases hs : aD.yg kind with
    | none =>
      simp only [Option.getD_none]
      rw [if_pos (Int.le_refl _), if_pos (by omega)]
      have := qY d h0 [] (by simp) [] [] k (d.extract 0 0) 0 rfl (by simp) (by simp only [List.length_nil]; omega) (Int.le_refl _) (by simp only [strings_Join.cat, uP]; omega) (by simp only [strings_Join.cat, uP, ByteArray.size_extract]; omega)
      simp only [List.length_nil] at this
      rw [show ((0 : Int).toNat) = 0 from rfl, show ((0 : Nat) : Int) = 0 from rfl] at *
      rw [this]
      have e0 : d.extract 0 0 = ⟨#[]⟩ := eq_empty (by rw [ByteArray.size_extract]; omega)
      simp [strings_Join.cat, e0, empty_append, append_empty, uP, ByteArray.extract_zero_size]
    | some s =>
      obtain ⟨R, c1, c2, c3, c4, c5, c6, c7, c8, c9⟩ := oU h hs
      obtain ⟨a1, a2, a3, a4, a5, a6, a7, a8⟩ := kK hs
      simp only [hs, c2, Option.getD_some] at p1 p2 ⊢
      have hcz := tO p1
      rw [if_pos a1, if_pos c1]
      have := qY d h0 R.1 (by omega) R.1 [] k (d.extract 0 s.1.toNat) s.1 rfl p1 (by omega) a1 (by omega) (by rw [ByteArray.size_extract]; omega)
      rw [show ((([] : List ByteArray).length : Nat) : Int) = 0 from rfl] at this
      rw [this, c9]
  · simp only [if_neg h]
    rfl
end Go.Proofs.Ytdkkgecdhapfhaa.ZQ
set_option maxRecDepth 100000
namespace Go.Proofs.Ytdkkgecdhapfhaa.Ka
open Go Go.RowKit Ev
abbrev AG := List AV → Option (List AV × List AV)
def Ui (g : ByteArray → SV) : AG := fun gG => match gG with
  | [.one (.f (.str q))] => if q.size ≤ 1000000 then some (L8 [g q], L8 [.str q]) else none
  | _ => none
def Uj (g : Int → ByteArray → SV) : AG := fun gG => match gG with
  | [.one (.f (.int .i64 k)), .one (.f (.str q))] => if q.size ≤ 1000000 then some (L8 [g k q], L8 [.int .i64 k, .str q]) else none
  | _ => none
theorem vX {f : FuncId} {g : ByteArray → SV} (h : ∀ q w, q.size ≤ 1000000 → Calls Try.prog f #[.string q] w fun e w' => e = .returned (encS (g q)) ∧ Below w.heap.size w w') : Sat Try.prog f (Ui g) := by
  refine Sat.wm fun gG r he => ?_
  unfold Ui at he
  split at he
  · split at he
    · cases he; rename_i q hq; exact ⟨[.str q], [g q], rfl, rfl, fun w => h q w hq⟩
    · cases he
  · cases he
theorem vY {f : FuncId} {g : Int → ByteArray → SV} (h : ∀ k q w, q.size ≤ 1000000 → Calls Try.prog f #[.int .i64 k, .string q] w fun e w' => e = .returned (encS (g k q)) ∧ Below w.heap.size w w') : Sat Try.prog f (Uj g) := by
  refine Sat.wm fun gG r he => ?_
  unfold Uj at he
  split at he
  · split at he
    · cases he; rename_i k q hq; exact ⟨[.int .i64 k, .str q], [g k q], rfl, rfl, fun w => h k q w hq⟩
    · cases he
  · cases he
def Uk (q : ByteArray) : ByteArray := if B.jB q = true then B.nW q else ⟨#[]⟩
def GU : Th := ⟨B.jB, Uk, ZQ.vS, ZQ.lw⟩
def leafs : List (FuncId × AG) := [
  (91, Ui fun q => .bool (B.jB q)), (92, Ui fun q => .str (Uk q)),
  (100, Ui fun q => .bool (B.jB q)), (101, Ui fun q => .str (Uk q)),
  (94, Uj fun k q => .bool (ZQ.vS k q)), (95, Uj fun k q => .str (ZQ.lw k q)),
  (83, Uj fun k q => .bool (ZQ.vS k q)), (84, Uj fun k q => .str (ZQ.lw k q)),
  (88, NH 1 false), (70, NH 3 true)]
theorem DZ : ∀ p ∈ leafs, Sat Try.prog p.1 p.2 := by
  have hk : ∀ q : ByteArray, q.size ≤ 1000000 → q.size ≤ 1000000000 := fun q h => by omega
  intro p hp
  simp only [leafs, List.mem_cons, List.not_mem_nil, or_false] at hp
  rcases hp with rfl | rfl | rfl | rfl | rfl | rfl | rfl | rfl | rfl | rfl
  · exact vX fun q w hq => ZQ.iK.calls 600 q _ w (ZQ.DF 600 (Nat.le_refl _) q (hk q hq))
  · exact vX fun q w hq => ZQ.l6.calls 600 q _ w (ZQ.vB 600 (Nat.le_refl _) q (hk q hq))
  · exact vX fun q w hq => ZQ.dA.calls 600 q _ w (ZQ.tC 600 (Nat.le_refl _) q (hk q hq))
  · exact vX fun q w hq => ZQ.fu.calls 600 q _ w (ZQ.yu 600 (Nat.le_refl _) q (hk q hq))
  · exact vY fun k q w hq => ZQ.iN.calls _ k q _ w (ZQ.zW (ZQ.K0 + 20) (by omega) k q)
  · exact vY fun k q w hq => ZQ.eD.calls _ k q _ w (ZQ.Pn (ZQ.K0 + 20) (by omega) k q)
  · exact vY fun k q w hq => ZQ.bR.calls _ k q _ w (ZQ.mQ (ZQ.K0 + 20) (by omega) k q)
  · exact vY fun k q w hq => ZQ.bG.calls _ k q _ w (ZQ.Fg (ZQ.K0 + 20) (by omega) k q)
  · exact NI
  · exact NJ
theorem yw : ∀ p ∈ leafs, ∃ fn, Try.prog.funcs[p.1]? = some fn ∧ (fn.name == "runtime.NumGoroutine") = false ∧ fn.body.isSome = true := by
  intro p hp
  simp only [leafs, List.mem_cons, List.not_mem_nil, or_false] at hp
  rcases hp with rfl | rfl | rfl | rfl | rfl | rfl | rfl | rfl | rfl | rfl
  · exact ⟨Try.f91, by kernel_rfl, by kernel_rfl, by kernel_rfl⟩
  · exact ⟨Try.f92, by kernel_rfl, by kernel_rfl, by kernel_rfl⟩
  · exact ⟨Try.f100, by kernel_rfl, by kernel_rfl, by kernel_rfl⟩
  · exact ⟨Try.f101, by kernel_rfl, by kernel_rfl, by kernel_rfl⟩
  · exact ⟨Try.f94, by kernel_rfl, by kernel_rfl, by kernel_rfl⟩
  · exact ⟨Try.f95, by kernel_rfl, by kernel_rfl, by kernel_rfl⟩
  · exact ⟨Try.f83, by kernel_rfl, by kernel_rfl, by kernel_rfl⟩
  · exact ⟨Try.f84, by kernel_rfl, by kernel_rfl, by kernel_rfl⟩
  · exact ⟨Try.f88, by kernel_rfl, by kernel_rfl, by kernel_rfl⟩
  · exact ⟨Try.f70, by kernel_rfl, by kernel_rfl, by kernel_rfl⟩
def Fh : Env := sH leafs
theorem Pp : iO Try.prog Fh := xA DZ
theorem IX : eO Try.prog Fh := qQ yw
noncomputable def ins : List (FuncId × AG) := (19, uW Fh 200000000000001 9) :: leafs
theorem Ul : ∀ p ∈ ins, Sat Try.prog p.1 p.2 := by
  intro p hp
  rcases List.mem_cons.mp hp with rfl | hp
  · exact NK Pp IX _ _
  · exact DZ p hp
theorem LW : ∀ p ∈ ins, ∃ fn, Try.prog.funcs[p.1]? = some fn ∧ (fn.name == "runtime.NumGoroutine") = false ∧ fn.body.isSome = true := by
  intro p hp
  rcases List.mem_cons.mp hp with rfl | hp
  · exact ⟨Try.f19, by kernel_rfl, by kernel_rfl, by kernel_rfl⟩
  · exact yw p hp
noncomputable def ext1 : Env := sH ins
theorem Pq : iO Try.prog ext1 := xA Ul
theorem IY : eO Try.prog ext1 := qQ LW
theorem Zo : GU.Ok Fh := by
  constructor <;> intros <;> simp_all [Fh, leafs, sH, Ui, Uj, L8, tvS, GU, vs, vb, vi]
theorem GV {α : Type} (sz : Nat) (own : Bool) (l : List α) (f : α → List FV) (hf : ∀ x, (f x).length = sz) (h : l.length ≤ 1000000) : NH sz own [vl (l.map f)] = some ([.one (if own then .own sz (l.map f) else .f (.sl (l.map f)))], [vl (l.map f)]) := by
  have h1 : ((l.map f).all fun r => r.length == sz) = true := by
    rw [List.all_eq_true]; intro r hr; obtain ⟨x, -, rfl⟩ := List.mem_map.mp hr; exact beq_iff_eq.mpr (hf x)
  show (if (l.map f).length ≤ 1000000 ∧ _ then _ else _) = _
  rw [if_pos ⟨by rw [List.length_map]; exact h, h1⟩]
theorem Zp (l : List ByteArray) (h : l.length ≤ 1000000) : NH 1 false [vl (l.map gI)] = some ([vl (l.map gI)], [vl (l.map gI)]) := GV 1 false l gI (fun _ => rfl) h
theorem Zq (l : List Qn) (h : l.length ≤ 1000000) : NH 3 true [vl (l.map rQ)] = some ([.one (.own 3 (l.map rQ))], [vl (l.map rQ)]) := GV 3 true l rQ (fun _ => rfl) h
theorem Zr : qO Fh := ⟨fun l h => Zq l h, fun l h => Zp l h⟩
theorem Um : qO ext1 := ⟨fun l h => Zq l h, fun l h => Zp l h⟩
theorem D5 (gG : List AV) : ext1 19 gG = uW Fh 200000000000001 (0 + 9) gG := by
  unfold ext1 ins sH; rw [if_pos rfl]
theorem Pt : F5 GU ext1 where
  p0 now x r := by rw [D5]; exact KA now x r
  p1 s now x r h1 h2 h3 _ h4 h5 h6 := by rw [D5]; exact KC Zo Zr s now x r (Nat.le_refl _) h1 h2 h3 h4 h5 h6
theorem Pv : GU.Live := by constructor <;> decide +kernel
end Go.Proofs.Ytdkkgecdhapfhaa.Ka

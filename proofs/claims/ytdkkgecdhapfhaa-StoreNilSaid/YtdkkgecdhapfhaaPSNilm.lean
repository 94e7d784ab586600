/- A part of the proof of StoreNil: cut, joined and given short names by a program of this session (wip/tools/pack.py); Lean checks it. No condition. -/
import Derived.Test.YtdkkgecdhapfhaaPSNilj
import Derived.Test.YtdkkgecdhapfhaaPSNill
import Derived.Test.YtdkkgecdhapfhaaPSNilk
import Derived.Test.YtdkkgecdhapfhaaPSNili
import Derived.Test.YtdkkgecdhapfhaaPSNild
set_option linter.unusedSectionVars false
set_option linter.unusedSimpArgs false
set_option linter.unusedVariables false
namespace Go.Proofs.Ytdkkgecdhapfhaa.ZQ
open Go.RowKit Go.Proofs.YtdkkgecdhapfhaaW.bD Go.Proofs.YtdkkgecdhapfhaaW.dV Go.Proofs.YtdkkgecdhapfhaaW.eF
attribute [local go_sem] jh ji jZ j3 iC iD jk jl
attribute [local go_sem high] TS
def aH.j0 : Nat → Int → Bool → Option (Int × Int × Int)
  | 0, _, _ => none
  | k + 1, x3, x4 => if x4 = true then (some (0, 1, 0)) else (if x3 = 6 then (some (0, 2, 20)) else (if x3 = 15 then (some (2, 1, 0)) else (if x3 = 33 then (some (6, 1, 0)) else (if x3 = 1 then (some (4, 0, 0)) else (if x3 = 28 then (some (16, 0, 0)) else (some (0, 0, 0)))))))
def aH.f (k : Nat) (a0 : Int) : Option (Int × Int × Int) := if a0 = 2 then (aH.j0 k a0 (a0 == 2)) else (if a0 = 5 then (aH.j0 k a0 (a0 == 5)) else (aH.j0 k a0 (a0 == 12)))
set_option maxHeartbeats 8000000 in
set_option maxRecDepth 100000 in
theorem aH.calls (k : Nat) (a0 : Int) (r1 : Int) (r2 : Int) (r3 : Int) (w : World) (h : aH.f k a0 = some (r1, r2, r3)) :
    Calls Try.prog 106 #[.int .i64 a0] w fun e w' => e = .returned (.agg #[.int .i64 r1, .int .i64 r2, .int .i64 r3]) ∧ Below w.heap.size w w' := by
  have Lu := Try.underlying142
  have HB := aj.mk (Below.refl w.heap.size w)
  have H : (if a0 = 2 then (aH.j0 k a0 (a0 == 2)) else (if a0 = 5 then (aH.j0 k a0 (a0 == 5)) else (aH.j0 k a0 (a0 == 12)))) = some (r1, r2, r3) := h
  clear h
  have TA := aj.mk H
  clear H
  go_enter Try.func106, Try.ntmps106
  go_upto_if 4 with (first | ((with_reducible refine gF (N := 2) rfl ?_); refine fO ?hg (N := 2) ?hd (cs := #[.int .i64 0, .int .i64 0, .int .i64 0]) (t := 142) ?hr ?_; (case hd => rfl); (case hg => rfl); (case hr => first | (go_simp; done) | (go_simp; rfl)); intro gU hg w3 gT hb; have dY := aj.mk (bE (by repeat (first | (with_reducible first | exact HB.out | apply ak | apply ah | apply au) | exact HB.out)) hb); have gW := aj.mk (gT); have iZ := aj.mk ((by rw [hg]; exact (bL (by repeat (first | (with_reducible first | exact HB.out | apply ak | apply ah | apply au) | exact HB.out))) : w.heap.size ≤ gU)); have jE := aj.mk ((by rw [hg]; exact (bL (by repeat (first | (with_reducible first | exact HB.out | apply ak | apply ah | apply au) | exact HB.out))) : w.heap.size ≤ gU)); clear HB; have HB := dY; have dU := gW; have afA := iZ; have qF := jE; clear dY gW iZ jE; clear hb gT hg))
  (try simp only [Act.put, List.setIfInBounds_toArray, List.set_cons_zero, List.set_cons_succ])
  go_cut [4] (fun v4 wc => ∃ (kq : Nat) (qg : Bool), v4 = .bool qg ∧ aj (aH.j0 kq a0 qg = some (r1, r2, r3)) ∧ aj (kq ≤ k) ∧ aj (wc.heap[gU]? = some (.cells #[.int .i64 0, .int .i64 0, .int .i64 0] 142 (0, 0))) ∧ aj (Below w.heap.size w wc))
  case first =>
    have H := TA.out
    clear TA
    by_cases c4 : a0 = 2
    · rw [if_pos c4] at H
      have qj : (a0 == 2) = true := beq_iff_eq.mpr c4
      have Il : (a0 != 2) = false := bne_eq_false_iff_eq.mpr c4
      clear c4
      (first | rw [qj] | rw [K6] | (simp only [gN, ig]; rw [qj]) | skip)
      have H' := aj.mk H
      clear H
      go_wp2
      go_meet
      case rel => exact ⟨_, ((a0 == 2)), (by first | rfl | (simp; done) | (simp [*]; done) | (simp [B.aV]; done) | (simp [B.aW]; done)), H', ⟨by first | omega | exact Nat.le_refl _⟩, ⟨by (with_reducible repeat (first | refine aG ?_ _ | refine aI ?_ | refine aA ?_ _)); exact dU.out⟩, ⟨by repeat (first | (with_reducible first | exact HB.out | apply ak | apply ah | apply au | refine aR ?_ qF.out) | exact HB.out)⟩⟩
    · rw [if_neg c4] at H
      have qj : (a0 == 2) = false := beq_eq_false_iff_ne.mpr c4
      have Il : (a0 != 2) = true := bne_iff_ne.mpr c4
      (first | rw [qj] | rw [K6] | (simp only [gN, ig]; rw [qj]) | skip)
      by_cases c5 : a0 = 5
      · rw [if_pos c5] at H
        have oM : (a0 == 5) = true := beq_iff_eq.mpr c5
        have uE : (a0 != 5) = false := bne_eq_false_iff_eq.mpr c5
        clear c5
        have H' := aj.mk H
        clear H
        go_wp2
        go_meet
        case rel => exact ⟨_, ((a0 == 5)), (by first | rfl | (simp; done) | (simp [*]; done) | (simp [B.aV]; done) | (simp [B.aW]; done)), H', ⟨by first | omega | exact Nat.le_refl _⟩, ⟨by (with_reducible repeat (first | refine aG ?_ _ | refine aI ?_ | refine aA ?_ _)); exact dU.out⟩, ⟨by repeat (first | (with_reducible first | exact HB.out | apply ak | apply ah | apply au | refine aR ?_ qF.out) | exact HB.out)⟩⟩
      · rw [if_neg c5] at H
        have oM : (a0 == 5) = false := beq_eq_false_iff_ne.mpr c5
        have uE : (a0 != 5) = true := bne_iff_ne.mpr c5
        have H' := aj.mk H
        clear H
        go_wp2
        go_meet
        case rel => exact ⟨_, ((a0 == 12)), (by first | rfl | (simp; done) | (simp [*]; done) | (simp [B.aV]; done) | (simp [B.aW]; done)), H', ⟨by first | omega | exact Nat.le_refl _⟩, ⟨by (with_reducible repeat (first | refine aG ?_ _ | refine aI ?_ | refine aA ?_ _)); exact dU.out⟩, ⟨by repeat (first | (with_reducible first | exact HB.out | apply ak | apply ah | apply au | refine aR ?_ qF.out) | exact HB.out)⟩⟩
  case rest =>
    clear TA
    try clear c1
    try clear p2
    try clear c4
    try clear qj
    try clear Il
    try clear K6
    try clear c5
    try clear oM
    try clear uE
    obtain ⟨kq, qg, rfl, HA, HJ1, dU, HB⟩ := hcut
    cases kq with
    | zero => exact absurd HA.out (by simp [aH.j0])
    | succ kj1 =>
      have H := HA.out
      clear HA
      simp only [aH.j0] at H
      by_cases c6 : qg = true
      · subst c6
        have H1 : (some (0, 1, 0)) = some (r1, r2, r3) := by rw [if_pos rfl] at H; exact H
        clear H
        have H := H1
        clear H1
        simp only [Option.some.injEq, Prod.mk.injEq] at H
        obtain ⟨rfl, rfl, rfl⟩ := H
        have adH : wc.cell? ⟨gU, 0, none⟩ = some (.int .i64 0) := (aM dU.out 0).trans rfl
        have adI : wc.cell? ⟨gU, 1, none⟩ = some (.int .i64 0) := (aM dU.out 1).trans rfl
        have adJ : wc.cell? ⟨gU, 2, none⟩ = some (.int .i64 0) := (aM dU.out 2).trans rfl
        have adK := ay dU.out 0
        have adL := ay dU.out 1
        have adM := ay dU.out 2
        go_wp2
        refine bodyPost_ret (results_cell_row rfl _ _ gU 142 #[.int .i64 0, .int .i64 1, .int .i64 0] (0, 0) _ rfl (by (with_reducible repeat (first | refine aG ?_ _ | refine aI ?_ | refine aA ?_ _)); refine bU (cs := #[.int .i64 0, .int .i64 1, .int .i64 0]) ?_ 2 _ rfl; (with_reducible repeat (first | refine aG ?_ _ | refine aI ?_ | refine aA ?_ _)); refine bU (cs := #[.int .i64 0, .int .i64 0, .int .i64 0]) ?_ 1 _ rfl; (with_reducible repeat (first | refine aG ?_ _ | refine aI ?_ | refine aA ?_ _)); refine bU (cs := #[.int .i64 0, .int .i64 0, .int .i64 0]) ?_ 0 _ rfl; (with_reducible repeat (first | refine aG ?_ _ | refine aI ?_ | refine aA ?_ _)); exact dU.out) Try.underlying142 rfl (by kernel_rfl)) rfl ?_
        exact ⟨by first | rfl | (simp [aJ, aK] <;> rfl) | (simp [*, aJ, aK] <;> rfl), by repeat (first | (with_reducible first | exact HB.out | apply ak | apply ah | apply au | refine aR ?_ qF.out) | exact HB.out)⟩
      · replace c6 := Bool.eq_false_iff.mpr c6
        subst c6
        have H1 : (if a0 = 6 then (some (0, 2, 20)) else (if a0 = 15 then (some (2, 1, 0)) else (if a0 = 33 then (some (6, 1, 0)) else (if a0 = 1 then (some (4, 0, 0)) else (if a0 = 28 then (some (16, 0, 0)) else (some (0, 0, 0))))))) = some (r1, r2, r3) := by rw [if_neg (show ¬ (false = true) by decide)] at H; exact H
        clear H
        have H := H1
        clear H1
        by_cases c8 : a0 = 6
        · rw [if_pos c8] at H
          have qR : (a0 == 6) = true := beq_iff_eq.mpr c8
          have qU : (a0 != 6) = false := bne_eq_false_iff_eq.mpr c8
          clear c8
          simp only [Option.some.injEq, Prod.mk.injEq] at H
          obtain ⟨rfl, rfl, rfl⟩ := H
          have Lv : wc.cell? ⟨gU, 0, none⟩ = some (.int .i64 0) := (aM dU.out 0).trans rfl
          have Lx : wc.cell? ⟨gU, 1, none⟩ = some (.int .i64 0) := (aM dU.out 1).trans rfl
          have LA : wc.cell? ⟨gU, 2, none⟩ = some (.int .i64 0) := (aM dU.out 2).trans rfl
          have LB := ay dU.out 0
          have LC := ay dU.out 1
          have LD := ay dU.out 2
          go_wp2
          refine bodyPost_ret (results_cell_row rfl _ _ gU 142 #[.int .i64 0, .int .i64 2, .int .i64 20] (0, 0) _ rfl (by (with_reducible repeat (first | refine aG ?_ _ | refine aI ?_ | refine aA ?_ _)); refine bU (cs := #[.int .i64 0, .int .i64 2, .int .i64 0]) ?_ 2 _ rfl; (with_reducible repeat (first | refine aG ?_ _ | refine aI ?_ | refine aA ?_ _)); refine bU (cs := #[.int .i64 0, .int .i64 0, .int .i64 0]) ?_ 1 _ rfl; (with_reducible repeat (first | refine aG ?_ _ | refine aI ?_ | refine aA ?_ _)); refine bU (cs := #[.int .i64 0, .int .i64 0, .int .i64 0]) ?_ 0 _ rfl; (with_reducible repeat (first | refine aG ?_ _ | refine aI ?_ | refine aA ?_ _)); exact dU.out) Try.underlying142 rfl (by kernel_rfl)) rfl ?_
          exact ⟨by first | rfl | (simp [aJ, aK] <;> rfl) | (simp [*, aJ, aK] <;> rfl), by repeat (first | (with_reducible first | exact HB.out | apply ak | apply ah | apply au | refine aR ?_ qF.out) | exact HB.out)⟩
        · rw [if_neg c8] at H
          have qR : (a0 == 6) = false := beq_eq_false_iff_ne.mpr c8
          have qU : (a0 != 6) = true := bne_iff_ne.mpr c8
          by_cases c10 : a0 = 15
          · rw [if_pos c10] at H
            have qE : (a0 == 15) = true := beq_iff_eq.mpr c10
            have zL : (a0 != 15) = false := bne_eq_false_iff_eq.mpr c10
            clear c10
            simp only [Option.some.injEq, Prod.mk.injEq] at H
            obtain ⟨rfl, rfl, rfl⟩ := H
            have abw : wc.cell? ⟨gU, 0, none⟩ = some (.int .i64 0) := (aM dU.out 0).trans rfl
            have abx : wc.cell? ⟨gU, 1, none⟩ = some (.int .i64 0) := (aM dU.out 1).trans rfl
            have aby : wc.cell? ⟨gU, 2, none⟩ = some (.int .i64 0) := (aM dU.out 2).trans rfl
            have abz := ay dU.out 0
            have abA := ay dU.out 1
            have abB := ay dU.out 2
            go_wp2
            refine bodyPost_ret (results_cell_row rfl _ _ gU 142 #[.int .i64 2, .int .i64 1, .int .i64 0] (0, 0) _ rfl (by (with_reducible repeat (first | refine aG ?_ _ | refine aI ?_ | refine aA ?_ _)); refine bU (cs := #[.int .i64 2, .int .i64 1, .int .i64 0]) ?_ 2 _ rfl; (with_reducible repeat (first | refine aG ?_ _ | refine aI ?_ | refine aA ?_ _)); refine bU (cs := #[.int .i64 2, .int .i64 0, .int .i64 0]) ?_ 1 _ rfl; (with_reducible repeat (first | refine aG ?_ _ | refine aI ?_ | refine aA ?_ _)); refine bU (cs := #[.int .i64 0, .int .i64 0, .int .i64 0]) ?_ 0 _ rfl; (with_reducible repeat (first | refine aG ?_ _ | refine aI ?_ | refine aA ?_ _)); exact dU.out) Try.underlying142 rfl (by kernel_rfl)) rfl ?_
            exact ⟨by first | rfl | (simp [aJ, aK] <;> rfl) | (simp [*, aJ, aK] <;> rfl), by repeat (first | (with_reducible first | exact HB.out | apply ak | apply ah | apply au | refine aR ?_ qF.out) | exact HB.out)⟩
          · rw [if_neg c10] at H
            have qE : (a0 == 15) = false := beq_eq_false_iff_ne.mpr c10
            have zL : (a0 != 15) = true := bne_iff_ne.mpr c10
            by_cases c12 : a0 = 33
            · rw [if_pos c12] at H
              have sQ : (a0 == 33) = true := beq_iff_eq.mpr c12
              have sS : (a0 != 33) = false := bne_eq_false_iff_eq.mpr c12
              clear c12
              simp only [Option.some.injEq, Prod.mk.injEq] at H
              obtain ⟨rfl, rfl, rfl⟩ := H
              have Bn : wc.cell? ⟨gU, 0, none⟩ = some (.int .i64 0) := (aM dU.out 0).trans rfl
              have Bo : wc.cell? ⟨gU, 1, none⟩ = some (.int .i64 0) := (aM dU.out 1).trans rfl
              have Bp : wc.cell? ⟨gU, 2, none⟩ = some (.int .i64 0) := (aM dU.out 2).trans rfl
              have Bq := ay dU.out 0
              have Bt := ay dU.out 1
              have Bu := ay dU.out 2
              go_wp2
              refine bodyPost_ret (results_cell_row rfl _ _ gU 142 #[.int .i64 6, .int .i64 1, .int .i64 0] (0, 0) _ rfl (by (with_reducible repeat (first | refine aG ?_ _ | refine aI ?_ | refine aA ?_ _)); refine bU (cs := #[.int .i64 6, .int .i64 1, .int .i64 0]) ?_ 2 _ rfl; (with_reducible repeat (first | refine aG ?_ _ | refine aI ?_ | refine aA ?_ _)); refine bU (cs := #[.int .i64 6, .int .i64 0, .int .i64 0]) ?_ 1 _ rfl; (with_reducible repeat (first | refine aG ?_ _ | refine aI ?_ | refine aA ?_ _)); refine bU (cs := #[.int .i64 0, .int .i64 0, .int .i64 0]) ?_ 0 _ rfl; (with_reducible repeat (first | refine aG ?_ _ | refine aI ?_ | refine aA ?_ _)); exact dU.out) Try.underlying142 rfl (by kernel_rfl)) rfl ?_
              exact ⟨by first | rfl | (simp [aJ, aK] <;> rfl) | (simp [*, aJ, aK] <;> rfl), by repeat (first | (with_reducible first | exact HB.out | apply ak | apply ah | apply au | refine aR ?_ qF.out) | exact HB.out)⟩
            · rw [if_neg c12] at H
              have sQ : (a0 == 33) = false := beq_eq_false_iff_ne.mpr c12
              have sS : (a0 != 33) = true := bne_iff_ne.mpr c12
              by_cases c14 : a0 = 1
              · rw [if_pos c14] at H
                have zM : (a0 == 1) = true := beq_iff_eq.mpr c14
                have QC : (a0 != 1) = false := bne_eq_false_iff_eq.mpr c14
                clear c14
                simp only [Option.some.injEq, Prod.mk.injEq] at H
                obtain ⟨rfl, rfl, rfl⟩ := H
                have Bv : wc.cell? ⟨gU, 0, none⟩ = some (.int .i64 0) := (aM dU.out 0).trans rfl
                have Bw : wc.cell? ⟨gU, 1, none⟩ = some (.int .i64 0) := (aM dU.out 1).trans rfl
                have Bz : wc.cell? ⟨gU, 2, none⟩ = some (.int .i64 0) := (aM dU.out 2).trans rfl
                have BA := ay dU.out 0
                have BD := ay dU.out 1
                have BF := ay dU.out 2
                go_wp2
                refine bodyPost_ret (results_cell_row rfl _ _ gU 142 #[.int .i64 4, .int .i64 0, .int .i64 0] (0, 0) _ rfl (by (with_reducible repeat (first | refine aG ?_ _ | refine aI ?_ | refine aA ?_ _)); refine bU (cs := #[.int .i64 4, .int .i64 0, .int .i64 0]) ?_ 2 _ rfl; (with_reducible repeat (first | refine aG ?_ _ | refine aI ?_ | refine aA ?_ _)); refine bU (cs := #[.int .i64 4, .int .i64 0, .int .i64 0]) ?_ 1 _ rfl; (with_reducible repeat (first | refine aG ?_ _ | refine aI ?_ | refine aA ?_ _)); refine bU (cs := #[.int .i64 0, .int .i64 0, .int .i64 0]) ?_ 0 _ rfl; (with_reducible repeat (first | refine aG ?_ _ | refine aI ?_ | refine aA ?_ _)); exact dU.out) Try.underlying142 rfl (by kernel_rfl)) rfl ?_
                exact ⟨by first | rfl | (simp [aJ, aK] <;> rfl) | (simp [*, aJ, aK] <;> rfl), by repeat (first | (with_reducible first | exact HB.out | apply ak | apply ah | apply au | refine aR ?_ qF.out) | exact HB.out)⟩
              · rw [if_neg c14] at H
                have zM : (a0 == 1) = false := beq_eq_false_iff_ne.mpr c14
                have QC : (a0 != 1) = true := bne_iff_ne.mpr c14
                by_cases c16 : a0 = 28
                · rw [if_pos c16] at H
                  have Gf : (a0 == 28) = true := beq_iff_eq.mpr c16
                  have YK : (a0 != 28) = false := bne_eq_false_iff_eq.mpr c16
                  clear c16
                  simp only [Option.some.injEq, Prod.mk.injEq] at H
                  obtain ⟨rfl, rfl, rfl⟩ := H
                  have abC : wc.cell? ⟨gU, 0, none⟩ = some (.int .i64 0) := (aM dU.out 0).trans rfl
                  have abD : wc.cell? ⟨gU, 1, none⟩ = some (.int .i64 0) := (aM dU.out 1).trans rfl
                  have abE : wc.cell? ⟨gU, 2, none⟩ = some (.int .i64 0) := (aM dU.out 2).trans rfl
                  have abF := ay dU.out 0
                  have abG := ay dU.out 1
                  have abH := ay dU.out 2
                  go_wp2
                  refine bodyPost_ret (results_cell_row rfl _ _ gU 142 #[.int .i64 16, .int .i64 0, .int .i64 0] (0, 0) _ rfl (by (with_reducible repeat (first | refine aG ?_ _ | refine aI ?_ | refine aA ?_ _)); refine bU (cs := #[.int .i64 16, .int .i64 0, .int .i64 0]) ?_ 2 _ rfl; (with_reducible repeat (first | refine aG ?_ _ | refine aI ?_ | refine aA ?_ _)); refine bU (cs := #[.int .i64 16, .int .i64 0, .int .i64 0]) ?_ 1 _ rfl; (with_reducible repeat (first | refine aG ?_ _ | refine aI ?_ | refine aA ?_ _)); refine bU (cs := #[.int .i64 0, .int .i64 0, .int .i64 0]) ?_ 0 _ rfl; (with_reducible repeat (first | refine aG ?_ _ | refine aI ?_ | refine aA ?_ _)); exact dU.out) Try.underlying142 rfl (by kernel_rfl)) rfl ?_
                  exact ⟨by first | rfl | (simp [aJ, aK] <;> rfl) | (simp [*, aJ, aK] <;> rfl), by repeat (first | (with_reducible first | exact HB.out | apply ak | apply ah | apply au | refine aR ?_ qF.out) | exact HB.out)⟩
                · rw [if_neg c16] at H
                  have Gf : (a0 == 28) = false := beq_eq_false_iff_ne.mpr c16
                  have YK : (a0 != 28) = true := bne_iff_ne.mpr c16
                  simp only [Option.some.injEq, Prod.mk.injEq] at H
                  obtain ⟨rfl, rfl, rfl⟩ := H
                  have Gx : wc.cell? ⟨gU, 0, none⟩ = some (.int .i64 0) := (aM dU.out 0).trans rfl
                  have Gy : wc.cell? ⟨gU, 1, none⟩ = some (.int .i64 0) := (aM dU.out 1).trans rfl
                  have Gz : wc.cell? ⟨gU, 2, none⟩ = some (.int .i64 0) := (aM dU.out 2).trans rfl
                  have GA := ay dU.out 0
                  have GD := ay dU.out 1
                  have GH := ay dU.out 2
                  go_wp2
                  refine bodyPost_ret (results_cell_row rfl _ _ gU 142 #[.int .i64 0, .int .i64 0, .int .i64 0] (0, 0) _ rfl (by (with_reducible repeat (first | refine aG ?_ _ | refine aI ?_ | refine aA ?_ _)); refine bU (cs := #[.int .i64 0, .int .i64 0, .int .i64 0]) ?_ 2 _ rfl; (with_reducible repeat (first | refine aG ?_ _ | refine aI ?_ | refine aA ?_ _)); refine bU (cs := #[.int .i64 0, .int .i64 0, .int .i64 0]) ?_ 1 _ rfl; (with_reducible repeat (first | refine aG ?_ _ | refine aI ?_ | refine aA ?_ _)); refine bU (cs := #[.int .i64 0, .int .i64 0, .int .i64 0]) ?_ 0 _ rfl; (with_reducible repeat (first | refine aG ?_ _ | refine aI ?_ | refine aA ?_ _)); exact dU.out) Try.underlying142 rfl (by kernel_rfl)) rfl ?_
                  exact ⟨by first | rfl | (simp [aJ, aK] <;> rfl) | (simp [*, aJ, aK] <;> rfl), by repeat (first | (with_reducible first | exact HB.out | apply ak | apply ah | apply au | refine aR ?_ qF.out) | exact HB.out)⟩
def bn.l0 : Nat → ByteArray → Int → Option (Bool)
  | 0, _, _ => none
  | k + 1, x0, x3 => if x3 < (x0.size : Int) then (if 0 ≤ x3 then (bn.l0 k x0 (wrap64 ((wrap64 (x3 + 1)) + (wrap64 (bt x0 x3))))) else (none)) else (if x3 = (x0.size : Int) then (some (decide (x3 > 0))) else (some false))
def bn.f (k : Nat) (a0 : ByteArray) : Option (Bool) := bn.l0 k a0 0
set_option maxHeartbeats 8000000 in
set_option maxRecDepth 100000 in
theorem bn.calls (k : Nat) (a0 : ByteArray) (r : Bool) (w : World) (h : bn.f k a0 = some r) :
    Calls Try.prog 117 #[.string a0] w fun e w' => e = .returned (.bool r) ∧ aY w w' := by
  have H : (bn.l0 k a0 0) = some r := h
  clear h
  have H' := aj.mk H
  clear H
  go_enter Try.func117, Try.ntmps117
  go_wp2
  go_loopg [3] k (fun kq v3 w' => ∃ (nX : Int), v3 = .int .i64 nX ∧ aj (bn.l0 kq a0 nX = some r) ∧ aj (kq ≤ k) ∧ aY w w')
  case atStart => exact ⟨(0), (by first | rfl | (simp; done) | (simp [*]; done) | (simp [B.aV]; done) | (simp [B.aW]; done)), H', ⟨Nat.le_refl _⟩, by repeat (first | exact aY.refl _ | apply aY.step)⟩
  case round =>
    clear H'
    try clear c1
    obtain ⟨nX, rfl, HA, sO, ⟨m1, rfl⟩⟩ := hrel
    cases gk with
    | zero => exact absurd HA.out (by simp [bn.l0])
    | succ k1 =>
      have H := HA.out
      clear HA
      simp only [bn.l0] at H
      by_cases c2 : nX < (a0.size : Int)
      · rw [if_pos c2] at H
        have vE : decide (nX < (a0.size : Int)) = true := decide_eq_true c2
        clear c2
        by_cases c3 : 0 ≤ nX
        · rw [if_pos c3] at H
          have ql : decide (0 ≤ nX) = true := decide_eq_true c3
          clear c3
          have H' := aj.mk H
          clear H
          have p4 : 0 ≤ (nX : Int) := of_decide_eq_true (by first | (with_reducible assumption) | assumption)
          have q4 : nX < (a0.size : Int) := of_decide_eq_true (by first | (with_reducible assumption) | assumption)
          have hx4 := ny a0 nX
          replace p4 := eq_true p4
          replace q4 := eq_true q4
          go_wp2
          go_roundg k1
          case measure => have := sO.out; omega
          case rel => exact ⟨(wrap64 ((wrap64 (nX + 1)) + (wrap64 (bt a0 nX)))), (by first | rfl | (simp; done) | (simp [*]; done) | (simp [B.aV]; done) | (simp [B.aW]; done)), H', ⟨by have := sO.out; omega⟩, by repeat (first | exact aY.refl _ | apply aY.step)⟩
        · rw [if_neg c3] at H
          exact absurd H (by simp)
      · rw [if_neg c2] at H
        have vE : decide (nX < (a0.size : Int)) = false := decide_eq_false c2
        clear c2
        by_cases c5 : nX = (a0.size : Int)
        · rw [if_pos c5] at H
          have oM : (nX == (a0.size : Int)) = true := beq_iff_eq.mpr c5
          have uE : (nX != (a0.size : Int)) = false := bne_eq_false_iff_eq.mpr c5
          clear c5
          obtain rfl := Option.some.inj H
          go_wp2
          go_ret
          exact ⟨by first | rfl | (simp; done) | (simp [*]; done), by repeat (first | exact aY.refl _ | apply aY.step)⟩
        · rw [if_neg c5] at H
          have oM : (nX == (a0.size : Int)) = false := beq_eq_false_iff_ne.mpr c5
          have uE : (nX != (a0.size : Int)) = true := bne_iff_ne.mpr c5
          obtain rfl := Option.some.inj H
          go_wp2
          go_ret
          exact ⟨by first | rfl | (simp; done) | (simp [*]; done), by repeat (first | exact aY.refl _ | apply aY.step)⟩
def aX.l0 : Nat → ByteArray → Int → Int → ByteArray → Int → Int → Int → Int → Int → Option (ByteArray × Int)
  | 0, _, _, _, _, _, _, _, _, _ => none
  | k + 1, x0, x1, x2, YL, NW, x15, OC, GI, GJ => if x15 < GI then ((aU.f k x0 NW).bind fun GK => (if GK.2.2 = 0 then (if YL.size + GK.1.size ≤ 9223372036854775807 then (aX.l0 k x0 x1 x2 (YL ++ GK.1) GK.2.1 (wrap64 (x15 + 1)) OC GI GJ) else (none)) else (some ((⟨#[]⟩ : ByteArray), 4)))) else (if (wrap64 (NW + GJ)) = (wrap64 (x1 + x2)) then (if 0 ≤ NW then (if NW ≤ (wrap64 (x1 + x2)) then (if (wrap64 (x1 + x2)) ≤ (x0.size : Int) then (if YL.size + (x0.extract (NW : Int).toNat ((wrap64 (x1 + x2)) : Int).toNat).size ≤ 9223372036854775807 then (if ((YL ++ (x0.extract (NW : Int).toNat ((wrap64 (x1 + x2)) : Int).toNat)).size : Int) > 65535 then (some ((⟨#[]⟩ : ByteArray), 4)) else (some (YL ++ (x0.extract (NW : Int).toNat ((wrap64 (x1 + x2)) : Int).toNat), 0))) else (none)) else (none)) else (none)) else (none)) else (some ((⟨#[]⟩ : ByteArray), 4)))
def aX.f (k : Nat) (a0 : ByteArray) (a1 : Int) (a2 : Int) (a3 : Int) : Option (ByteArray × Int) := (bC.f a0 a1 a2).bind fun kU => (if kU.2 = true then ((aH.f k a3).bind fun eT => (if (eT.1 == 0 && (eT.2.1 == 0 && (eT.2.2 == 0))) = true then (if a3 = 16 then ((bn.f k kU.1).bind fun vH => (if vH = true then (if (kU.1.size : Int) > 65535 then (some ((⟨#[]⟩ : ByteArray), 4)) else (some (kU.1, 0))) else (some ((⟨#[]⟩ : ByteArray), 4)))) else (if (kU.1.size : Int) > 65535 then (some ((⟨#[]⟩ : ByteArray), 4)) else (some (kU.1, 0)))) else (if eT.1 > a2 then (some ((⟨#[]⟩ : ByteArray), 4)) else (if 0 ≤ eT.1 then (if eT.1 ≤ (kU.1.size : Int) then (aX.l0 k a0 a1 a2 (kU.1.extract 0 (eT.1 : Int).toNat) (wrap64 (a1 + eT.1)) 0 eT.1 eT.2.1 eT.2.2) else (none)) else (none))))) else (some ((⟨#[]⟩ : ByteArray), 2)))
set_option maxHeartbeats 8000000 in
set_option maxRecDepth 100000 in
theorem aX.calls (k : Nat) (a0 : ByteArray) (a1 : Int) (a2 : Int) (a3 : Int) (r1 : ByteArray) (r2 : Int) (w : World) (h : aX.f k a0 a1 a2 a3 = some (r1, r2)) :
    Calls Try.prog 104 #[.string a0, .int .i64 a1, .int .i64 a2, .int .i64 a3] w fun e w' => e = .returned (.tuple #[.string r1, .int .i64 r2]) ∧ Below w.heap.size w w' := by
  have Lu := Try.underlying142
  have HB := aj.mk (Below.refl w.heap.size w)
  have H : ((bC.f a0 a1 a2).bind fun kU => (if kU.2 = true then ((aH.f k a3).bind fun eT => (if (eT.1 == 0 && (eT.2.1 == 0 && (eT.2.2 == 0))) = true then (if a3 = 16 then ((bn.f k kU.1).bind fun vH => (if vH = true then (if (kU.1.size : Int) > 65535 then (some ((⟨#[]⟩ : ByteArray), 4)) else (some (kU.1, 0))) else (some ((⟨#[]⟩ : ByteArray), 4)))) else (if (kU.1.size : Int) > 65535 then (some ((⟨#[]⟩ : ByteArray), 4)) else (some (kU.1, 0)))) else (if eT.1 > a2 then (some ((⟨#[]⟩ : ByteArray), 4)) else (if 0 ≤ eT.1 then (if eT.1 ≤ (kU.1.size : Int) then (aX.l0 k a0 a1 a2 (kU.1.extract 0 (eT.1 : Int).toNat) (wrap64 (a1 + eT.1)) 0 eT.1 eT.2.1 eT.2.2) else (none)) else (none))))) else (some ((⟨#[]⟩ : ByteArray), 2)))) = some (r1, r2) := h
  clear h
  replace H := zbm H
  obtain ⟨⟨t160, YM⟩, QK, H⟩ := H
  replace H : (if YM = true then ((aH.f k a3).bind fun eT => (if (eT.1 == 0 && (eT.2.1 == 0 && (eT.2.2 == 0))) = true then (if a3 = 16 then ((bn.f k t160).bind fun vH => (if vH = true then (if (t160.size : Int) > 65535 then (some ((⟨#[]⟩ : ByteArray), 4)) else (some (t160, 0))) else (some ((⟨#[]⟩ : ByteArray), 4)))) else (if (t160.size : Int) > 65535 then (some ((⟨#[]⟩ : ByteArray), 4)) else (some (t160, 0)))) else (if eT.1 > a2 then (some ((⟨#[]⟩ : ByteArray), 4)) else (if 0 ≤ eT.1 then (if eT.1 ≤ (t160.size : Int) then (aX.l0 k a0 a1 a2 (t160.extract 0 (eT.1 : Int).toNat) (wrap64 (a1 + eT.1)) 0 eT.1 eT.2.1 eT.2.2) else (none)) else (none))))) else (some ((⟨#[]⟩ : ByteArray), 2))) = some (r1, r2) := H
  have A5 := aj.mk QK
  clear QK
  by_cases c6 : YM = true
  · subst c6
    have H1 : ((aH.f k a3).bind fun eT => (if (eT.1 == 0 && (eT.2.1 == 0 && (eT.2.2 == 0))) = true then (if a3 = 16 then ((bn.f k t160).bind fun vH => (if vH = true then (if (t160.size : Int) > 65535 then (some ((⟨#[]⟩ : ByteArray), 4)) else (some (t160, 0))) else (some ((⟨#[]⟩ : ByteArray), 4)))) else (if (t160.size : Int) > 65535 then (some ((⟨#[]⟩ : ByteArray), 4)) else (some (t160, 0)))) else (if eT.1 > a2 then (some ((⟨#[]⟩ : ByteArray), 4)) else (if 0 ≤ eT.1 then (if eT.1 ≤ (t160.size : Int) then (aX.l0 k a0 a1 a2 (t160.extract 0 (eT.1 : Int).toNat) (wrap64 (a1 + eT.1)) 0 eT.1 eT.2.1 eT.2.2) else (none)) else (none))))) = some (r1, r2) := by rw [if_pos rfl] at H; exact H
    clear H
    have H := H1
    clear H1
    replace H := zbm H
    obtain ⟨⟨t162, ku, t164⟩, XY, H⟩ := H
    replace H : (if (t162 == 0 && (ku == 0 && (t164 == 0))) = true then (if a3 = 16 then ((bn.f k t160).bind fun vH => (if vH = true then (if (t160.size : Int) > 65535 then (some ((⟨#[]⟩ : ByteArray), 4)) else (some (t160, 0))) else (some ((⟨#[]⟩ : ByteArray), 4)))) else (if (t160.size : Int) > 65535 then (some ((⟨#[]⟩ : ByteArray), 4)) else (some (t160, 0)))) else (if t162 > a2 then (some ((⟨#[]⟩ : ByteArray), 4)) else (if 0 ≤ t162 then (if t162 ≤ (t160.size : Int) then (aX.l0 k a0 a1 a2 (t160.extract 0 (t162 : Int).toNat) (wrap64 (a1 + t162)) 0 t162 ku t164) else (none)) else (none)))) = some (r1, r2) := H
    have A7 := aj.mk XY
    clear XY
    by_cases c8 : (t162 == 0 && (ku == 0 && (t164 == 0))) = true
    · rw [if_pos c8] at H
      have qR : (t162 == 0 && (ku == 0 && (t164 == 0))) = true := c8
      (try (have qU : decide (t162 = 0 && (ku == 0 && (t164 == 0))) = true := by simpa using c8))
      (try (have Lc : (t162 == 0 && (ku == 0 && (t164 == 0))) = true := by simpa using c8))
      clear c8
      by_cases c9 : a3 = 16
      · rw [if_pos c9] at H
        have sP : (a3 == 16) = true := beq_iff_eq.mpr c9
        have Dt : (a3 != 16) = false := bne_eq_false_iff_eq.mpr c9
        clear c9
        replace H := zbm H
        obtain ⟨vH, Lj, H⟩ := H
        replace H : (if vH = true then (if (t160.size : Int) > 65535 then (some ((⟨#[]⟩ : ByteArray), 4)) else (some (t160, 0))) else (some ((⟨#[]⟩ : ByteArray), 4))) = some (r1, r2) := H
        have QE := aj.mk Lj
        clear Lj
        by_cases c11 : vH = true
        · subst c11
          have H1 : (if (t160.size : Int) > 65535 then (some ((⟨#[]⟩ : ByteArray), 4)) else (some (t160, 0))) = some (r1, r2) := by rw [if_pos rfl] at H; exact H
          clear H
          have H := H1
          clear H1
          by_cases c12 : (t160.size : Int) > 65535
          · rw [if_pos c12] at H
            have sQ : decide (65535 < (t160.size : Int)) = true := decide_eq_true c12
            have sS : decide (65535 < t160.size) = true := decide_eq_true (by omega)
            clear c12
            simp only [Option.some.injEq, Prod.mk.injEq] at H
            obtain ⟨rfl, rfl⟩ := H
            go_enter Try.func104, Try.ntmps104
            go_wp2_with (first | ((with_reducible refine aQ (f := 99) rfl ?_); refine bP (some 23) rfl rfl Try.func99 (by kernel_rfl) rfl #[.string a0, .int .i64 a1, .int .i64 a2] rfl (by (try simp only [List.map_toArray, List.map_cons, List.map_nil]); first | done | rfl | (simp only [List.length_drop, List.length_take]; rfl) | (simp only [ByteArray.size_append, Int.natCast_add]; rfl) | (rw [B.dO] <;> first | rfl | omega | (simp only [decide_eq_false_iff_not, decide_eq_true_eq, Int.not_lt, Nat.not_lt, gt_iff_lt] at * <;> omega))) ?_; (with_reducible refine (bC.calls a0 a1 a2 t160 true _ A5.out).mono ?_); rintro e w' ⟨rfl, ⟨nd, rfl⟩⟩; refine ⟨_, rfl, ?_⟩) | ((with_reducible refine aQ (f := 106) rfl ?_); refine bP (some 29) rfl rfl Try.func106 (by kernel_rfl) rfl #[.int .i64 a3] rfl (by (try simp only [List.map_toArray, List.map_cons, List.map_nil]); first | done | rfl | (simp only [List.length_drop, List.length_take]; rfl) | (simp only [ByteArray.size_append, Int.natCast_add]; rfl) | (rw [B.dO] <;> first | rfl | omega | (simp only [decide_eq_false_iff_not, decide_eq_true_eq, Int.not_lt, Nat.not_lt, gt_iff_lt] at * <;> omega))) ?_; (with_reducible refine (aH.calls k a3 t162 ku t164 _ A7.out).mono ?_); rintro e w13 ⟨rfl, hb⟩; refine ⟨_, rfl, ?_⟩; have dY := aj.mk (bE (by repeat (first | (with_reducible first | exact HB.out | apply ak | apply ah | apply au) | exact HB.out)) hb); clear HB; have HB := dY; clear dY; (try clear hb); (try clear hb2); (try clear hk); (try clear hi)) | ((with_reducible refine gF (N := 12) rfl ?_); (try (refine jm (by rfl) ?_; dsimp only)); refine fO ?hg (N := 12) ?hd (cs := #[.int .i64 0, .int .i64 0, .int .i64 0]) (t := 142) ?hr ?_; (case hd => rfl); (case hg => rfl); (case hr => first | (go_simp; done) | (go_simp; rfl)); intro dK hg w14 gT hb; have dY := aj.mk (bE (by repeat (first | (with_reducible first | exact HB.out | apply ak | apply ah | apply au) | exact HB.out)) hb); have gW := aj.mk (gT); have iZ := aj.mk ((by rw [hg]; exact (bL (by repeat (first | (with_reducible first | exact HB.out | apply ak | apply ah | apply au) | exact HB.out))) : w.heap.size ≤ dK)); have jE := aj.mk ((by rw [hg]; exact (bL (by repeat (first | (with_reducible first | exact HB.out | apply ak | apply ah | apply au) | exact HB.out))) : w.heap.size ≤ dK)); clear HB; have HB := dY; have bT := gW; have zS := iZ; have kD := jE; clear dY gW iZ jE; clear hb gT hg; have Bv : w14.cell? ⟨dK, 0, none⟩ = some (.int .i64 0) := (aM bT.out 0).trans rfl; have Bw : w14.cell? ⟨dK, 1, none⟩ = some (.int .i64 0) := (aM bT.out 1).trans rfl; have Bz : w14.cell? ⟨dK, 2, none⟩ = some (.int .i64 0) := (aM bT.out 2).trans rfl; have BA := ay bT.out 0; have BD := ay bT.out 1; have BF := ay bT.out 2) | (go_at_call 117; (with_reducible refine (bn.calls k t160 true _ QE.out).mono ?_); rintro e w' ⟨rfl, ⟨nd, rfl⟩⟩))
            go_ret2
            exact ⟨by first | rfl | (simp [aJ, aK] <;> rfl) | (simp [*, aJ, aK] <;> rfl), by repeat (first | (with_reducible first | exact HB.out | apply ak | apply ah | apply au | refine aR ?_ kD.out) | exact HB.out)⟩
          · rw [if_neg c12] at H
            have sQ : decide (65535 < (t160.size : Int)) = false := decide_eq_false c12
            have sS : decide (65535 < t160.size) = false := decide_eq_false (by omega)
            clear c12
            simp only [Option.some.injEq, Prod.mk.injEq] at H
            obtain ⟨rfl, rfl⟩ := H
            go_enter Try.func104, Try.ntmps104
            go_wp2_with (first | ((with_reducible refine aQ (f := 99) rfl ?_); refine bP (some 23) rfl rfl Try.func99 (by kernel_rfl) rfl #[.string a0, .int .i64 a1, .int .i64 a2] rfl (by (try simp only [List.map_toArray, List.map_cons, List.map_nil]); first | done | rfl | (simp only [List.length_drop, List.length_take]; rfl) | (simp only [ByteArray.size_append, Int.natCast_add]; rfl) | (rw [B.dO] <;> first | rfl | omega | (simp only [decide_eq_false_iff_not, decide_eq_true_eq, Int.not_lt, Nat.not_lt, gt_iff_lt] at * <;> omega))) ?_; (with_reducible refine (bC.calls a0 a1 a2 t160 true _ A5.out).mono ?_); rintro e w' ⟨rfl, ⟨nd, rfl⟩⟩; refine ⟨_, rfl, ?_⟩) | ((with_reducible refine aQ (f := 106) rfl ?_); refine bP (some 29) rfl rfl Try.func106 (by kernel_rfl) rfl #[.int .i64 a3] rfl (by (try simp only [List.map_toArray, List.map_cons, List.map_nil]); first | done | rfl | (simp only [List.length_drop, List.length_take]; rfl) | (simp only [ByteArray.size_append, Int.natCast_add]; rfl) | (rw [B.dO] <;> first | rfl | omega | (simp only [decide_eq_false_iff_not, decide_eq_true_eq, Int.not_lt, Nat.not_lt, gt_iff_lt] at * <;> omega))) ?_; (with_reducible refine (aH.calls k a3 t162 ku t164 _ A7.out).mono ?_); rintro e w16 ⟨rfl, hb⟩; refine ⟨_, rfl, ?_⟩; have dY := aj.mk (bE (by repeat (first | (with_reducible first | exact HB.out | apply ak | apply ah | apply au) | exact HB.out)) hb); clear HB; have HB := dY; clear dY; (try clear hb); (try clear hb2); (try clear hk); (try clear hi)) | ((with_reducible refine gF (N := 12) rfl ?_); (try (refine jm (by rfl) ?_; dsimp only)); refine fO ?hg (N := 12) ?hd (cs := #[.int .i64 0, .int .i64 0, .int .i64 0]) (t := 142) ?hr ?_; (case hd => rfl); (case hg => rfl); (case hr => first | (go_simp; done) | (go_simp; rfl)); intro dK hg w17 gT hb; have dY := aj.mk (bE (by repeat (first | (with_reducible first | exact HB.out | apply ak | apply ah | apply au) | exact HB.out)) hb); have gW := aj.mk (gT); have iZ := aj.mk ((by rw [hg]; exact (bL (by repeat (first | (with_reducible first | exact HB.out | apply ak | apply ah | apply au) | exact HB.out))) : w.heap.size ≤ dK)); have jE := aj.mk ((by rw [hg]; exact (bL (by repeat (first | (with_reducible first | exact HB.out | apply ak | apply ah | apply au) | exact HB.out))) : w.heap.size ≤ dK)); clear HB; have HB := dY; have bT := gW; have zS := iZ; have kD := jE; clear dY gW iZ jE; clear hb gT hg; have Gx : w17.cell? ⟨dK, 0, none⟩ = some (.int .i64 0) := (aM bT.out 0).trans rfl; have Gy : w17.cell? ⟨dK, 1, none⟩ = some (.int .i64 0) := (aM bT.out 1).trans rfl; have Gz : w17.cell? ⟨dK, 2, none⟩ = some (.int .i64 0) := (aM bT.out 2).trans rfl; have GA := ay bT.out 0; have GD := ay bT.out 1; have GH := ay bT.out 2) | (go_at_call 117; (with_reducible refine (bn.calls k t160 true _ QE.out).mono ?_); rintro e w' ⟨rfl, ⟨nd, rfl⟩⟩))
            go_ret2
            exact ⟨by first | rfl | (simp [aJ, aK] <;> rfl) | (simp [*, aJ, aK] <;> rfl), by repeat (first | (with_reducible first | exact HB.out | apply ak | apply ah | apply au | refine aR ?_ kD.out) | exact HB.out)⟩
        · replace c11 := Bool.eq_false_iff.mpr c11
          subst c11
          have H1 : (some ((⟨#[]⟩ : ByteArray), 4)) = some (r1, r2) := by rw [if_neg (show ¬ (false = true) by decide)] at H; exact H
          clear H
          have H := H1
          clear H1
          simp only [Option.some.injEq, Prod.mk.injEq] at H
          obtain ⟨rfl, rfl⟩ := H
          go_enter Try.func104, Try.ntmps104
          go_wp2_with (first | ((with_reducible refine aQ (f := 99) rfl ?_); refine bP (some 23) rfl rfl Try.func99 (by kernel_rfl) rfl #[.string a0, .int .i64 a1, .int .i64 a2] rfl (by (try simp only [List.map_toArray, List.map_cons, List.map_nil]); first | done | rfl | (simp only [List.length_drop, List.length_take]; rfl) | (simp only [ByteArray.size_append, Int.natCast_add]; rfl) | (rw [B.dO] <;> first | rfl | omega | (simp only [decide_eq_false_iff_not, decide_eq_true_eq, Int.not_lt, Nat.not_lt, gt_iff_lt] at * <;> omega))) ?_; (with_reducible refine (bC.calls a0 a1 a2 t160 true _ A5.out).mono ?_); rintro e w' ⟨rfl, ⟨nd, rfl⟩⟩; refine ⟨_, rfl, ?_⟩) | ((with_reducible refine aQ (f := 106) rfl ?_); refine bP (some 29) rfl rfl Try.func106 (by kernel_rfl) rfl #[.int .i64 a3] rfl (by (try simp only [List.map_toArray, List.map_cons, List.map_nil]); first | done | rfl | (simp only [List.length_drop, List.length_take]; rfl) | (simp only [ByteArray.size_append, Int.natCast_add]; rfl) | (rw [B.dO] <;> first | rfl | omega | (simp only [decide_eq_false_iff_not, decide_eq_true_eq, Int.not_lt, Nat.not_lt, gt_iff_lt] at * <;> omega))) ?_; (with_reducible refine (aH.calls k a3 t162 ku t164 _ A7.out).mono ?_); rintro e w19 ⟨rfl, hb⟩; refine ⟨_, rfl, ?_⟩; have dY := aj.mk (bE (by repeat (first | (with_reducible first | exact HB.out | apply ak | apply ah | apply au) | exact HB.out)) hb); clear HB; have HB := dY; clear dY; (try clear hb); (try clear hb2); (try clear hk); (try clear hi)) | ((with_reducible refine gF (N := 12) rfl ?_); (try (refine jm (by rfl) ?_; dsimp only)); refine fO ?hg (N := 12) ?hd (cs := #[.int .i64 0, .int .i64 0, .int .i64 0]) (t := 142) ?hr ?_; (case hd => rfl); (case hg => rfl); (case hr => first | (go_simp; done) | (go_simp; rfl)); intro dK hg w20 gT hb; have dY := aj.mk (bE (by repeat (first | (with_reducible first | exact HB.out | apply ak | apply ah | apply au) | exact HB.out)) hb); have gW := aj.mk (gT); have iZ := aj.mk ((by rw [hg]; exact (bL (by repeat (first | (with_reducible first | exact HB.out | apply ak | apply ah | apply au) | exact HB.out))) : w.heap.size ≤ dK)); have jE := aj.mk ((by rw [hg]; exact (bL (by repeat (first | (with_reducible first | exact HB.out | apply ak | apply ah | apply au) | exact HB.out))) : w.heap.size ≤ dK)); clear HB; have HB := dY; have bT := gW; have zS := iZ; have kD := jE; clear dY gW iZ jE; clear hb gT hg; have OD : w20.cell? ⟨dK, 0, none⟩ = some (.int .i64 0) := (aM bT.out 0).trans rfl; have OE : w20.cell? ⟨dK, 1, none⟩ = some (.int .i64 0) := (aM bT.out 1).trans rfl; have OG : w20.cell? ⟨dK, 2, none⟩ = some (.int .i64 0) := (aM bT.out 2).trans rfl; have OH := ay bT.out 0; have OI := ay bT.out 1; have OJ := ay bT.out 2) | (go_at_call 117; (with_reducible refine (bn.calls k t160 false _ QE.out).mono ?_); rintro e w' ⟨rfl, ⟨nd, rfl⟩⟩))
          go_ret2
          exact ⟨by first | rfl | (simp [aJ, aK] <;> rfl) | (simp [*, aJ, aK] <;> rfl), by repeat (first | (with_reducible first | exact HB.out | apply ak | apply ah | apply au | refine aR ?_ kD.out) | exact HB.out)⟩
      · rw [if_neg c9] at H
        have sP : (a3 == 16) = false := beq_eq_false_iff_ne.mpr c9
        have Dt : (a3 != 16) = true := bne_iff_ne.mpr c9
        by_cases BN : (t160.size : Int) > 65535
        · rw [if_pos BN] at H
          have LG : decide (65535 < (t160.size : Int)) = true := decide_eq_true BN
          have LH : decide (65535 < t160.size) = true := decide_eq_true (by omega)
          clear BN
          simp only [Option.some.injEq, Prod.mk.injEq] at H
          obtain ⟨rfl, rfl⟩ := H
          go_enter Try.func104, Try.ntmps104
          go_wp2_with (first | ((with_reducible refine aQ (f := 99) rfl ?_); refine bP (some 23) rfl rfl Try.func99 (by kernel_rfl) rfl #[.string a0, .int .i64 a1, .int .i64 a2] rfl (by (try simp only [List.map_toArray, List.map_cons, List.map_nil]); first | done | rfl | (simp only [List.length_drop, List.length_take]; rfl) | (simp only [ByteArray.size_append, Int.natCast_add]; rfl) | (rw [B.dO] <;> first | rfl | omega | (simp only [decide_eq_false_iff_not, decide_eq_true_eq, Int.not_lt, Nat.not_lt, gt_iff_lt] at * <;> omega))) ?_; (with_reducible refine (bC.calls a0 a1 a2 t160 true _ A5.out).mono ?_); rintro e w' ⟨rfl, ⟨nd, rfl⟩⟩; refine ⟨_, rfl, ?_⟩) | ((with_reducible refine aQ (f := 106) rfl ?_); refine bP (some 29) rfl rfl Try.func106 (by kernel_rfl) rfl #[.int .i64 a3] rfl (by (try simp only [List.map_toArray, List.map_cons, List.map_nil]); first | done | rfl | (simp only [List.length_drop, List.length_take]; rfl) | (simp only [ByteArray.size_append, Int.natCast_add]; rfl) | (rw [B.dO] <;> first | rfl | omega | (simp only [decide_eq_false_iff_not, decide_eq_true_eq, Int.not_lt, Nat.not_lt, gt_iff_lt] at * <;> omega))) ?_; (with_reducible refine (aH.calls k a3 t162 ku t164 _ A7.out).mono ?_); rintro e w23 ⟨rfl, hb⟩; refine ⟨_, rfl, ?_⟩; have dY := aj.mk (bE (by repeat (first | (with_reducible first | exact HB.out | apply ak | apply ah | apply au) | exact HB.out)) hb); clear HB; have HB := dY; clear dY; (try clear hb); (try clear hb2); (try clear hk); (try clear hi)) | ((with_reducible refine gF (N := 12) rfl ?_); (try (refine jm (by rfl) ?_; dsimp only)); refine fO ?hg (N := 12) ?hd (cs := #[.int .i64 0, .int .i64 0, .int .i64 0]) (t := 142) ?hr ?_; (case hd => rfl); (case hg => rfl); (case hr => first | (go_simp; done) | (go_simp; rfl)); intro dK hg w24 gT hb; have dY := aj.mk (bE (by repeat (first | (with_reducible first | exact HB.out | apply ak | apply ah | apply au) | exact HB.out)) hb); have gW := aj.mk (gT); have iZ := aj.mk ((by rw [hg]; exact (bL (by repeat (first | (with_reducible first | exact HB.out | apply ak | apply ah | apply au) | exact HB.out))) : w.heap.size ≤ dK)); have jE := aj.mk ((by rw [hg]; exact (bL (by repeat (first | (with_reducible first | exact HB.out | apply ak | apply ah | apply au) | exact HB.out))) : w.heap.size ≤ dK)); clear HB; have HB := dY; have bT := gW; have zS := iZ; have kD := jE; clear dY gW iZ jE; clear hb gT hg; have OL : w24.cell? ⟨dK, 0, none⟩ = some (.int .i64 0) := (aM bT.out 0).trans rfl; have OM : w24.cell? ⟨dK, 1, none⟩ = some (.int .i64 0) := (aM bT.out 1).trans rfl; have OO : w24.cell? ⟨dK, 2, none⟩ = some (.int .i64 0) := (aM bT.out 2).trans rfl; have OP := ay bT.out 0; have OQ := ay bT.out 1; have OT := ay bT.out 2))
          go_ret2
          exact ⟨by first | rfl | (simp [aJ, aK] <;> rfl) | (simp [*, aJ, aK] <;> rfl), by repeat (first | (with_reducible first | exact HB.out | apply ak | apply ah | apply au | refine aR ?_ kD.out) | exact HB.out)⟩
        · rw [if_neg BN] at H
          have LG : decide (65535 < (t160.size : Int)) = false := decide_eq_false BN
          have LH : decide (65535 < t160.size) = false := decide_eq_false (by omega)
          clear BN
          simp only [Option.some.injEq, Prod.mk.injEq] at H
          obtain ⟨rfl, rfl⟩ := H
          go_enter Try.func104, Try.ntmps104
          go_wp2_with (first | ((with_reducible refine aQ (f := 99) rfl ?_); refine bP (some 23) rfl rfl Try.func99 (by kernel_rfl) rfl #[.string a0, .int .i64 a1, .int .i64 a2] rfl (by (try simp only [List.map_toArray, List.map_cons, List.map_nil]); first | done | rfl | (simp only [List.length_drop, List.length_take]; rfl) | (simp only [ByteArray.size_append, Int.natCast_add]; rfl) | (rw [B.dO] <;> first | rfl | omega | (simp only [decide_eq_false_iff_not, decide_eq_true_eq, Int.not_lt, Nat.not_lt, gt_iff_lt] at * <;> omega))) ?_; (with_reducible refine (bC.calls a0 a1 a2 t160 true _ A5.out).mono ?_); rintro e w' ⟨rfl, ⟨nd, rfl⟩⟩; refine ⟨_, rfl, ?_⟩) | ((with_reducible refine aQ (f := 106) rfl ?_); refine bP (some 29) rfl rfl Try.func106 (by kernel_rfl) rfl #[.int .i64 a3] rfl (by (try simp only [List.map_toArray, List.map_cons, List.map_nil]); first | done | rfl | (simp only [List.length_drop, List.length_take]; rfl) | (simp only [ByteArray.size_append, Int.natCast_add]; rfl) | (rw [B.dO] <;> first | rfl | omega | (simp only [decide_eq_false_iff_not, decide_eq_true_eq, Int.not_lt, Nat.not_lt, gt_iff_lt] at * <;> omega))) ?_; (with_reducible refine (aH.calls k a3 t162 ku t164 _ A7.out).mono ?_); rintro e w26 ⟨rfl, hb⟩; refine ⟨_, rfl, ?_⟩; have dY := aj.mk (bE (by repeat (first | (with_reducible first | exact HB.out | apply ak | apply ah | apply au) | exact HB.out)) hb); clear HB; have HB := dY; clear dY; (try clear hb); (try clear hb2); (try clear hk); (try clear hi)) | ((with_reducible refine gF (N := 12) rfl ?_); (try (refine jm (by rfl) ?_; dsimp only)); refine fO ?hg (N := 12) ?hd (cs := #[.int .i64 0, .int .i64 0, .int .i64 0]) (t := 142) ?hr ?_; (case hd => rfl); (case hg => rfl); (case hr => first | (go_simp; done) | (go_simp; rfl)); intro dK hg w27 gT hb; have dY := aj.mk (bE (by repeat (first | (with_reducible first | exact HB.out | apply ak | apply ah | apply au) | exact HB.out)) hb); have gW := aj.mk (gT); have iZ := aj.mk ((by rw [hg]; exact (bL (by repeat (first | (with_reducible first | exact HB.out | apply ak | apply ah | apply au) | exact HB.out))) : w.heap.size ≤ dK)); have jE := aj.mk ((by rw [hg]; exact (bL (by repeat (first | (with_reducible first | exact HB.out | apply ak | apply ah | apply au) | exact HB.out))) : w.heap.size ≤ dK)); clear HB; have HB := dY; have bT := gW; have zS := iZ; have kD := jE; clear dY gW iZ jE; clear hb gT hg; have OU : w27.cell? ⟨dK, 0, none⟩ = some (.int .i64 0) := (aM bT.out 0).trans rfl; have OV : w27.cell? ⟨dK, 1, none⟩ = some (.int .i64 0) := (aM bT.out 1).trans rfl; have OW : w27.cell? ⟨dK, 2, none⟩ = some (.int .i64 0) := (aM bT.out 2).trans rfl; have OX := ay bT.out 0; have OY := ay bT.out 1; have OZ := ay bT.out 2))
          go_ret2
          exact ⟨by first | rfl | (simp [aJ, aK] <;> rfl) | (simp [*, aJ, aK] <;> rfl), by repeat (first | (with_reducible first | exact HB.out | apply ak | apply ah | apply au | refine aR ?_ kD.out) | exact HB.out)⟩
    · rw [if_neg c8] at H
      have qR : (t162 == 0 && (ku == 0 && (t164 == 0))) = false := by simpa using c8
      (try (have qU : decide (t162 = 0 && (ku == 0 && (t164 == 0))) = false := by simpa using c8))
      (try (have Lc : (t162 == 0 && (ku == 0 && (t164 == 0))) = false := by simpa using c8))
      (try (have XQ : ¬ (t162 = 0 && (ku == 0 && (t164 == 0))) := by simpa using c8))
      clear c8
      by_cases Hr : t162 > a2
      · rw [if_pos Hr] at H
        have QL : decide (a2 < t162) = true := decide_eq_true Hr
        clear Hr
        simp only [Option.some.injEq, Prod.mk.injEq] at H
        obtain ⟨rfl, rfl⟩ := H
        go_enter Try.func104, Try.ntmps104
        go_wp2_with (first | ((with_reducible refine aQ (f := 99) rfl ?_); refine bP (some 23) rfl rfl Try.func99 (by kernel_rfl) rfl #[.string a0, .int .i64 a1, .int .i64 a2] rfl (by (try simp only [List.map_toArray, List.map_cons, List.map_nil]); first | done | rfl | (simp only [List.length_drop, List.length_take]; rfl) | (simp only [ByteArray.size_append, Int.natCast_add]; rfl) | (rw [B.dO] <;> first | rfl | omega | (simp only [decide_eq_false_iff_not, decide_eq_true_eq, Int.not_lt, Nat.not_lt, gt_iff_lt] at * <;> omega))) ?_; (with_reducible refine (bC.calls a0 a1 a2 t160 true _ A5.out).mono ?_); rintro e w' ⟨rfl, ⟨nd, rfl⟩⟩; refine ⟨_, rfl, ?_⟩) | ((with_reducible refine aQ (f := 106) rfl ?_); refine bP (some 29) rfl rfl Try.func106 (by kernel_rfl) rfl #[.int .i64 a3] rfl (by (try simp only [List.map_toArray, List.map_cons, List.map_nil]); first | done | rfl | (simp only [List.length_drop, List.length_take]; rfl) | (simp only [ByteArray.size_append, Int.natCast_add]; rfl) | (rw [B.dO] <;> first | rfl | omega | (simp only [decide_eq_false_iff_not, decide_eq_true_eq, Int.not_lt, Nat.not_lt, gt_iff_lt] at * <;> omega))) ?_; (with_reducible refine (aH.calls k a3 t162 ku t164 _ A7.out).mono ?_); rintro e w30 ⟨rfl, hb⟩; refine ⟨_, rfl, ?_⟩; have dY := aj.mk (bE (by repeat (first | (with_reducible first | exact HB.out | apply ak | apply ah | apply au) | exact HB.out)) hb); clear HB; have HB := dY; clear dY; (try clear hb); (try clear hb2); (try clear hk); (try clear hi)) | ((with_reducible refine gF (N := 12) rfl ?_); (try (refine jm (by rfl) ?_; dsimp only)); refine fO ?hg (N := 12) ?hd (cs := #[.int .i64 0, .int .i64 0, .int .i64 0]) (t := 142) ?hr ?_; (case hd => rfl); (case hg => rfl); (case hr => first | (go_simp; done) | (go_simp; rfl)); intro dK hg w31 gT hb; have dY := aj.mk (bE (by repeat (first | (with_reducible first | exact HB.out | apply ak | apply ah | apply au) | exact HB.out)) hb); have gW := aj.mk (gT); have iZ := aj.mk ((by rw [hg]; exact (bL (by repeat (first | (with_reducible first | exact HB.out | apply ak | apply ah | apply au) | exact HB.out))) : w.heap.size ≤ dK)); have jE := aj.mk ((by rw [hg]; exact (bL (by repeat (first | (with_reducible first | exact HB.out | apply ak | apply ah | apply au) | exact HB.out))) : w.heap.size ≤ dK)); clear HB; have HB := dY; have bT := gW; have zS := iZ; have kD := jE; clear dY gW iZ jE; clear hb gT hg; have Gr : w31.cell? ⟨dK, 0, none⟩ = some (.int .i64 0) := (aM bT.out 0).trans rfl; have Gs : w31.cell? ⟨dK, 1, none⟩ = some (.int .i64 0) := (aM bT.out 1).trans rfl; have Gt : w31.cell? ⟨dK, 2, none⟩ = some (.int .i64 0) := (aM bT.out 2).trans rfl; have Gu := ay bT.out 0; have Gv := ay bT.out 1; have Gw := ay bT.out 2))
        go_ret2
        exact ⟨by first | rfl | (simp [aJ, aK] <;> rfl) | (simp [*, aJ, aK] <;> rfl), by repeat (first | (with_reducible first | exact HB.out | apply ak | apply ah | apply au | refine aR ?_ kD.out) | exact HB.out)⟩
      · rw [if_neg Hr] at H
        have QL : decide (a2 < t162) = false := decide_eq_false Hr
        clear Hr
        by_cases Nb : 0 ≤ t162
        · rw [if_pos Nb] at H
          have YN := eq_true Nb
          have YO : decide (0 ≤ t162) = true := decide_eq_true Nb
          clear Nb
          by_cases c34 : t162 ≤ (t160.size : Int)
          · rw [if_pos c34] at H
            have YP := eq_true c34
            have YQ : decide (t162 ≤ (t160.size : Int)) = true := decide_eq_true c34
            clear c34
            have H' := aj.mk H
            clear H
            go_enter Try.func104, Try.ntmps104
            go_wp2_with (first | ((with_reducible refine aQ (f := 99) rfl ?_); refine bP (some 23) rfl rfl Try.func99 (by kernel_rfl) rfl #[.string a0, .int .i64 a1, .int .i64 a2] rfl (by (try simp only [List.map_toArray, List.map_cons, List.map_nil]); first | done | rfl | (simp only [List.length_drop, List.length_take]; rfl) | (simp only [ByteArray.size_append, Int.natCast_add]; rfl) | (rw [B.dO] <;> first | rfl | omega | (simp only [decide_eq_false_iff_not, decide_eq_true_eq, Int.not_lt, Nat.not_lt, gt_iff_lt] at * <;> omega))) ?_; (with_reducible refine (bC.calls a0 a1 a2 t160 true _ A5.out).mono ?_); rintro e w' ⟨rfl, ⟨nd, rfl⟩⟩; refine ⟨_, rfl, ?_⟩) | ((with_reducible refine aQ (f := 106) rfl ?_); refine bP (some 29) rfl rfl Try.func106 (by kernel_rfl) rfl #[.int .i64 a3] rfl (by (try simp only [List.map_toArray, List.map_cons, List.map_nil]); first | done | rfl | (simp only [List.length_drop, List.length_take]; rfl) | (simp only [ByteArray.size_append, Int.natCast_add]; rfl) | (rw [B.dO] <;> first | rfl | omega | (simp only [decide_eq_false_iff_not, decide_eq_true_eq, Int.not_lt, Nat.not_lt, gt_iff_lt] at * <;> omega))) ?_; (with_reducible refine (aH.calls k a3 t162 ku t164 _ A7.out).mono ?_); rintro e w35 ⟨rfl, hb⟩; refine ⟨_, rfl, ?_⟩; have dY := aj.mk (bE (by repeat (first | (with_reducible first | exact HB.out | apply ak | apply ah | apply au) | exact HB.out)) hb); clear HB; have HB := dY; clear dY; (try clear hb); (try clear hb2); (try clear hk); (try clear hi)) | ((with_reducible refine gF (N := 12) rfl ?_); (try (refine jm (by rfl) ?_; dsimp only)); refine fO ?hg (N := 12) ?hd (cs := #[.int .i64 0, .int .i64 0, .int .i64 0]) (t := 142) ?hr ?_; (case hd => rfl); (case hg => rfl); (case hr => first | (go_simp; done) | (go_simp; rfl)); intro dK hg w36 gT hb; have dY := aj.mk (bE (by repeat (first | (with_reducible first | exact HB.out | apply ak | apply ah | apply au) | exact HB.out)) hb); have gW := aj.mk (gT); have iZ := aj.mk ((by rw [hg]; exact (bL (by repeat (first | (with_reducible first | exact HB.out | apply ak | apply ah | apply au) | exact HB.out))) : w.heap.size ≤ dK)); have jE := aj.mk ((by rw [hg]; exact (bL (by repeat (first | (with_reducible first | exact HB.out | apply ak | apply ah | apply au) | exact HB.out))) : w.heap.size ≤ dK)); clear HB; have HB := dY; have bT := gW; have zS := iZ; have kD := jE; clear dY gW iZ jE; clear hb gT hg; have O1 : w36.cell? ⟨dK, 0, none⟩ = some (.int .i64 0) := (aM bT.out 0).trans rfl; have O4 : w36.cell? ⟨dK, 1, none⟩ = some (.int .i64 0) := (aM bT.out 1).trans rfl; have O5 : w36.cell? ⟨dK, 2, none⟩ = some (.int .i64 0) := (aM bT.out 2).trans rfl; have O6 := ay bT.out 0; have O7 := ay bT.out 1; have O8 := ay bT.out 2))
            go_loopg [13, 14, 15] k (fun kq v13 v14 v15 w' => ∃ (dD : ByteArray) (bQ : Int) (uZ : Int), v13 = .string dD ∧ v14 = .int .i64 bQ ∧ v15 = .int .i64 uZ ∧ aj (aX.l0 kq a0 a1 a2 dD bQ uZ t162 ku t164 = some (r1, r2)) ∧ aj (kq ≤ k) ∧ aj (w'.heap[dK]? = some (.cells #[.int .i64 t162, .int .i64 ku, .int .i64 t164] 142 (0, 0))) ∧ aj (Below w.heap.size w w'))
            case atStart => exact ⟨(t160.extract 0 (t162 : Int).toNat), (wrap64 (a1 + t162)), (0), (by first | rfl | (simp; done) | (simp [*]; done) | (simp [B.aV]; done) | (simp [B.aW]; done)), (by first | rfl | (simp; done) | (simp [*]; done) | (simp [B.aV]; done) | (simp [B.aW]; done)), (by first | rfl | (simp; done) | (simp [*]; done) | (simp [B.aV]; done) | (simp [B.aW]; done)), H', ⟨Nat.le_refl _⟩, ⟨by (with_reducible repeat (first | refine aG ?_ _ | refine aI ?_ | refine aA ?_ _)); refine bU (cs := #[.int .i64 t162, .int .i64 ku, .int .i64 0]) ?_ 2 _ rfl; (with_reducible repeat (first | refine aG ?_ _ | refine aI ?_ | refine aA ?_ _)); refine bU (cs := #[.int .i64 t162, .int .i64 0, .int .i64 0]) ?_ 1 _ rfl; (with_reducible repeat (first | refine aG ?_ _ | refine aI ?_ | refine aA ?_ _)); refine bU (cs := #[.int .i64 0, .int .i64 0, .int .i64 0]) ?_ 0 _ rfl; (with_reducible repeat (first | refine aG ?_ _ | refine aI ?_ | refine aA ?_ _)); exact bT.out⟩, ⟨by repeat (first | (with_reducible first | exact HB.out | apply ak | apply ah | apply au | refine aR ?_ kD.out) | exact HB.out)⟩⟩
            case round =>
              clear H'
              try clear c1
              try clear c2
              try clear p2
              try clear c3
              try clear c6
              try clear p6
              try clear c8
              try clear qR
              try clear qU
              try clear Lc
              try clear c9
              try clear sP
              try clear Dt
              try clear c10
              try clear c11
              try clear c12
              try clear sQ
              try clear sS
              try clear BN
              try clear LG
              try clear LH
              try clear Hr
              try clear QL
              try clear Nb
              try clear YN
              try clear YO
              try clear c34
              try clear YP
              try clear YQ
              try clear Bv
              try clear Bw
              try clear Bz
              try clear Gx
              try clear Gy
              try clear Gz
              try clear OD
              try clear OE
              try clear OG
              try clear OL
              try clear OM
              try clear OO
              try clear OU
              try clear OV
              try clear OW
              try clear Gr
              try clear Gs
              try clear Gt
              try clear O1
              try clear O4
              try clear O5
              try clear BA
              try clear BD
              try clear BF
              try clear GA
              try clear GD
              try clear GH
              try clear OH
              try clear OI
              try clear OJ
              try clear OP
              try clear OQ
              try clear OT
              try clear OX
              try clear OY
              try clear OZ
              try clear Gu
              try clear Gv
              try clear Gw
              try clear O6
              try clear O7
              try clear O8
              obtain ⟨dD, bQ, uZ, rfl, rfl, rfl, HA, sO, bT, HB⟩ := hrel
              cases gk with
              | zero => exact absurd HA.out (by simp [aX.l0])
              | succ k1 =>
                have H := HA.out
                clear HA
                simp only [aX.l0] at H
                by_cases Jd : uZ < ku
                · rw [if_pos Jd] at H
                  have QJ : decide (uZ < ku) = true := decide_eq_true Jd
                  clear Jd
                  replace H := zbm H
                  obtain ⟨⟨t167, t168, DJ⟩, YR, H⟩ := H
                  replace H : (if DJ = 0 then (if dD.size + t167.size ≤ 9223372036854775807 then (aX.l0 k1 a0 a1 a2 (dD ++ t167) t168 (wrap64 (uZ + 1)) t162 ku t164) else (none)) else (some ((⟨#[]⟩ : ByteArray), 4))) = some (r1, r2) := H
                  have A39 := aj.mk YR
                  clear YR
                  by_cases c40 : DJ = 0
                  · rw [if_pos c40] at H
                    have YS : (DJ == 0) = true := beq_iff_eq.mpr c40
                    have YT : (DJ != 0) = false := bne_eq_false_iff_eq.mpr c40
                    clear c40
                    by_cases YU : dD.size + t167.size ≤ 9223372036854775807
                    · rw [if_pos YU] at H
                      have afB := eq_true YU
                      have afC : decide (dD.size + t167.size ≤ 9223372036854775807) = true := decide_eq_true YU
                      try have afD : (9223372036854775807 < dD.size + t167.size) = False := eq_false (Nat.not_lt.2 YU)
                      have H' := aj.mk H
                      clear H
                      have Ov : wr.cell? ⟨dK, 0, none⟩ = some (.int .i64 t162) := (aM bT.out 0).trans rfl
                      have Ow : wr.cell? ⟨dK, 1, none⟩ = some (.int .i64 ku) := (aM bT.out 1).trans rfl
                      have Ox : wr.cell? ⟨dK, 2, none⟩ = some (.int .i64 t164) := (aM bT.out 2).trans rfl
                      have Oy := ay bT.out 0
                      have Oz := ay bT.out 1
                      have OA := ay bT.out 2
                      go_wp2_with (first | ((with_reducible refine aQ (f := 118) rfl ?_); refine bP (some 67) rfl rfl Try.func118 (by kernel_rfl) rfl #[.string a0, .int .i64 bQ] rfl (by (try simp only [List.map_toArray, List.map_cons, List.map_nil]); first | done | rfl | (simp only [List.length_drop, List.length_take]; rfl) | (simp only [ByteArray.size_append, Int.natCast_add]; rfl) | (rw [B.dO] <;> first | rfl | omega | (simp only [decide_eq_false_iff_not, decide_eq_true_eq, Int.not_lt, Nat.not_lt, gt_iff_lt] at * <;> omega))) ?_; (with_reducible refine (aU.calls k1 a0 bQ t167 t168 DJ _ A39.out).mono ?_); rintro e w' ⟨rfl, ⟨nd, rfl⟩⟩; refine ⟨_, rfl, ?_⟩))
                      go_roundg k1
                      case measure => have := sO.out; omega
                      case rel => exact ⟨(dD ++ t167), (t168), (wrap64 (uZ + 1)), (by first | rfl | (simp; done) | (simp [*]; done) | (simp [B.aV]; done) | (simp [B.aW]; done)), (by first | rfl | (simp; done) | (simp [*]; done) | (simp [B.aV]; done) | (simp [B.aW]; done)), (by first | rfl | (simp; done) | (simp [*]; done) | (simp [B.aV]; done) | (simp [B.aW]; done)), H', ⟨by have := sO.out; omega⟩, ⟨by (with_reducible repeat (first | refine aG ?_ _ | refine aI ?_ | refine aA ?_ _)); exact bT.out⟩, ⟨by repeat (first | (with_reducible first | exact HB.out | apply ak | apply ah | apply au | refine aR ?_ kD.out) | exact HB.out)⟩⟩
                    · rw [if_neg YU] at H
                      exact absurd H (by simp)
                  · rw [if_neg c40] at H
                    have YS : (DJ == 0) = false := beq_eq_false_iff_ne.mpr c40
                    have YT : (DJ != 0) = true := bne_iff_ne.mpr c40
                    simp only [Option.some.injEq, Prod.mk.injEq] at H
                    obtain ⟨rfl, rfl⟩ := H
                    have abI : wr.cell? ⟨dK, 0, none⟩ = some (.int .i64 t162) := (aM bT.out 0).trans rfl
                    have abJ : wr.cell? ⟨dK, 1, none⟩ = some (.int .i64 ku) := (aM bT.out 1).trans rfl
                    have abK : wr.cell? ⟨dK, 2, none⟩ = some (.int .i64 t164) := (aM bT.out 2).trans rfl
                    have abL := ay bT.out 0
                    have abM := ay bT.out 1
                    have abN := ay bT.out 2
                    go_wp2_with (first | ((with_reducible refine aQ (f := 118) rfl ?_); refine bP (some 67) rfl rfl Try.func118 (by kernel_rfl) rfl #[.string a0, .int .i64 bQ] rfl (by (try simp only [List.map_toArray, List.map_cons, List.map_nil]); first | done | rfl | (simp only [List.length_drop, List.length_take]; rfl) | (simp only [ByteArray.size_append, Int.natCast_add]; rfl) | (rw [B.dO] <;> first | rfl | omega | (simp only [decide_eq_false_iff_not, decide_eq_true_eq, Int.not_lt, Nat.not_lt, gt_iff_lt] at * <;> omega))) ?_; (with_reducible refine (aU.calls k1 a0 bQ t167 t168 DJ _ A39.out).mono ?_); rintro e w' ⟨rfl, ⟨nd, rfl⟩⟩; refine ⟨_, rfl, ?_⟩))
                    go_ret2
                    exact ⟨by first | rfl | (simp [aJ, aK] <;> rfl) | (simp [*, aJ, aK] <;> rfl), by repeat (first | (with_reducible first | exact HB.out | apply ak | apply ah | apply au | refine aR ?_ kD.out) | exact HB.out)⟩
                · rw [if_neg Jd] at H
                  have QJ : decide (uZ < ku) = false := decide_eq_false Jd
                  clear Jd
                  by_cases LJ : (wrap64 (bQ + t164)) = (wrap64 (a1 + a2))
                  · rw [if_pos LJ] at H
                    have YV : ((wrap64 (bQ + t164)) == (wrap64 (a1 + a2))) = true := beq_iff_eq.mpr LJ
                    have YW : ((wrap64 (bQ + t164)) != (wrap64 (a1 + a2))) = false := bne_eq_false_iff_eq.mpr LJ
                    (try (have YX : (((bQ + t164)) == ((a1 + a2))) = true := by have h_ : ((wrap64 (bQ + t164)) == (wrap64 (a1 + a2))) = true := beq_iff_eq.mpr LJ; rw [B.dO (by omega) (by omega)] at h_; rw [B.dO (by omega) (by omega)] at h_; exact h_))
                    (try (have YZ : (((bQ + t164)) != ((a1 + a2))) = false := by have h_ : ((wrap64 (bQ + t164)) != (wrap64 (a1 + a2))) = false := bne_eq_false_iff_eq.mpr LJ; rw [B.dO (by omega) (by omega)] at h_; rw [B.dO (by omega) (by omega)] at h_; exact h_))
                    clear LJ
                    by_cases Y0 : 0 ≤ bQ
                    · rw [if_pos Y0] at H
                      have afE := eq_true Y0
                      have afF : decide (0 ≤ bQ) = true := decide_eq_true Y0
                      clear Y0
                      by_cases c46 : bQ ≤ (wrap64 (a1 + a2))
                      · rw [if_pos c46] at H
                        have afG := eq_true c46
                        have afH : decide (bQ ≤ (wrap64 (a1 + a2))) = true := decide_eq_true c46
                        by_cases c47 : (wrap64 (a1 + a2)) ≤ (a0.size : Int)
                        · rw [if_pos c47] at H
                          have afI := eq_true c47
                          have afJ : decide ((wrap64 (a1 + a2)) ≤ (a0.size : Int)) = true := decide_eq_true c47
                          by_cases Y1 : dD.size + (a0.extract (bQ : Int).toNat ((wrap64 (a1 + a2)) : Int).toNat).size ≤ 9223372036854775807
                          · rw [if_pos Y1] at H
                            have afK := eq_true Y1
                            have afL : decide (dD.size + (a0.extract (bQ : Int).toNat ((wrap64 (a1 + a2)) : Int).toNat).size ≤ 9223372036854775807) = true := decide_eq_true Y1
                            try have afM : (9223372036854775807 < dD.size + (a0.extract (bQ : Int).toNat ((wrap64 (a1 + a2)) : Int).toNat).size) = False := eq_false (Nat.not_lt.2 Y1)
                            by_cases c49 : ((dD ++ (a0.extract (bQ : Int).toNat ((wrap64 (a1 + a2)) : Int).toNat)).size : Int) > 65535
                            · rw [if_pos c49] at H
                              have Y2 : decide (65535 < ((dD ++ (a0.extract (bQ : Int).toNat ((wrap64 (a1 + a2)) : Int).toNat)).size : Int)) = true := decide_eq_true c49
                              have Y3 : decide (65535 < (dD ++ (a0.extract (bQ : Int).toNat ((wrap64 (a1 + a2)) : Int).toNat)).size) = true := decide_eq_true (by omega)
                              (try (have Y4 : decide (65535 < ((dD.size : Int) + ((a0.extract (bQ : Int).toNat ((wrap64 (a1 + a2)) : Int).toNat).size : Int))) = true := by have h_ : decide (65535 < ((dD ++ (a0.extract (bQ : Int).toNat ((wrap64 (a1 + a2)) : Int).toNat)).size : Int)) = true := decide_eq_true c49; rw [show ((dD ++ (a0.extract (bQ : Int).toNat ((wrap64 (a1 + a2)) : Int).toNat)).size : Int) = ((dD.size : Int) + ((a0.extract (bQ : Int).toNat ((wrap64 (a1 + a2)) : Int).toNat).size : Int)) from by (simp only [ByteArray.size_append, Int.natCast_add]; first | done | rfl)] at h_; (first | exact h_ | (simp only [Int.add_sub_cancel] at h_; exact h_))))
                              (try (have Y5 : decide (65535 < ((dD.size : Int) + ((((wrap64 (a1 + a2)) : Int).toNat - (bQ : Int).toNat : Nat) : Int))) = true := by have h_ : decide (65535 < ((dD ++ (a0.extract (bQ : Int).toNat ((wrap64 (a1 + a2)) : Int).toNat)).size : Int)) = true := decide_eq_true c49; rw [show ((dD ++ (a0.extract (bQ : Int).toNat ((wrap64 (a1 + a2)) : Int).toNat)).size : Int) = ((dD.size : Int) + ((a0.extract (bQ : Int).toNat ((wrap64 (a1 + a2)) : Int).toNat).size : Int)) from by (simp only [ByteArray.size_append, Int.natCast_add]; first | done | rfl)] at h_; rw [show ((a0.extract (bQ : Int).toNat ((wrap64 (a1 + a2)) : Int).toNat).size : Int) = ((((wrap64 (a1 + a2)) : Int).toNat - (bQ : Int).toNat : Nat) : Int) from by (have h1_ : (wrap64 (a1 + a2)) ≤ (a0.size : Int) := of_decide_eq_true (by assumption); rw [ByteArray.size_extract]; omega)] at h_; exact h_))
                              (try (have Y6 : decide (65535 < ((dD ++ (a0.extract (bQ : Int).toNat (((a1 + a2)) : Int).toNat)).size : Int)) = true := by have h_ : decide (65535 < ((dD ++ (a0.extract (bQ : Int).toNat ((wrap64 (a1 + a2)) : Int).toNat)).size : Int)) = true := decide_eq_true c49; rw [B.dO (by omega) (by omega)] at h_; exact h_))
                              (try (have Y7 : decide (65535 < (dD ++ (a0.extract (bQ : Int).toNat (((a1 + a2)) : Int).toNat)).size) = true := by have h_ : decide (65535 < (dD ++ (a0.extract (bQ : Int).toNat ((wrap64 (a1 + a2)) : Int).toNat)).size) = true := decide_eq_true (by omega); rw [B.dO (by omega) (by omega)] at h_; exact h_))
                              (try (have Y8 : decide (65535 < ((dD.size : Int) + ((a0.extract (bQ : Int).toNat (((a1 + a2)) : Int).toNat).size : Int))) = true := by have h_ : decide (65535 < ((dD.size : Int) + ((a0.extract (bQ : Int).toNat ((wrap64 (a1 + a2)) : Int).toNat).size : Int))) = true := by have h_ : decide (65535 < ((dD ++ (a0.extract (bQ : Int).toNat ((wrap64 (a1 + a2)) : Int).toNat)).size : Int)) = true := decide_eq_true c49; rw [show ((dD ++ (a0.extract (bQ : Int).toNat ((wrap64 (a1 + a2)) : Int).toNat)).size : Int) = ((dD.size : Int) + ((a0.extract (bQ : Int).toNat ((wrap64 (a1 + a2)) : Int).toNat).size : Int)) from by (simp only [ByteArray.size_append, Int.natCast_add]; first | done | rfl)] at h_; (first | exact h_ | (simp only [Int.add_sub_cancel] at h_; exact h_)); rw [B.dO (by omega) (by omega)] at h_; exact h_))
                              (try (have Y9 : decide (65535 < ((dD.size : Int) + (((((a1 + a2)) : Int).toNat - (bQ : Int).toNat : Nat) : Int))) = true := by have h_ : decide (65535 < ((dD.size : Int) + ((((wrap64 (a1 + a2)) : Int).toNat - (bQ : Int).toNat : Nat) : Int))) = true := by have h_ : decide (65535 < ((dD ++ (a0.extract (bQ : Int).toNat ((wrap64 (a1 + a2)) : Int).toNat)).size : Int)) = true := decide_eq_true c49; rw [show ((dD ++ (a0.extract (bQ : Int).toNat ((wrap64 (a1 + a2)) : Int).toNat)).size : Int) = ((dD.size : Int) + ((a0.extract (bQ : Int).toNat ((wrap64 (a1 + a2)) : Int).toNat).size : Int)) from by (simp only [ByteArray.size_append, Int.natCast_add]; first | done | rfl)] at h_; rw [show ((a0.extract (bQ : Int).toNat ((wrap64 (a1 + a2)) : Int).toNat).size : Int) = ((((wrap64 (a1 + a2)) : Int).toNat - (bQ : Int).toNat : Nat) : Int) from by (have h1_ : (wrap64 (a1 + a2)) ≤ (a0.size : Int) := of_decide_eq_true (by assumption); rw [ByteArray.size_extract]; omega)] at h_; exact h_; rw [B.dO (by omega) (by omega)] at h_; exact h_))
                              clear c49
                              simp only [Option.some.injEq, Prod.mk.injEq] at H
                              obtain ⟨rfl, rfl⟩ := H
                              have abO : wr.cell? ⟨dK, 0, none⟩ = some (.int .i64 t162) := (aM bT.out 0).trans rfl
                              have abP : wr.cell? ⟨dK, 1, none⟩ = some (.int .i64 ku) := (aM bT.out 1).trans rfl
                              have abQ : wr.cell? ⟨dK, 2, none⟩ = some (.int .i64 t164) := (aM bT.out 2).trans rfl
                              have abR := ay bT.out 0
                              have abS := ay bT.out 1
                              have abT := ay bT.out 2
                              go_wp2
                              go_ret2
                              exact ⟨by first | rfl | (simp [aJ, aK] <;> rfl) | (simp [*, aJ, aK] <;> rfl), by repeat (first | (with_reducible first | exact HB.out | apply ak | apply ah | apply au | refine aR ?_ kD.out) | exact HB.out)⟩
                            · rw [if_neg c49] at H
                              have Y2 : decide (65535 < ((dD ++ (a0.extract (bQ : Int).toNat ((wrap64 (a1 + a2)) : Int).toNat)).size : Int)) = false := decide_eq_false c49
                              have Y3 : decide (65535 < (dD ++ (a0.extract (bQ : Int).toNat ((wrap64 (a1 + a2)) : Int).toNat)).size) = false := decide_eq_false (by omega)
                              (try (have Y4 : decide (65535 < ((dD.size : Int) + ((a0.extract (bQ : Int).toNat ((wrap64 (a1 + a2)) : Int).toNat).size : Int))) = false := by have h_ : decide (65535 < ((dD ++ (a0.extract (bQ : Int).toNat ((wrap64 (a1 + a2)) : Int).toNat)).size : Int)) = false := decide_eq_false c49; rw [show ((dD ++ (a0.extract (bQ : Int).toNat ((wrap64 (a1 + a2)) : Int).toNat)).size : Int) = ((dD.size : Int) + ((a0.extract (bQ : Int).toNat ((wrap64 (a1 + a2)) : Int).toNat).size : Int)) from by (simp only [ByteArray.size_append, Int.natCast_add]; first | done | rfl)] at h_; (first | exact h_ | (simp only [Int.add_sub_cancel] at h_; exact h_))))
                              (try (have Y5 : decide (65535 < ((dD.size : Int) + ((((wrap64 (a1 + a2)) : Int).toNat - (bQ : Int).toNat : Nat) : Int))) = false := by have h_ : decide (65535 < ((dD ++ (a0.extract (bQ : Int).toNat ((wrap64 (a1 + a2)) : Int).toNat)).size : Int)) = false := decide_eq_false c49; rw [show ((dD ++ (a0.extract (bQ : Int).toNat ((wrap64 (a1 + a2)) : Int).toNat)).size : Int) = ((dD.size : Int) + ((a0.extract (bQ : Int).toNat ((wrap64 (a1 + a2)) : Int).toNat).size : Int)) from by (simp only [ByteArray.size_append, Int.natCast_add]; first | done | rfl)] at h_; rw [show ((a0.extract (bQ : Int).toNat ((wrap64 (a1 + a2)) : Int).toNat).size : Int) = ((((wrap64 (a1 + a2)) : Int).toNat - (bQ : Int).toNat : Nat) : Int) from by (have h1_ : (wrap64 (a1 + a2)) ≤ (a0.size : Int) := of_decide_eq_true (by assumption); rw [ByteArray.size_extract]; omega)] at h_; exact h_))
                              (try (have Y6 : decide (65535 < ((dD ++ (a0.extract (bQ : Int).toNat (((a1 + a2)) : Int).toNat)).size : Int)) = false := by have h_ : decide (65535 < ((dD ++ (a0.extract (bQ : Int).toNat ((wrap64 (a1 + a2)) : Int).toNat)).size : Int)) = false := decide_eq_false c49; rw [B.dO (by omega) (by omega)] at h_; exact h_))
                              (try (have Y7 : decide (65535 < (dD ++ (a0.extract (bQ : Int).toNat (((a1 + a2)) : Int).toNat)).size) = false := by have h_ : decide (65535 < (dD ++ (a0.extract (bQ : Int).toNat ((wrap64 (a1 + a2)) : Int).toNat)).size) = false := decide_eq_false (by omega); rw [B.dO (by omega) (by omega)] at h_; exact h_))
                              (try (have Y8 : decide (65535 < ((dD.size : Int) + ((a0.extract (bQ : Int).toNat (((a1 + a2)) : Int).toNat).size : Int))) = false := by have h_ : decide (65535 < ((dD.size : Int) + ((a0.extract (bQ : Int).toNat ((wrap64 (a1 + a2)) : Int).toNat).size : Int))) = false := by have h_ : decide (65535 < ((dD ++ (a0.extract (bQ : Int).toNat ((wrap64 (a1 + a2)) : Int).toNat)).size : Int)) = false := decide_eq_false c49; rw [show ((dD ++ (a0.extract (bQ : Int).toNat ((wrap64 (a1 + a2)) : Int).toNat)).size : Int) = ((dD.size : Int) + ((a0.extract (bQ : Int).toNat ((wrap64 (a1 + a2)) : Int).toNat).size : Int)) from by (simp only [ByteArray.size_append, Int.natCast_add]; first | done | rfl)] at h_; (first | exact h_ | (simp only [Int.add_sub_cancel] at h_; exact h_)); rw [B.dO (by omega) (by omega)] at h_; exact h_))
                              (try (have Y9 : decide (65535 < ((dD.size : Int) + (((((a1 + a2)) : Int).toNat - (bQ : Int).toNat : Nat) : Int))) = false := by have h_ : decide (65535 < ((dD.size : Int) + ((((wrap64 (a1 + a2)) : Int).toNat - (bQ : Int).toNat : Nat) : Int))) = false := by have h_ : decide (65535 < ((dD ++ (a0.extract (bQ : Int).toNat ((wrap64 (a1 + a2)) : Int).toNat)).size : Int)) = false := decide_eq_false c49; rw [show ((dD ++ (a0.extract (bQ : Int).toNat ((wrap64 (a1 + a2)) : Int).toNat)).size : Int) = ((dD.size : Int) + ((a0.extract (bQ : Int).toNat ((wrap64 (a1 + a2)) : Int).toNat).size : Int)) from by (simp only [ByteArray.size_append, Int.natCast_add]; first | done | rfl)] at h_; rw [show ((a0.extract (bQ : Int).toNat ((wrap64 (a1 + a2)) : Int).toNat).size : Int) = ((((wrap64 (a1 + a2)) : Int).toNat - (bQ : Int).toNat : Nat) : Int) from by (have h1_ : (wrap64 (a1 + a2)) ≤ (a0.size : Int) := of_decide_eq_true (by assumption); rw [ByteArray.size_extract]; omega)] at h_; exact h_; rw [B.dO (by omega) (by omega)] at h_; exact h_))
                              clear c49
                              simp only [Option.some.injEq, Prod.mk.injEq] at H
                              obtain ⟨rfl, rfl⟩ := H
                              have abU : wr.cell? ⟨dK, 0, none⟩ = some (.int .i64 t162) := (aM bT.out 0).trans rfl
                              have abV : wr.cell? ⟨dK, 1, none⟩ = some (.int .i64 ku) := (aM bT.out 1).trans rfl
                              have abW : wr.cell? ⟨dK, 2, none⟩ = some (.int .i64 t164) := (aM bT.out 2).trans rfl
                              have abX := ay bT.out 0
                              have abY := ay bT.out 1
                              have abZ := ay bT.out 2
                              go_wp2
                              go_ret2
                              exact ⟨by first | rfl | (simp [aJ, aK] <;> rfl) | (simp [*, aJ, aK] <;> rfl), by repeat (first | (with_reducible first | exact HB.out | apply ak | apply ah | apply au | refine aR ?_ kD.out) | exact HB.out)⟩
                          · rw [if_neg Y1] at H
                            exact absurd H (by simp)
                        · rw [if_neg c47] at H
                          exact absurd H (by simp)
                      · rw [if_neg c46] at H
                        exact absurd H (by simp)
                    · rw [if_neg Y0] at H
                      exact absurd H (by simp)
                  · rw [if_neg LJ] at H
                    have YV : ((wrap64 (bQ + t164)) == (wrap64 (a1 + a2))) = false := beq_eq_false_iff_ne.mpr LJ
                    have YW : ((wrap64 (bQ + t164)) != (wrap64 (a1 + a2))) = true := bne_iff_ne.mpr LJ
                    (try (have YX : (((bQ + t164)) == ((a1 + a2))) = false := by have h_ : ((wrap64 (bQ + t164)) == (wrap64 (a1 + a2))) = false := beq_eq_false_iff_ne.mpr LJ; rw [B.dO (by omega) (by omega)] at h_; rw [B.dO (by omega) (by omega)] at h_; exact h_))
                    (try (have YZ : (((bQ + t164)) != ((a1 + a2))) = true := by have h_ : ((wrap64 (bQ + t164)) != (wrap64 (a1 + a2))) = true := bne_iff_ne.mpr LJ; rw [B.dO (by omega) (by omega)] at h_; rw [B.dO (by omega) (by omega)] at h_; exact h_))
                    simp only [Option.some.injEq, Prod.mk.injEq] at H
                    obtain ⟨rfl, rfl⟩ := H
                    have ab0 : wr.cell? ⟨dK, 0, none⟩ = some (.int .i64 t162) := (aM bT.out 0).trans rfl
                    have ab1 : wr.cell? ⟨dK, 1, none⟩ = some (.int .i64 ku) := (aM bT.out 1).trans rfl
                    have ab2 : wr.cell? ⟨dK, 2, none⟩ = some (.int .i64 t164) := (aM bT.out 2).trans rfl
                    have ab3 := ay bT.out 0
                    have ab4 := ay bT.out 1
                    have ab5 := ay bT.out 2
                    go_wp2
                    go_ret2
                    exact ⟨by first | rfl | (simp [aJ, aK] <;> rfl) | (simp [*, aJ, aK] <;> rfl), by repeat (first | (with_reducible first | exact HB.out | apply ak | apply ah | apply au | refine aR ?_ kD.out) | exact HB.out)⟩
          · rw [if_neg c34] at H
            exact absurd H (by simp)
        · rw [if_neg Nb] at H
          exact absurd H (by simp)
  · replace c6 := Bool.eq_false_iff.mpr c6
    subst c6
    have H1 : (some ((⟨#[]⟩ : ByteArray), 2)) = some (r1, r2) := by rw [if_neg (show ¬ (false = true) by decide)] at H; exact H
    clear H
    have H := H1
    clear H1
    simp only [Option.some.injEq, Prod.mk.injEq] at H
    obtain ⟨rfl, rfl⟩ := H
    go_enter Try.func104, Try.ntmps104
    go_wp2_with (first | ((with_reducible refine aQ (f := 99) rfl ?_); refine bP (some 23) rfl rfl Try.func99 (by kernel_rfl) rfl #[.string a0, .int .i64 a1, .int .i64 a2] rfl (by (try simp only [List.map_toArray, List.map_cons, List.map_nil]); first | done | rfl | (simp only [List.length_drop, List.length_take]; rfl) | (simp only [ByteArray.size_append, Int.natCast_add]; rfl) | (rw [B.dO] <;> first | rfl | omega | (simp only [decide_eq_false_iff_not, decide_eq_true_eq, Int.not_lt, Nat.not_lt, gt_iff_lt] at * <;> omega))) ?_; (with_reducible refine (bC.calls a0 a1 a2 t160 false _ A5.out).mono ?_); rintro e w' ⟨rfl, ⟨nd, rfl⟩⟩; refine ⟨_, rfl, ?_⟩))
    go_ret2
    exact ⟨by first | rfl | (simp [aJ, aK] <;> rfl) | (simp [*, aJ, aK] <;> rfl), by repeat (first | (with_reducible first | exact HB.out | apply ak | apply ah | apply au) | exact HB.out)⟩
def bR.f (k : Nat) (a0 : Int) (a1 : ByteArray) : Option (Bool) := if (a1.size : Int) > 65535 then (some false) else ((aX.f k a1 0 (a1.size : Int) a0).bind fun DK => (if DK.2 = 0 then (some (DK.1.toList == a1.toList)) else (some false)))
set_option maxHeartbeats 8000000 in
set_option maxRecDepth 100000 in
theorem bR.calls (k : Nat) (a0 : Int) (a1 : ByteArray) (r : Bool) (w : World) (h : bR.f k a0 a1 = some r) :
    Calls Try.prog 83 #[.int .i64 a0, .string a1] w fun e w' => e = .returned (.bool r) ∧ Below w.heap.size w w' := by
  have HB := aj.mk (Below.refl w.heap.size w)
  have H : (if (a1.size : Int) > 65535 then (some false) else ((aX.f k a1 0 (a1.size : Int) a0).bind fun DK => (if DK.2 = 0 then (some (DK.1.toList == a1.toList)) else (some false)))) = some r := h
  clear h
  by_cases c3 : (a1.size : Int) > 65535
  · rw [if_pos c3] at H
    have ql : decide (65535 < (a1.size : Int)) = true := decide_eq_true c3
    have Bf : decide (65535 < a1.size) = true := decide_eq_true (by omega)
    clear c3
    obtain rfl := Option.some.inj H
    go_enter Try.func83, Try.ntmps83
    go_wp2
    go_ret
    exact ⟨by first | rfl | (simp [aJ, aK] <;> rfl) | (simp [*, aJ, aK] <;> rfl), by repeat (first | (with_reducible first | exact HB.out | apply ak | apply ah | apply au) | exact HB.out)⟩
  · rw [if_neg c3] at H
    have ql : decide (65535 < (a1.size : Int)) = false := decide_eq_false c3
    have Bf : decide (65535 < a1.size) = false := decide_eq_false (by omega)
    clear c3
    replace H := zbm H
    obtain ⟨⟨TT, t171⟩, Du, H⟩ := H
    replace H : (if t171 = 0 then (some (TT.toList == a1.toList)) else (some false)) = some r := H
    have A4 := aj.mk Du
    clear Du
    by_cases c5 : t171 = 0
    · rw [if_pos c5] at H
      have oM : (t171 == 0) = true := beq_iff_eq.mpr c5
      have uE : (t171 != 0) = false := bne_eq_false_iff_eq.mpr c5
      clear c5
      obtain rfl := Option.some.inj H
      go_enter Try.func83, Try.ntmps83
      go_wp2_with (first | ((with_reducible refine aQ (f := 104) rfl ?_); refine bP (some 15) rfl rfl Try.func104 (by kernel_rfl) rfl #[.string a1, .int .i64 0, .int .i64 (a1.size : Int), .int .i64 a0] rfl (by (try simp only [List.map_toArray, List.map_cons, List.map_nil]); first | done | rfl | (simp only [List.length_drop, List.length_take]; rfl) | (simp only [ByteArray.size_append, Int.natCast_add]; rfl) | (rw [B.dO] <;> first | rfl | omega | (simp only [decide_eq_false_iff_not, decide_eq_true_eq, Int.not_lt, Nat.not_lt, gt_iff_lt] at * <;> omega))) ?_; (with_reducible refine (aX.calls k a1 0 (a1.size : Int) a0 TT t171 _ A4.out).mono ?_); rintro e w6 ⟨rfl, hb⟩; refine ⟨_, rfl, ?_⟩; have dY := aj.mk (bE (by repeat (first | (with_reducible first | exact HB.out | apply ak | apply ah | apply au) | exact HB.out)) hb); clear HB; have HB := dY; clear dY; (try clear hb); (try clear hb2); (try clear hk); (try clear hi)))
      go_ret
      exact ⟨by first | rfl | (simp [aJ, aK] <;> rfl) | (simp [*, aJ, aK] <;> rfl), by repeat (first | (with_reducible first | exact HB.out | apply ak | apply ah | apply au) | exact HB.out)⟩
    · rw [if_neg c5] at H
      have oM : (t171 == 0) = false := beq_eq_false_iff_ne.mpr c5
      have uE : (t171 != 0) = true := bne_iff_ne.mpr c5
      obtain rfl := Option.some.inj H
      go_enter Try.func83, Try.ntmps83
      go_wp2_with (first | ((with_reducible refine aQ (f := 104) rfl ?_); refine bP (some 15) rfl rfl Try.func104 (by kernel_rfl) rfl #[.string a1, .int .i64 0, .int .i64 (a1.size : Int), .int .i64 a0] rfl (by (try simp only [List.map_toArray, List.map_cons, List.map_nil]); first | done | rfl | (simp only [List.length_drop, List.length_take]; rfl) | (simp only [ByteArray.size_append, Int.natCast_add]; rfl) | (rw [B.dO] <;> first | rfl | omega | (simp only [decide_eq_false_iff_not, decide_eq_true_eq, Int.not_lt, Nat.not_lt, gt_iff_lt] at * <;> omega))) ?_; (with_reducible refine (aX.calls k a1 0 (a1.size : Int) a0 TT t171 _ A4.out).mono ?_); rintro e w7 ⟨rfl, hb⟩; refine ⟨_, rfl, ?_⟩; have dY := aj.mk (bE (by repeat (first | (with_reducible first | exact HB.out | apply ak | apply ah | apply au) | exact HB.out)) hb); clear HB; have HB := dY; clear dY; (try clear hb); (try clear hb2); (try clear hk); (try clear hi)))
      go_ret
      exact ⟨by first | rfl | (simp [aJ, aK] <;> rfl) | (simp [*, aJ, aK] <;> rfl), by repeat (first | (with_reducible first | exact HB.out | apply ak | apply ah | apply au) | exact HB.out)⟩
def bg.l0 : Nat → ByteArray → List ByteArray → Int → Int → Int → Int → Int → Option (List ByteArray)
  | 0, _, _, _, _, _, _, _ => none
  | k + 1, x1, x5, x7, x8, O9, GL, Pb => if x8 < GL then ((aU.f k x1 x7).bind fun QM => (if x5.length < 8796093022208 then (bg.l0 k x1 (x5 ++ [QM.1]) QM.2.1 (wrap64 (x8 + 1)) O9 GL Pb) else (none))) else (some x5)
def bg.f (k : Nat) (a0 : Int) (a1 : ByteArray) : Option (List ByteArray) := (bR.f k a0 a1).bind fun IE => (if IE = true then ((aH.f k a0).bind fun kC => (bg.l0 k a1 ([] : List ByteArray) kC.1 0 kC.1 kC.2.1 kC.2.2)) else (some ([] : List ByteArray)))
set_option maxHeartbeats 8000000 in
set_option maxRecDepth 100000 in
theorem bg.calls (k : Nat) (a0 : Int) (a1 : ByteArray) (r : List ByteArray) (w : World) (h : bg.f k a0 a1 = some r) :
    Calls Try.prog 105 #[.int .i64 a0, .string a1] w fun e w' => ∃ Qz : Value, e = .returned (Qz) ∧ Kd.R Kd.string 9 w' w.heap.size (fun _ => True) Qz r ∧ Below w.heap.size w w' := by
  have Lu := Try.underlying142
  have HB := aj.mk (Below.refl w.heap.size w)
  have H : ((bR.f k a0 a1).bind fun IE => (if IE = true then ((aH.f k a0).bind fun kC => (bg.l0 k a1 ([] : List ByteArray) kC.1 0 kC.1 kC.2.1 kC.2.2)) else (some ([] : List ByteArray)))) = some r := h
  clear h
  replace H := zbm H
  obtain ⟨IE, QD, H⟩ := H
  replace H : (if IE = true then ((aH.f k a0).bind fun kC => (bg.l0 k a1 ([] : List ByteArray) kC.1 0 kC.1 kC.2.1 kC.2.2)) else (some ([] : List ByteArray))) = some r := H
  have A3 := aj.mk QD
  clear QD
  by_cases c4 : IE = true
  · subst c4
    have H1 : ((aH.f k a0).bind fun kC => (bg.l0 k a1 ([] : List ByteArray) kC.1 0 kC.1 kC.2.1 kC.2.2)) = some r := by rw [if_pos rfl] at H; exact H
    clear H
    have H := H1
    clear H1
    replace H := zbm H
    obtain ⟨⟨t173, uF, t175⟩, QK, H⟩ := H
    replace H : (bg.l0 k a1 ([] : List ByteArray) t173 0 t173 uF t175) = some r := H
    have A5 := aj.mk QK
    clear QK
    have H' := aj.mk H
    clear H
    go_enter Try.func105, Try.ntmps105
    go_wp2_with (first | ((with_reducible refine aQ (f := 83) rfl ?_); refine bP (some 14) rfl rfl Try.func83 (by kernel_rfl) rfl #[.int .i64 a0, .string a1] rfl (by (try simp only [List.map_toArray, List.map_cons, List.map_nil]); first | done | rfl | (simp only [List.length_drop, List.length_take]; rfl) | (simp only [ByteArray.size_append, Int.natCast_add]; rfl) | (rw [B.dO] <;> first | rfl | omega | (simp only [decide_eq_false_iff_not, decide_eq_true_eq, Int.not_lt, Nat.not_lt, gt_iff_lt] at * <;> omega))) ?_; (with_reducible refine (bR.calls k a0 a1 true _ A3.out).mono ?_); rintro e w6 ⟨rfl, hb⟩; refine ⟨_, rfl, ?_⟩; have dY := aj.mk (bE (by repeat (first | (with_reducible first | exact HB.out | apply ak | apply ah | apply au) | exact HB.out)) hb); clear HB; have HB := dY; clear dY; (try clear hb); (try clear hb2); (try clear hk); (try clear hi)) | ((with_reducible refine aQ (f := 106) rfl ?_); refine bP (some 17) rfl rfl Try.func106 (by kernel_rfl) rfl #[.int .i64 a0] rfl (by (try simp only [List.map_toArray, List.map_cons, List.map_nil]); first | done | rfl | (simp only [List.length_drop, List.length_take]; rfl) | (simp only [ByteArray.size_append, Int.natCast_add]; rfl) | (rw [B.dO] <;> first | rfl | omega | (simp only [decide_eq_false_iff_not, decide_eq_true_eq, Int.not_lt, Nat.not_lt, gt_iff_lt] at * <;> omega))) ?_; (with_reducible refine (aH.calls k a0 t173 uF t175 _ A5.out).mono ?_); rintro e w7 ⟨rfl, hb⟩; refine ⟨_, rfl, ?_⟩; have dY := aj.mk (bE (by repeat (first | (with_reducible first | exact HB.out | apply ak | apply ah | apply au) | exact HB.out)) hb); clear HB; have HB := dY; clear dY; (try clear hb); (try clear hb2); (try clear hk); (try clear hi)) | ((with_reducible refine gF (N := 6) rfl ?_); refine fO ?hg (N := 6) ?hd (cs := #[.int .i64 0, .int .i64 0, .int .i64 0]) (t := 142) ?hr ?_; (case hd => rfl); (case hg => rfl); (case hr => first | (go_simp; done) | (go_simp; rfl)); intro nD hg w8 gT hb; have dY := aj.mk (bE (by repeat (first | (with_reducible first | exact HB.out | apply ak | apply ah | apply au) | exact HB.out)) hb); have gW := aj.mk (gT); have iZ := aj.mk ((by rw [hg]; exact (bL (by repeat (first | (with_reducible first | exact HB.out | apply ak | apply ah | apply au) | exact HB.out))) : w.heap.size ≤ nD)); have jE := aj.mk ((by rw [hg]; exact (bL (by repeat (first | (with_reducible first | exact HB.out | apply ak | apply ah | apply au) | exact HB.out))) : w.heap.size ≤ nD)); clear HB; have HB := dY; have iU := gW; have afN := iZ; have DL := jE; clear dY gW iZ jE; clear hb gT hg; have Lv : w8.cell? ⟨nD, 0, none⟩ = some (.int .i64 0) := (aM iU.out 0).trans rfl; have Lx : w8.cell? ⟨nD, 1, none⟩ = some (.int .i64 0) := (aM iU.out 1).trans rfl; have LA : w8.cell? ⟨nD, 2, none⟩ = some (.int .i64 0) := (aM iU.out 2).trans rfl; have LB := ay iU.out 0; have LC := ay iU.out 1; have LD := ay iU.out 2))
    go_loopg [5, 7, 8] k (fun kq v5 v7 v8 w' => ∃ (DN : List ByteArray) (dI : Int) (gG : Int), v7 = .int .i64 dI ∧ v8 = .int .i64 gG ∧ aj (bg.l0 kq a1 DN dI gG t173 uF t175 = some r) ∧ aj (kq ≤ k) ∧ aj (Kd.R Kd.string 9 w' w.heap.size (fun _ => True) v5 DN) ∧ aj (w'.heap[nD]? = some (.cells #[.int .i64 t173, .int .i64 uF, .int .i64 t175] 142 (0, 0))) ∧ aj (Below w.heap.size w w'))
    case atStart => exact ⟨(([] : List ByteArray)), (t173), (0), (by first | rfl | (simp; done) | (simp [*]; done) | (simp [B.aV]; done) | (simp [B.aW]; done)), (by first | rfl | (simp; done) | (simp [*]; done) | (simp [B.aV]; done) | (simp [B.aW]; done)), H', ⟨Nat.le_refl _⟩, ⟨by first | exact Kd.jy _ _ _ _ _ | exact Kd.kQ _ _ _ _ _ | exact Kd.kR _ _ _ _ _ | exact Kd.kN _ _ _ _ _ | exact Kd.kP _ _ _ _ _⟩, ⟨by (with_reducible repeat (first | refine aG ?_ _ | refine aI ?_ | refine aA ?_ _)); refine bU (cs := #[.int .i64 t173, .int .i64 uF, .int .i64 0]) ?_ 2 _ rfl; (with_reducible repeat (first | refine aG ?_ _ | refine aI ?_ | refine aA ?_ _)); refine bU (cs := #[.int .i64 t173, .int .i64 0, .int .i64 0]) ?_ 1 _ rfl; (with_reducible repeat (first | refine aG ?_ _ | refine aI ?_ | refine aA ?_ _)); refine bU (cs := #[.int .i64 0, .int .i64 0, .int .i64 0]) ?_ 0 _ rfl; (with_reducible repeat (first | refine aG ?_ _ | refine aI ?_ | refine aA ?_ _)); exact iU.out⟩, ⟨by repeat (first | (with_reducible first | exact HB.out | apply ak | apply ah | apply au | refine aR ?_ DL.out) | exact HB.out)⟩⟩
    case round =>
      clear H'
      try clear c1
      try clear p2
      try clear c4
      try clear c8
      try clear Lv
      try clear Lx
      try clear LA
      try clear LB
      try clear LC
      try clear LD
      obtain ⟨DN, dI, gG, rfl, rfl, HA, sO, uG, iU, HB⟩ := hrel
      cases gk with
      | zero => exact absurd HA.out (by simp [bg.l0])
      | succ k1 =>
        have H := HA.out
        clear HA
        simp only [bg.l0] at H
        by_cases c10 : gG < uF
        · rw [if_pos c10] at H
          have qE : decide (gG < uF) = true := decide_eq_true c10
          clear c10
          replace H := zbm H
          obtain ⟨⟨LK, Pf, adN⟩, Za, H⟩ := H
          replace H : (if DN.length < 8796093022208 then (bg.l0 k1 a1 (DN ++ [LK]) Pf (wrap64 (gG + 1)) t173 uF t175) else (none)) = some r := H
          have A11 := aj.mk Za
          clear Za
          by_cases c12 : DN.length < 8796093022208
          · rw [if_pos c12] at H
            have Zb := aj.mk c12
            clear c12
            obtain ⟨Zc, DR⟩ : ∃ y_ : List ByteArray, y_ = (DN ++ [LK]) := ⟨_, rfl⟩
            replace H : (bg.l0 k1 a1 Zc Pf (wrap64 (gG + 1)) t173 uF t175) = some r := by first | (rw [DR]; with_reducible exact H) | (have ER := (Option.bind_some _ _).symm.trans H; rw [DR]; with_reducible exact ER) | (have ER := (Option.bind_some _ _).symm.trans H; with_reducible exact ER) | with_reducible exact H | (rw [DR]; exact H) | exact H
            have Zd := aj.mk DR
            clear DR
            have H' := aj.mk H
            clear H
            have Bn : wr.cell? ⟨nD, 0, none⟩ = some (.int .i64 t173) := (aM iU.out 0).trans rfl
            have Bo : wr.cell? ⟨nD, 1, none⟩ = some (.int .i64 uF) := (aM iU.out 1).trans rfl
            have Bp : wr.cell? ⟨nD, 2, none⟩ = some (.int .i64 t175) := (aM iU.out 2).trans rfl
            have Bq := ay iU.out 0
            have Bt := ay iU.out 1
            have Bu := ay iU.out 2
            go_wp2_with (first | ((with_reducible refine aQ (f := 118) rfl ?_); refine bP (some 29) rfl rfl Try.func118 (by kernel_rfl) rfl #[.string a1, .int .i64 dI] rfl (by (try simp only [List.map_toArray, List.map_cons, List.map_nil]); first | done | rfl | (simp only [List.length_drop, List.length_take]; rfl) | (simp only [ByteArray.size_append, Int.natCast_add]; rfl) | (rw [B.dO] <;> first | rfl | omega | (simp only [decide_eq_false_iff_not, decide_eq_true_eq, Int.not_lt, Nat.not_lt, gt_iff_lt] at * <;> omega))) ?_; (with_reducible refine (aU.calls k1 a1 dI LK Pf adN _ A11.out).mono ?_); rintro e w' ⟨rfl, ⟨nd, rfl⟩⟩; refine ⟨_, rfl, ?_⟩) | ((with_reducible refine nN (b := .append) (xs := #[.tmp 33, .tmp 35]) rfl ?_); at_builtin; refine Kd.xB Kd.string (w0 := w) w.heap.size rfl (.tmp 33) (.tmp 35) 33 9 (.string ⟨#[]⟩) 16 rfl Try.underlying33 Gc rfl (by decide) (by omega) u5 DN LK [.string LK] (fun _ => True) (fun _ => False) rfl rfl ?aP (fun _ hk => hk.elim) ?aF ?aO ?aB ?aS ?aL ?_; (case aP => exact rfl); (case aB => exact (by repeat (first | (with_reducible first | exact HB.out | apply ak | apply ah | apply au | refine aR ?_ DL.out) | exact HB.out))); (case aF => exact (fun _ _ => trivial)); (case aO => exact (by (with_reducible repeat (first | apply Kd.eU | apply Kd.fF | apply Kd.fP)); exact uG.out)); (case aS => exact (bL (by repeat (first | (with_reducible first | exact HB.out | apply ak | apply ah | apply au | refine aR ?_ DL.out) | exact HB.out)))); (case aL => have := Zb.out; omega); intro af9 w14 ho hb hg hat; rw [← Zd.out] at ho; have dY := aj.mk (pG (g := nD) (o := .cells #[.int .i64 t173, .int .i64 uF, .int .i64 t175] 142 (0, 0)) (by (with_reducible repeat (first | refine aG ?_ _ | refine aI ?_ | refine aA ?_ _)); exact iU.out) hg (Kd.NM uG.out iU.out (by decide))); have gW := aj.mk (hb); have iZ := aj.mk (ho); clear iU; clear HB; clear uG; have iU := dY; have HB := gW; have Ze := iZ; clear dY gW iZ; clear ho hb hg hat))
            go_roundg k1
            case measure => have := sO.out; omega
            case rel => exact ⟨(Zc), (Pf), (wrap64 (gG + 1)), (by first | rfl | (simp; done) | (simp [*]; done) | (simp [B.aV]; done) | (simp [B.aW]; done)), (by first | rfl | (simp; done) | (simp [*]; done) | (simp [B.aV]; done) | (simp [B.aW]; done)), H', ⟨by have := sO.out; omega⟩, ⟨by (with_reducible repeat (first | apply Kd.eU | apply Kd.fF | apply Kd.fP)); exact Ze.out⟩, ⟨by (with_reducible repeat (first | refine aG ?_ _ | refine aI ?_ | refine aA ?_ _)); exact iU.out⟩, ⟨by repeat (first | (with_reducible first | exact HB.out | apply ak | apply ah | apply au | refine aR ?_ DL.out) | exact HB.out)⟩⟩
          · rw [if_neg c12] at H
            exact absurd H (by simp)
        · rw [if_neg c10] at H
          have qE : decide (gG < uF) = false := decide_eq_false c10
          clear c10
          obtain rfl := Option.some.inj H
          have Bv : wr.cell? ⟨nD, 0, none⟩ = some (.int .i64 t173) := (aM iU.out 0).trans rfl
          have Bw : wr.cell? ⟨nD, 1, none⟩ = some (.int .i64 uF) := (aM iU.out 1).trans rfl
          have Bz : wr.cell? ⟨nD, 2, none⟩ = some (.int .i64 t175) := (aM iU.out 2).trans rfl
          have BA := ay iU.out 0
          have BD := ay iU.out 1
          have BF := ay iU.out 2
          go_wp2
          go_ret
          exact ⟨_, by first | rfl | (simp [aJ, aK] <;> rfl) | (simp [*, aJ, aK] <;> rfl), by (with_reducible repeat (first | apply Kd.eU | apply Kd.fF | apply Kd.fP)); exact uG.out, by repeat (first | (with_reducible first | exact HB.out | apply ak | apply ah | apply au | refine aR ?_ DL.out) | exact HB.out)⟩
  · replace c4 := Bool.eq_false_iff.mpr c4
    subst c4
    have H1 : (some ([] : List ByteArray)) = some r := by rw [if_neg (show ¬ (false = true) by decide)] at H; exact H
    clear H
    have H := H1
    clear H1
    obtain rfl := Option.some.inj H
    go_enter Try.func105, Try.ntmps105
    go_wp2_with (first | ((with_reducible refine aQ (f := 83) rfl ?_); refine bP (some 14) rfl rfl Try.func83 (by kernel_rfl) rfl #[.int .i64 a0, .string a1] rfl (by (try simp only [List.map_toArray, List.map_cons, List.map_nil]); first | done | rfl | (simp only [List.length_drop, List.length_take]; rfl) | (simp only [ByteArray.size_append, Int.natCast_add]; rfl) | (rw [B.dO] <;> first | rfl | omega | (simp only [decide_eq_false_iff_not, decide_eq_true_eq, Int.not_lt, Nat.not_lt, gt_iff_lt] at * <;> omega))) ?_; (with_reducible refine (bR.calls k a0 a1 false _ A3.out).mono ?_); rintro e w16 ⟨rfl, hb⟩; refine ⟨_, rfl, ?_⟩; have dY := aj.mk (bE (by repeat (first | (with_reducible first | exact HB.out | apply ak | apply ah | apply au) | exact HB.out)) hb); clear HB; have HB := dY; clear dY; (try clear hb); (try clear hb2); (try clear hk); (try clear hi)))
    go_ret
    exact ⟨_, by first | rfl | (simp [aJ, aK] <;> rfl) | (simp [*, aJ, aK] <;> rfl), by first | exact Kd.jy _ _ _ _ _ | exact Kd.kQ _ _ _ _ _ | exact Kd.kR _ _ _ _ _ | exact Kd.kN _ _ _ _ _ | exact Kd.kP _ _ _ _ _, by repeat (first | (with_reducible first | exact HB.out | apply ak | apply ah | apply au) | exact HB.out)⟩
def bG.l0 : Nat → ByteArray → List ByteArray → ByteArray → Int → Int → Option (ByteArray)
  | 0, _, _, _, _, _ => none
  | k + 1, x1, x5, x7, x8, x9 => if x9 < (x5.length : Int) then (if 0 ≤ x9 then ((fq.f k (oG ByteArray.empty x5 x9)).bind fun yY => (if x7.size + yY.size ≤ 9223372036854775807 then (bG.l0 k x1 x5 (x7 ++ yY) (wrap64 (x8 + ((oG ByteArray.empty x5 x9).size : Int))) (wrap64 (x9 + 1))) else (none))) else (none)) else (if 0 ≤ x8 then (if x8 ≤ (x1.size : Int) then (if x7.size + (x1.extract (x8 : Int).toNat x1.size).size ≤ 9223372036854775807 then (some (x7 ++ (x1.extract (x8 : Int).toNat x1.size))) else (none)) else (none)) else (none))
def bG.f (k : Nat) (a0 : Int) (a1 : ByteArray) : Option (ByteArray) := (bR.f k a0 a1).bind fun t183 => (if t183 = true then ((bg.f k a0 a1).bind fun l7 => ((aH.f k a0).bind fun iY => (if 0 ≤ iY.1 then (if iY.1 ≤ (a1.size : Int) then (bG.l0 k a1 l7 (a1.extract 0 (iY.1 : Int).toNat) iY.1 0) else (none)) else (none)))) else (some (⟨#[]⟩ : ByteArray)))
set_option maxHeartbeats 8000000 in
set_option maxRecDepth 100000 in
theorem bG.calls (k : Nat) (a0 : Int) (a1 : ByteArray) (r : ByteArray) (w : World) (h : bG.f k a0 a1 = some r) :
    Calls Try.prog 84 #[.int .i64 a0, .string a1] w fun e w' => e = .returned (.string r) ∧ Below w.heap.size w w' := by
  have Lu := Try.underlying142
  have HB := aj.mk (Below.refl w.heap.size w)
  have H : ((bR.f k a0 a1).bind fun t183 => (if t183 = true then ((bg.f k a0 a1).bind fun l7 => ((aH.f k a0).bind fun iY => (if 0 ≤ iY.1 then (if iY.1 ≤ (a1.size : Int) then (bG.l0 k a1 l7 (a1.extract 0 (iY.1 : Int).toNat) iY.1 0) else (none)) else (none)))) else (some (⟨#[]⟩ : ByteArray)))) = some r := h
  clear h
  replace H := zbm H
  obtain ⟨t183, QD, H⟩ := H
  replace H : (if t183 = true then ((bg.f k a0 a1).bind fun l7 => ((aH.f k a0).bind fun iY => (if 0 ≤ iY.1 then (if iY.1 ≤ (a1.size : Int) then (bG.l0 k a1 l7 (a1.extract 0 (iY.1 : Int).toNat) iY.1 0) else (none)) else (none)))) else (some (⟨#[]⟩ : ByteArray))) = some r := H
  have A3 := aj.mk QD
  clear QD
  by_cases c4 : t183 = true
  · subst c4
    have H1 : ((bg.f k a0 a1).bind fun l7 => ((aH.f k a0).bind fun iY => (if 0 ≤ iY.1 then (if iY.1 ≤ (a1.size : Int) then (bG.l0 k a1 l7 (a1.extract 0 (iY.1 : Int).toNat) iY.1 0) else (none)) else (none)))) = some r := by rw [if_pos rfl] at H; exact H
    clear H
    have H := H1
    clear H1
    replace H := zbm H
    obtain ⟨l7, QK, H⟩ := H
    replace H : ((aH.f k a0).bind fun iY => (if 0 ≤ iY.1 then (if iY.1 ≤ (a1.size : Int) then (bG.l0 k a1 l7 (a1.extract 0 (iY.1 : Int).toNat) iY.1 0) else (none)) else (none))) = some r := H
    have A5 := aj.mk QK
    clear QK
    replace H := zbm H
    obtain ⟨⟨qp, LM, Pg⟩, A60, H⟩ := H
    replace H : (if 0 ≤ qp then (if qp ≤ (a1.size : Int) then (bG.l0 k a1 l7 (a1.extract 0 (qp : Int).toNat) qp 0) else (none)) else (none)) = some r := H
    have A6 := aj.mk A60
    clear A60
    by_cases c7 : 0 ≤ qp
    · rw [if_pos c7] at H
      have sZ := eq_true c7
      have Iq : decide (0 ≤ qp) = true := decide_eq_true c7
      clear c7
      by_cases c8 : qp ≤ (a1.size : Int)
      · rw [if_pos c8] at H
        have qR := eq_true c8
        have qU : decide (qp ≤ (a1.size : Int)) = true := decide_eq_true c8
        clear c8
        have H' := aj.mk H
        clear H
        go_enter Try.func84, Try.ntmps84
        go_wp2_with (first | ((with_reducible refine aQ (f := 83) rfl ?_); refine bP (some 12) rfl rfl Try.func83 (by kernel_rfl) rfl #[.int .i64 a0, .string a1] rfl (by (try simp only [List.map_toArray, List.map_cons, List.map_nil]); first | done | rfl | (simp only [List.length_drop, List.length_take]; rfl) | (simp only [ByteArray.size_append, Int.natCast_add]; rfl) | (rw [B.dO] <;> first | rfl | omega | (simp only [decide_eq_false_iff_not, decide_eq_true_eq, Int.not_lt, Nat.not_lt, gt_iff_lt] at * <;> omega))) ?_; (with_reducible refine (bR.calls k a0 a1 true _ A3.out).mono ?_); rintro e w9 ⟨rfl, hb⟩; refine ⟨_, rfl, ?_⟩; have dY := aj.mk (bE (by repeat (first | (with_reducible first | exact HB.out | apply ak | apply ah | apply au) | exact HB.out)) hb); clear HB; have HB := dY; clear dY; (try clear hb); (try clear hb2); (try clear hk); (try clear hi)) | ((with_reducible refine aQ (f := 105) rfl ?_); refine bP (some 16) rfl rfl Try.func105 (by kernel_rfl) rfl #[.int .i64 a0, .string a1] rfl (by (try simp only [List.map_toArray, List.map_cons, List.map_nil]); first | done | rfl | (simp only [List.length_drop, List.length_take]; rfl) | (simp only [ByteArray.size_append, Int.natCast_add]; rfl) | (rw [B.dO] <;> first | rfl | omega | (simp only [decide_eq_false_iff_not, decide_eq_true_eq, Int.not_lt, Nat.not_lt, gt_iff_lt] at * <;> omega))) ?_; (with_reducible refine (bg.calls k a0 a1 l7 _ A5.out).mono ?_); rintro e w10 ⟨adO, rfl, ho0, hb⟩; refine ⟨_, rfl, ?_⟩; have dY := aj.mk (Kd.sG ho0 (bL (by repeat (first | (with_reducible first | exact HB.out | apply ak | apply ah | apply au) | exact HB.out)))); have gW := aj.mk (bE (by repeat (first | (with_reducible first | exact HB.out | apply ak | apply ah | apply au) | exact HB.out)) hb); clear HB; have yg := dY; have HB := gW; clear dY gW; (try clear hb); (try clear hb2); (try clear hk); (try clear hi); (try clear ho0)) | ((with_reducible refine aQ (f := 106) rfl ?_); refine bP (some 18) rfl rfl Try.func106 (by kernel_rfl) rfl #[.int .i64 a0] rfl (by (try simp only [List.map_toArray, List.map_cons, List.map_nil]); first | done | rfl | (simp only [List.length_drop, List.length_take]; rfl) | (simp only [ByteArray.size_append, Int.natCast_add]; rfl) | (rw [B.dO] <;> first | rfl | omega | (simp only [decide_eq_false_iff_not, decide_eq_true_eq, Int.not_lt, Nat.not_lt, gt_iff_lt] at * <;> omega))) ?_; (with_reducible refine (aH.calls k a0 qp LM Pg _ A6.out).mono ?_); rintro e TN ⟨rfl, hb⟩; refine ⟨_, rfl, ?_⟩; have dY := aj.mk (Kd.jY (by (with_reducible repeat (first | apply Kd.eU | apply Kd.fF | apply Kd.fP)); exact yg.out) hb); have gW := aj.mk (bE (by repeat (first | (with_reducible first | exact HB.out | apply ak | apply ah | apply au) | exact HB.out)) hb); clear yg; clear HB; have yg := dY; have HB := gW; clear dY gW; (try clear hb); (try clear hb2); (try clear hk); (try clear hi)) | ((with_reducible refine gF (N := 6) rfl ?_); refine fO ?hg (N := 6) ?hd (cs := #[.int .i64 0, .int .i64 0, .int .i64 0]) (t := 142) ?hr ?_; (case hd => rfl); (case hg => rfl); (case hr => first | (go_simp; done) | (go_simp; rfl)); intro qG hg w12 gT hb; have dY := aj.mk (Kd.jY (by (with_reducible repeat (first | apply Kd.eU | apply Kd.fF | apply Kd.fP)); exact yg.out) hb); have gW := aj.mk (bE (by repeat (first | (with_reducible first | exact HB.out | apply ak | apply ah | apply au) | exact HB.out)) hb); have iZ := aj.mk (gT); have jE := aj.mk ((by rw [hg]; exact (bL (by repeat (first | (with_reducible first | exact HB.out | apply ak | apply ah | apply au) | exact HB.out))) : w.heap.size ≤ qG)); have qo := aj.mk ((by rw [hg]; exact (bL (by repeat (first | (with_reducible first | exact HB.out | apply ak | apply ah | apply au) | exact HB.out))) : w.heap.size ≤ qG)); clear yg; clear HB; have yg := dY; have HB := gW; have nE := iZ; have afO := jE; have GN := qo; clear dY gW iZ jE qo; clear hb gT hg; have Bn : w12.cell? ⟨qG, 0, none⟩ = some (.int .i64 0) := (aM nE.out 0).trans rfl; have Bo : w12.cell? ⟨qG, 1, none⟩ = some (.int .i64 0) := (aM nE.out 1).trans rfl; have Bp : w12.cell? ⟨qG, 2, none⟩ = some (.int .i64 0) := (aM nE.out 2).trans rfl; have Bq := ay nE.out 0; have Bt := ay nE.out 1; have Bu := ay nE.out 2))
        go_loopg [7, 8, 9] k (fun kq v7 v8 v9 w' => ∃ (dI : ByteArray) (gG : Int) (iG : Int), v7 = .string dI ∧ v8 = .int .i64 gG ∧ v9 = .int .i64 iG ∧ aj (bG.l0 kq a1 l7 dI gG iG = some r) ∧ aj (kq ≤ k) ∧ aj (Kd.R Kd.string 9 w' w.heap.size (fun _ => True) adO l7) ∧ aj (w'.heap[qG]? = some (.cells #[.int .i64 qp, .int .i64 LM, .int .i64 Pg] 142 (0, 0))) ∧ aj (Below w.heap.size w w'))
        case atStart => exact ⟨(a1.extract 0 (qp : Int).toNat), (qp), (0), (by first | rfl | (simp; done) | (simp [*]; done) | (simp [B.aV]; done) | (simp [B.aW]; done)), (by first | rfl | (simp; done) | (simp [*]; done) | (simp [B.aV]; done) | (simp [B.aW]; done)), (by first | rfl | (simp; done) | (simp [*]; done) | (simp [B.aV]; done) | (simp [B.aW]; done)), H', ⟨Nat.le_refl _⟩, ⟨by (with_reducible repeat (first | apply Kd.eU | apply Kd.fF | apply Kd.fP)); exact Kd.oI (Kd.sH (p := ⟨qG, 2, none⟩) (Kd.sH (p := ⟨qG, 1, none⟩) (Kd.sH (p := ⟨qG, 0, none⟩) (Kd.sI yg.out nE.out (by decide)) (fun _ hk => hk.2) (.int .i64 qp)) (fun _ hk => hk.2) (.int .i64 LM)) (fun _ hk => hk.2) (.int .i64 Pg)) (fun _ hk => trivial)⟩, ⟨by (with_reducible repeat (first | refine aG ?_ _ | refine aI ?_ | refine aA ?_ _)); refine bU (cs := #[.int .i64 qp, .int .i64 LM, .int .i64 0]) ?_ 2 _ rfl; (with_reducible repeat (first | refine aG ?_ _ | refine aI ?_ | refine aA ?_ _)); refine bU (cs := #[.int .i64 qp, .int .i64 0, .int .i64 0]) ?_ 1 _ rfl; (with_reducible repeat (first | refine aG ?_ _ | refine aI ?_ | refine aA ?_ _)); refine bU (cs := #[.int .i64 0, .int .i64 0, .int .i64 0]) ?_ 0 _ rfl; (with_reducible repeat (first | refine aG ?_ _ | refine aI ?_ | refine aA ?_ _)); exact nE.out⟩, ⟨by repeat (first | (with_reducible first | exact HB.out | apply ak | apply ah | apply au | refine aR ?_ GN.out) | exact HB.out)⟩⟩
        case round =>
          clear H'
          try clear c1
          try clear p2
          try clear c4
          try clear c7
          try clear sZ
          try clear Iq
          try clear c8
          try clear qR
          try clear qU
          try clear c10
          try clear Bn
          try clear Bo
          try clear Bp
          try clear Bq
          try clear Bt
          try clear Bu
          obtain ⟨dI, gG, iG, rfl, rfl, rfl, HA, sO, uG, nE, HB⟩ := hrel
          cases gk with
          | zero => exact absurd HA.out (by simp [bG.l0])
          | succ k1 =>
            have H := HA.out
            clear HA
            simp only [bG.l0] at H
            by_cases c14 : iG < (l7.length : Int)
            · rw [if_pos c14] at H
              have zM : decide (iG < (l7.length : Int)) = true := decide_eq_true c14
              clear c14
              by_cases c15 : 0 ≤ iG
              · rw [if_pos c15] at H
                have XO : decide (0 ≤ iG) = true := decide_eq_true c15
                clear c15
                replace H := zbm H
                obtain ⟨yY, Zf, H⟩ := H
                replace H : (if dI.size + yY.size ≤ 9223372036854775807 then (bG.l0 k1 a1 l7 (dI ++ yY) (wrap64 (gG + ((oG ByteArray.empty l7 iG).size : Int))) (wrap64 (iG + 1))) else (none)) = some r := H
                have A16 := aj.mk Zf
                clear Zf
                by_cases c17 : dI.size + yY.size ≤ 9223372036854775807
                · rw [if_pos c17] at H
                  have QH := eq_true c17
                  have afP : decide (dI.size + yY.size ≤ 9223372036854775807) = true := decide_eq_true c17
                  try have afQ : (9223372036854775807 < dI.size + yY.size) = False := eq_false (Nat.not_lt.2 c17)
                  have H' := aj.mk H
                  clear H
                  obtain ⟨aga, agb, adP⟩ := Kd.vR uG.out
                  subst adP
                  have TU : 0 ≤ (iG : Int) := of_decide_eq_true (by first | (with_reducible assumption) | assumption)
                  have TW : iG < (l7.length : Int) := of_decide_eq_true (by first | (with_reducible assumption) | assumption)
                  obtain ⟨Zg, adQ, ab6⟩ := Kd.zD (Kd.oJ uG.out).2.2 iG TU TW
                  cases adQ
                  replace TU := eq_true TU
                  replace TW := eq_true TW
                  go_wp2_with (first | ((with_reducible refine aQ (f := 101) rfl ?_); refine bP (some 36) rfl rfl Try.func101 (by kernel_rfl) rfl #[.string (oG ByteArray.empty l7 iG)] rfl (by (try simp only [List.map_toArray, List.map_cons, List.map_nil]); first | done | rfl | (simp only [List.length_drop, List.length_take]; rfl) | (simp only [ByteArray.size_append, Int.natCast_add]; rfl) | (rw [B.dO] <;> first | rfl | omega | (simp only [decide_eq_false_iff_not, decide_eq_true_eq, Int.not_lt, Nat.not_lt, gt_iff_lt] at * <;> omega))) ?_; (with_reducible refine (fq.calls k1 (oG ByteArray.empty l7 iG) yY _ A16.out).mono ?_); rintro e w19 ⟨rfl, hb⟩; refine ⟨_, rfl, ?_⟩; have dY := aj.mk (Kd.jY (by (with_reducible repeat (first | apply Kd.eU | apply Kd.fF | apply Kd.fP)); exact uG.out) hb); have gW := aj.mk (dM (g := qG) (o := .cells #[.int .i64 qp, .int .i64 LM, .int .i64 Pg] 142 (0, 0)) (by (with_reducible repeat (first | refine aG ?_ _ | refine aI ?_ | refine aA ?_ _)); exact nE.out) hb); have iZ := aj.mk (bE (by repeat (first | (with_reducible first | exact HB.out | apply ak | apply ah | apply au | refine aR ?_ GN.out) | exact HB.out)) hb); clear uG; clear nE; clear HB; have uG := dY; have nE := gW; have HB := iZ; clear dY gW iZ; (try clear hb); (try clear hb2); (try clear hk); (try clear hi); have TY : 0 ≤ (iG : Int) := of_decide_eq_true (by first | (with_reducible assumption) | assumption); have T9 : iG < (l7.length : Int) := of_decide_eq_true (by first | (with_reducible assumption) | assumption); obtain ⟨Zh, adR, ab7⟩ := Kd.zD (Kd.oJ uG.out).2.2 iG TY T9; obtain rfl : Zg = Zh := (by injection adR); replace TY := eq_true TY; replace T9 := eq_true T9))
                  go_roundg k1
                  case measure => have := sO.out; omega
                  case rel => exact ⟨(dI ++ yY), (wrap64 (gG + ((oG ByteArray.empty l7 iG).size : Int))), (wrap64 (iG + 1)), (by first | rfl | (simp; done) | (simp [*]; done) | (simp [B.aV]; done) | (simp [B.aW]; done)), (by first | rfl | (simp; done) | (simp [*]; done) | (simp [B.aV]; done) | (simp [B.aW]; done)), (by first | rfl | (simp; done) | (simp [*]; done) | (simp [B.aV]; done) | (simp [B.aW]; done)), H', ⟨by have := sO.out; omega⟩, ⟨by (with_reducible repeat (first | apply Kd.eU | apply Kd.fF | apply Kd.fP)); exact uG.out⟩, ⟨by (with_reducible repeat (first | refine aG ?_ _ | refine aI ?_ | refine aA ?_ _)); exact nE.out⟩, ⟨by repeat (first | (with_reducible first | exact HB.out | apply ak | apply ah | apply au | refine aR ?_ GN.out) | exact HB.out)⟩⟩
                · rw [if_neg c17] at H
                  exact absurd H (by simp)
              · rw [if_neg c15] at H
                exact absurd H (by simp)
            · rw [if_neg c14] at H
              have zM : decide (iG < (l7.length : Int)) = false := decide_eq_false c14
              clear c14
              by_cases c20 : 0 ≤ gG
              · rw [if_pos c20] at H
                have Lm := eq_true c20
                have Yi : decide (0 ≤ gG) = true := decide_eq_true c20
                clear c20
                by_cases c21 : gG ≤ (a1.size : Int)
                · rw [if_pos c21] at H
                  have QF := eq_true c21
                  have QG : decide (gG ≤ (a1.size : Int)) = true := decide_eq_true c21
                  clear c21
                  by_cases BN : dI.size + (a1.extract (gG : Int).toNat a1.size).size ≤ 9223372036854775807
                  · rw [if_pos BN] at H
                    have LG := eq_true BN
                    have LH : decide (dI.size + (a1.extract (gG : Int).toNat a1.size).size ≤ 9223372036854775807) = true := decide_eq_true BN
                    try have afR : (9223372036854775807 < dI.size + (a1.extract (gG : Int).toNat a1.size).size) = False := eq_false (Nat.not_lt.2 BN)
                    obtain rfl := Option.some.inj H
                    obtain ⟨agc, agd, adS⟩ := Kd.vR uG.out
                    subst adS
                    go_wp2
                    go_ret
                    exact ⟨by first | rfl | (simp [aJ, aK] <;> rfl) | (simp [*, aJ, aK] <;> rfl), by repeat (first | (with_reducible first | exact HB.out | apply ak | apply ah | apply au | refine aR ?_ GN.out) | exact HB.out)⟩
                  · rw [if_neg BN] at H
                    exact absurd H (by simp)
                · rw [if_neg c21] at H
                  exact absurd H (by simp)
              · rw [if_neg c20] at H
                exact absurd H (by simp)
      · rw [if_neg c8] at H
        exact absurd H (by simp)
    · rw [if_neg c7] at H
      exact absurd H (by simp)
  · replace c4 := Bool.eq_false_iff.mpr c4
    subst c4
    have H1 : (some (⟨#[]⟩ : ByteArray)) = some r := by rw [if_neg (show ¬ (false = true) by decide)] at H; exact H
    clear H
    have H := H1
    clear H1
    obtain rfl := Option.some.inj H
    go_enter Try.func84, Try.ntmps84
    go_wp2_with (first | ((with_reducible refine aQ (f := 83) rfl ?_); refine bP (some 12) rfl rfl Try.func83 (by kernel_rfl) rfl #[.int .i64 a0, .string a1] rfl (by (try simp only [List.map_toArray, List.map_cons, List.map_nil]); first | done | rfl | (simp only [List.length_drop, List.length_take]; rfl) | (simp only [ByteArray.size_append, Int.natCast_add]; rfl) | (rw [B.dO] <;> first | rfl | omega | (simp only [decide_eq_false_iff_not, decide_eq_true_eq, Int.not_lt, Nat.not_lt, gt_iff_lt] at * <;> omega))) ?_; (with_reducible refine (bR.calls k a0 a1 false _ A3.out).mono ?_); rintro e w24 ⟨rfl, hb⟩; refine ⟨_, rfl, ?_⟩; have dY := aj.mk (bE (by repeat (first | (with_reducible first | exact HB.out | apply ak | apply ah | apply au) | exact HB.out)) hb); clear HB; have HB := dY; clear dY; (try clear hb); (try clear hb2); (try clear hk); (try clear hi)))
    go_ret
    exact ⟨by first | rfl | (simp [aJ, aK] <;> rfl) | (simp [*, aJ, aK] <;> rfl), by repeat (first | (with_reducible first | exact HB.out | apply ak | apply ah | apply au) | exact HB.out)⟩
end Go.Proofs.Ytdkkgecdhapfhaa.ZQ
namespace Go.Proofs.Ytdkkgecdhapfhaa.ZQ
open Go.RowKit Go.Proofs.YtdkkgecdhapfhaaW.bD Go.Proofs.YtdkkgecdhapfhaaW.dV Go.Proofs.YtdkkgecdhapfhaaW.eF Go.Proofs.Ytdkkgecdhapfhaa.B
def u6 (msg : ByteArray) (i : Int) : ByteArray × Int × Int := (bF.f (rounds i) msg i).getD (⟨#[]⟩, 0, 0)
theorem QN (msg : ByteArray) (i : Int) (hm : msg.size ≤ 100000) : bF.f (rounds i) msg i = some (u6 msg i) := by
  obtain ⟨R, h1, _⟩ := zO (rounds i) msg i hm (Nat.le_refl _)
  unfold u6; rw [h1]; rfl
theorem QO (k : Nat) (msg : ByteArray) (i : Int) (hm : msg.size ≤ 100000) (hk : rounds i ≤ k) : bF.f k msg i = some (u6 msg i) := Dz hk (QN msg i hm)
theorem uH (k : Nat) (msg : ByteArray) (i : Int) (hm : msg.size ≤ 100000) (hk : rounds i ≤ k) : aU.f k msg i = some (u6 msg i) := by
  obtain ⟨R, h1, h2⟩ := zO k msg i hm hk
  rw [QO k msg i hm hk] at h1
  rw [h2, h1]
theorem tC (msg : ByteArray) (i : Int) (hm : msg.size ≤ 100000) :
    ((u6 msg i).2.2 = 0 ∧ jA (u6 msg i).1 = true ∧ 0 ≤ i ∧ i < (u6 msg i).2.1 ∧ (u6 msg i).2.1 ≤ (msg.size : Int)) ∨ (((u6 msg i).2.2 = 2 ∨ (u6 msg i).2.2 = 3) ∧ (u6 msg i).1 = ⟨#[]⟩ ∧ (u6 msg i).2.1 = 0) := EW hm (QN msg i hm)
def DT (msg : ByteArray) (e : Int) : Nat → Int → List ByteArray → Option (List ByteArray × Int)
  | 0, i, l => some (l, i)
  | n + 1, i, l => if (u6 msg i).2.2 = 0 then (if (u6 msg i).2.1 > e then none else DT msg e n (u6 msg i).2.1 (l ++ [(u6 msg i).1])) else none
theorem pW (msg : ByteArray) (e : Int) (hm : msg.size ≤ 100000) : ∀ (n : Nat) (i : Int) (l : List ByteArray) (R : List ByteArray × Int), DT msg e n i l = some R → i ≤ e → i ≤ R.2 ∧ R.2 ≤ e ∧ R.1.length = l.length + n ∧ (∃ l', R.1 = l ++ l' ∧ ∀ x ∈ l', jA x = true)
  | 0, i, l, R, h, hi => by cases h; exact ⟨Int.le_refl _, hi, rfl, [], by simp, by simp⟩
  | n + 1, i, l, R, h, hi => by
    rw [DT] at h
    by_cases h0 : (u6 msg i).2.2 = 0
    · rw [if_pos h0] at h
      by_cases h1 : (u6 msg i).2.1 > e
      · rw [if_pos h1] at h; cases h
      · rw [if_neg h1] at h
        obtain ⟨a1, a2, a3, l', a4, a5⟩ := pW msg e hm n _ _ R h (by omega)
        rcases tC msg i hm with ⟨_, b2, _, b4, _⟩ | ⟨b1, _⟩
        · refine ⟨by omega, a2, by rw [a3, List.length_append, List.length_singleton]; omega, (u6 msg i).1 :: l', by rw [a4]; simp, ?_⟩
          intro x hx
          rcases List.mem_cons.mp hx with rfl | hx
          · exact b2
          · exact a5 x hx
        · omega
    · rw [if_neg h0] at h; cases h
def K0 : Nat := 101000
theorem pX {msg : ByteArray} {i : Int} {k : Nat} (hm : msg.size ≤ 100000) (hi : i ≤ (msg.size : Int)) (hk : K0 ≤ k) : rounds i ≤ k := by unfold rounds; unfold K0 at hk; omega
theorem BG (msg : ByteArray) (e s0 s1 s2 : Int) (a b : ByteArray) (hm : msg.size ≤ 100000) (he : e ≤ (msg.size : Int)) (h2 : 0 ≤ s2 ∧ s2 ≤ 1000) (c : Int) (hc : c ≤ 100) : ∀ (n k : Nat) (i x : Int) (l : List ByteArray), K0 + n ≤ k → x + n = c → 0 ≤ x → 0 ≤ i → i ≤ e → l.length + n ≤ 1000 →
    bV.l0 (k + 1) msg i e c x s0 s1 s2 a b l = (match DT msg e n i l with
      | some R => some (a, msg.extract R.2.toNat e.toNat, R.1, (((msg.extract R.2.toNat e.toNat).size : Int) == s2))
      | none => some (⟨#[]⟩, ⟨#[]⟩, [], false))
  | 0, k, i, x, l, hk, hx, hx0, hi, hie, hl => by
    rw [bV.l0, if_neg (by omega), if_pos hi, if_pos hie, if_pos he, DT]
  | n + 1, k, i, x, l, hk, hx, hx0, hi, hie, hl => by
    obtain ⟨k, rfl⟩ : ∃ m, k = m + 1 := ⟨k - 1, by omega⟩
    rw [bV.l0, if_pos (by omega), QO (k + 1) msg i hm (pX hm (by omega) (by omega)), DT]
    simp only [Option.bind_some]
    by_cases h0 : (u6 msg i).2.2 = 0
    · rw [if_pos h0, if_pos h0]
      by_cases h1 : (u6 msg i).2.1 > e
      · rw [if_pos h1, if_pos h1]
      · rcases tC msg i hm with ⟨_, _, _, b4, _⟩ | ⟨b1, _⟩
        · rw [if_neg h1, if_neg h1, if_pos (by omega), dO (by omega) (by omega)]
          exact BG msg e s0 s1 s2 a b hm he h2 c hc n k _ (x + 1) _ (by omega) (by omega) (by omega) (by omega) (by omega) (by rw [List.length_append, List.length_singleton]; omega)
        · omega
    · rw [if_neg h0, if_neg h0]
def LP (s : ByteArray) : Nat → Int → Bool
  | 0, _ => false
  | k + 1, i => if i < (s.size : Int) then LP s k (i + 1 + bt s i) else decide (i = s.size)
def EZ (s : ByteArray) : Bool := decide (0 < s.size) && LP s (s.size + 1) 0
theorem Ua (s : ByteArray) {k : Nat} {i : Int} (h : (s.size : Int) < i) : LP s k i = false := by
  cases k with
  | zero => rfl
  | succ k => rw [LP, if_neg (by omega)]; simp; omega
theorem LQ (s : ByteArray) (hs : s.size ≤ 100000) (d : Nat) : ∀ (k m : Nat) (i : Int), 0 ≤ i → i ≤ (s.size : Int) → s.size - i.toNat ≤ d → d + 1 ≤ k → d + 1 ≤ m → dJ.l0 k (s.extract i.toNat s.size) = some (LP s m i) := by
  induction d with
  | zero =>
    intro k m i h0 h1 h2 hk hm
    obtain ⟨k, rfl⟩ : ∃ j, k = j + 1 := ⟨k - 1, by omega⟩
    obtain ⟨m, rfl⟩ : ∃ j, m = j + 1 := ⟨m - 1, by omega⟩
    rw [dJ.l0, if_pos (toList_nil.mpr (by rw [ByteArray.size_extract]; omega)), LP, if_neg (by omega), decide_eq_true (by omega)]
  | succ d ih =>
    intro k m i h0 h1 h2 hk hm
    obtain ⟨k, rfl⟩ : ∃ j, k = j + 1 := ⟨k - 1, by omega⟩
    obtain ⟨m, rfl⟩ : ∃ j, m = j + 1 := ⟨m - 1, by omega⟩
    have hz : (s.extract i.toNat s.size).size = s.size - i.toNat := by rw [ByteArray.size_extract]; omega
    by_cases hi : i < (s.size : Int)
    · have hb : bt (s.extract i.toNat s.size) 0 = bt s i := by
        rw [lX (by omega) (by omega)]; congr 1; omega
      have hr := fZ s i
      rw [dJ.l0, if_neg (by rw [toList_nil]; omega), if_pos (by omega), hb, dO (n := bt s i) (by omega) (by omega), dO (n := 1 + bt s i) (by omega) (by omega), LP, if_pos hi]
      by_cases h3 : 1 + bt s i > ((s.extract i.toNat s.size).size : Int)
      · rw [if_pos h3, Ua s (by omega)]
      · rw [if_neg h3, if_pos (by omega), if_pos (by omega)]
        have e : (s.extract i.toNat s.size).extract (1 + bt s i).toNat (s.extract i.toNat s.size).size = s.extract (i + 1 + bt s i).toNat s.size := by
          rw [ByteArray.extract_extract, hz]
          congr 1 <;> omega
        rw [e]
        exact ih k m _ (by omega) (by omega) (by omega) (by omega) (by omega)
    · rw [dJ.l0, if_pos (toList_nil.mpr (by omega)), LP, if_neg hi, decide_eq_true (by omega)]
theorem LU (k : Nat) (hk : K0 ≤ k) (s : ByteArray) (hs : s.size ≤ 100000) : dJ.f k s = some (EZ s) := by
  unfold dJ.f EZ
  by_cases h : s.toList = ([] : List UInt8)
  · rw [if_pos h]; rw [toList_nil] at h; rw [h]; rfl
  · rw [if_neg h]
    rw [toList_nil] at h
    unfold K0 at hk
    have := LQ s hs s.size k (s.size + 1) 0 (by omega) (by omega) (by omega) (by omega) (by omega)
    rw [show (0 : Int).toNat = 0 from rfl, ByteArray.extract_zero_size] at this
    rw [this, decide_eq_true (by omega), Bool.true_and]
theorem BH (s : ByteArray) (hs : s.size ≤ 100000) (d : Nat) : ∀ (k m : Nat) (i : Int), 0 ≤ i → (i : Int) ≤ s.size + 300 → 0 < i ∨ 0 < s.size → s.size - i.toNat ≤ d → d + 1 ≤ k → d + 1 ≤ m → bn.l0 k s i = some (LP s m i) := by
  induction d with
  | zero =>
    intro k m i h0 h1 hp h2 hk hm
    obtain ⟨k, rfl⟩ : ∃ j, k = j + 1 := ⟨k - 1, by omega⟩
    obtain ⟨m, rfl⟩ : ∃ j, m = j + 1 := ⟨m - 1, by omega⟩
    have hlt : ¬ i < (s.size : Int) := by omega
    rw [bn.l0, if_neg hlt, LP, if_neg hlt]
    by_cases h : i = (s.size : Int)
    · rw [if_pos h, decide_eq_true (by omega), decide_eq_true h]
    · rw [if_neg h, decide_eq_false h]
  | succ d ih =>
    intro k m i h0 h1 hp h2 hk hm
    obtain ⟨k, rfl⟩ : ∃ j, k = j + 1 := ⟨k - 1, by omega⟩
    obtain ⟨m, rfl⟩ : ∃ j, m = j + 1 := ⟨m - 1, by omega⟩
    have hr := fZ s i
    rw [bn.l0, LP]
    by_cases hi : i < (s.size : Int)
    · rw [if_pos hi, if_pos hi, if_pos h0, dO (n := bt s i) (by omega) (by omega), dO (n := i + 1) (by omega) (by omega), dO (by omega) (by omega)]
      exact ih k m _ (by omega) (by omega) (by omega) (by omega) (by omega) (by omega)
    · rw [if_neg hi, if_neg hi]
      by_cases h : i = (s.size : Int)
      · rw [if_pos h, decide_eq_true (by omega), decide_eq_true h]
      · rw [if_neg h, decide_eq_false h]
theorem BI (k : Nat) (hk : K0 ≤ k) (s : ByteArray) (hs : s.size ≤ 100000) : bn.f k s = some (EZ s) := by
  unfold bn.f EZ
  unfold K0 at hk
  by_cases h : 0 < s.size
  · rw [BH s hs s.size k (s.size + 1) 0 (by omega) (by omega) (by omega) (by omega) (by omega) (by omega), decide_eq_true h, Bool.true_and]
  · obtain ⟨k, rfl⟩ : ∃ j, k = j + 1 := ⟨k - 1, by omega⟩
    rw [bn.l0, if_neg (by omega), if_pos (by omega), decide_eq_false h]; rfl
end Go.Proofs.Ytdkkgecdhapfhaa.ZQ
namespace Go.Proofs.Ytdkkgecdhapfhaa.ZQ
open Go.RowKit Go.Proofs.YtdkkgecdhapfhaaW.bD Go.Proofs.YtdkkgecdhapfhaaW.dV Go.Proofs.YtdkkgecdhapfhaaW.eF Go.Proofs.Ytdkkgecdhapfhaa.B
theorem E5 (l m : List ByteArray) : strings_Join.cat (l ++ m) = strings_Join.cat l ++ strings_Join.cat m := by
  induction l with
  | nil => exact (empty_append _).symm
  | cons x l ih => rw [List.cons_append, strings_Join.cat, ih, strings_Join.cat, ByteArray.append_assoc]
theorem Ph (x : ByteArray) : strings_Join.cat [x] = x := append_empty x
theorem oQ {n : ByteArray} (h : jA n = true) : n.size ≤ 255 := by
  obtain ⟨l, _, _, hz⟩ := F9.mp h; exact hz
theorem tF : ∀ {l : List ByteArray}, (∀ x ∈ l, jA x = true) → (strings_Join.cat l).size ≤ 255 * l.length
  | [], _ => Nat.zero_le _
  | x :: l, h => by
    have h1 := oQ (h x (by simp))
    have h2 := tF (l := l) (fun y hy => h y (by simp [hy]))
    rw [strings_Join.cat, ByteArray.size_append, List.length_cons]
    omega
def yh (d : ByteArray) : ByteArray × Int := if (d.size : Int) > 65535 then (⟨#[]⟩, 4) else (d, 0)
theorem uI (d : ByteArray) : (if (d.size : Int) > 65535 then some ((⟨#[]⟩ : ByteArray), (4 : Int)) else some (d, 0)) = some (yh d) := by
  unfold yh; split <;> rfl
def IG (msg : ByteArray) (i size : Int) (s : Int × Int × Int) : ByteArray × Int :=
  if s.1 ≤ size then (match DT msg (i + size) s.2.1.toNat (i + s.1) [] with
    | some R => if R.2 + s.2.2 = i + size then yh (msg.extract i.toNat (i + s.1).toNat ++ strings_Join.cat R.1 ++ msg.extract R.2.toNat (i + size).toNat) else (⟨#[]⟩, 4)
    | none => (⟨#[]⟩, 4)) else (⟨#[]⟩, 4)
def yZ (msg : ByteArray) (i size kind : Int) : ByteArray × Int :=
  if gQ msg i size then (match aD.xZ kind with
    | some s => IG msg i size s
    | none => if kind = 16 then (if EZ (msg.extract i.toNat (i + size).toNat) = true then yh (msg.extract i.toNat (i + size).toNat) else (⟨#[]⟩, 4)) else yh (msg.extract i.toNat (i + size).toNat))
  else (⟨#[]⟩, 2)
theorem kJ {kind : Int} {s : Int × Int × Int} (h : aD.xZ kind = some s) : 0 ≤ s.1 ∧ s.1 ≤ 16 ∧ 0 ≤ s.2.1 ∧ s.2.1 ≤ 2 ∧ 0 ≤ s.2.2 ∧ s.2.2 ≤ 20 ∧ kind ≠ 16 ∧ (s.1 = 0 → s.2.1 = 0 → False) := by
  unfold aD.xZ at h
  repeat' split at h
  all_goals (first | (cases h; subst_vars; decide) | cases h)
theorem Ub (k : Nat) (hk : K0 ≤ k) (kind : Int) (hkind : kind ≠ 16) (d : ByteArray) : aD.fin k kind d true = some (yh d) := by
  unfold aD.fin
  rw [if_pos rfl, if_neg hkind, uI]
theorem uJ (k : Nat) (kind : Int) (d : ByteArray) : aD.fin k kind d false = some (⟨#[]⟩, 4) := by
  unfold aD.fin; rw [if_neg Bool.false_ne_true]
theorem zT (msg : ByteArray) (i size kind : Int) (k : Nat) (hk : K0 ≤ k) (hm : msg.size ≤ 100000) (f : ByteArray → Option Bool) (hf : ∀ s, s.size ≤ 100000 → f s = some (EZ s)) (t : ByteArray) (ht : t.size ≤ 100000) :
    (if kind = 16 then ((f t).bind fun b => if b = true then (if (t.size : Int) > 65535 then some ((⟨#[]⟩ : ByteArray), (4 : Int)) else some (t, 0)) else some (⟨#[]⟩, 4)) else (if (t.size : Int) > 65535 then some (⟨#[]⟩, 4) else some (t, 0))) =
      some (if kind = 16 then (if EZ t = true then yh t else (⟨#[]⟩, 4)) else yh t) := by
  rw [hf t ht, uI]
  simp only [Option.bind_some]
  split
  · split <;> rfl
  · rfl
theorem II (k : Nat) (hk : K0 + 10 ≤ k) (msg : ByteArray) (i size kind : Int) (hm : msg.size ≤ 100000) (ht : gQ msg i size) (s : Int × Int × Int) (hs : aD.xZ kind = some s) : aD.g k msg i size kind s = some (IG msg i size s) := by
  obtain ⟨h0, h1, h2⟩ := ht
  obtain ⟨a1, a2, a3, a4, a5, a6, a7, a8⟩ := kJ hs
  obtain ⟨s0, s1, s2⟩ := s
  simp only at a1 a2 a3 a4 a5 a6 a8
  have e1 : wrap64 (i + size) = i + size := dO (by omega) (by omega)
  have e2 : wrap64 (i + size - i) = size := by rw [dO (by omega) (by omega)]; omega
  have e3 : wrap64 (i + s0) = i + s0 := dO (by omega) (by omega)
  unfold aD.g bV.f IG
  simp only [e1, e2, e3]
  by_cases c : s0 ≤ size
  · rw [if_pos c, if_pos c, if_pos h0, if_pos (by omega), if_pos (by omega)]
    obtain ⟨k, rfl⟩ : ∃ j, k = j + 1 := ⟨k - 1, by omega⟩
    rw [BG msg (i + size) s0 s1 s2 _ _ hm h2 ⟨a5, by omega⟩ s1 (by omega) s1.toNat k (i + s0) 0 [] (by omega) (by omega) (Int.le_refl _) (by omega) (by omega) (by simp only [List.length_nil]; omega)]
    have hz : (msg.extract i.toNat (i + s0).toNat).size ≤ 16 := by rw [ByteArray.size_extract]; omega
    cases hr : DT msg (i + size) s1.toNat (i + s0) [] with
    | none =>
      simp only [Option.bind_some]
      rw [if_pos (by decide), if_pos (by decide), uJ]
    | some R =>
      obtain ⟨b1, b2, b3, l', b4, b5⟩ := pW msg _ hm _ _ _ R hr (by omega)
      have hcz := tF b5
      rw [List.nil_append] at b4
      rw [← b4] at hcz
      rw [List.length_nil, Nat.zero_add] at b3
      have hbz : (msg.extract R.2.toNat (i + size).toNat).size = (i + size - R.2).toNat := by rw [ByteArray.size_extract]; omega
      simp only [Option.bind_some]
      rw [if_pos (by omega), if_pos (by omega)]
      by_cases d : R.2 + s2 = i + size
      · rw [if_pos d, show (((msg.extract R.2.toNat (i + size).toNat).size : Int) == s2) = true from beq_iff_eq.mpr (by omega), Ub k.succ (by omega) kind a7]
      · rw [if_neg d, show (((msg.extract R.2.toNat (i + size).toNat).size : Int) == s2) = false from beq_eq_false_iff_ne.mpr (by omega), uJ]
  · rw [if_neg c, if_neg c]
    simp only [Option.bind_some]
    rw [if_pos (by decide), if_pos (by decide), uJ]
theorem Uc (k : Nat) (hk : K0 + 10 ≤ k) (msg : ByteArray) (i size kind : Int) (hm : msg.size ≤ 100000) : aD.f k msg i size kind = some (yZ msg i size kind) := by
  unfold aD.f yZ
  rw [sW msg i size (by omega)]
  simp only [Option.bind_some]
  by_cases ht : gQ msg i size
  · rw [if_pos ht, if_pos ht]
    simp only [if_true]
    cases hs : aD.xZ kind with
    | some s => exact II k hk msg i size kind hm ht s hs
    | none =>
      have hz : (msg.extract i.toNat (i + size).toNat).size ≤ 100000 := by rw [ByteArray.size_extract]; omega
      have := zT msg i size kind k (by omega) hm (dJ.f k) (fun s h => LU k (by omega) s h) _ hz
      unfold aD.fin
      rw [if_pos rfl]
      exact this
  · rw [if_neg ht, if_neg ht]; rfl
theorem nR (k : Nat) (hk : 1 ≤ k) (kind : Int) : aH.f k kind = some ((aD.xZ kind).getD (0, 0, 0)) := by
  obtain ⟨k, rfl⟩ : ∃ j, k = j + 1 := ⟨k - 1, by omega⟩
  unfold aH.f aD.xZ
  simp only [aH.j0]
  by_cases h1 : kind = 1
  · subst h1; rfl
  by_cases h2 : kind = 28
  · subst h2; rfl
  by_cases h3 : kind = 2
  · subst h3; rfl
  by_cases h4 : kind = 5
  · subst h4; rfl
  by_cases h5 : kind = 12
  · subst h5; rfl
  by_cases h6 : kind = 6
  · subst h6; rfl
  by_cases h7 : kind = 15
  · subst h7; rfl
  by_cases h8 : kind = 33
  · subst h8; rfl
  simp [h1, h2, h3, h4, h5, h6, h7, h8]
theorem DU (msg : ByteArray) (i size s0 s1 s2 : Int) (hm : msg.size ≤ 100000) (ht : gQ msg i size) (h2 : 0 ≤ s2 ∧ s2 ≤ 1000) (hs : s1 ≤ 100) : ∀ (n k : Nat) (j x : Int) (out : ByteArray), K0 + n ≤ k → x + n = s1 → 0 ≤ x → i + size < j → j ≤ (msg.size : Int) → out.size + 300 * n ≤ 1000000 →
    aX.l0 (k + 1) msg i size out j x s0 s1 s2 = some (⟨#[]⟩, 4)
  | 0, k, j, x, out, hk, hx, hx0, hj, hjm, ho => by
    obtain ⟨t0, t1, t2⟩ := ht
    rw [aX.l0, if_neg (by omega), dO (n := j + s2) (by omega) (by omega), dO (n := i + size) (by omega) (by omega), if_neg (by omega)]
  | n + 1, k, j, x, out, hk, hx, hx0, hj, hjm, ho => by
    obtain ⟨k, rfl⟩ : ∃ m, k = m + 1 := ⟨k - 1, by omega⟩
    rw [aX.l0, if_pos (by omega), uH (k + 1) msg j hm (pX hm (by omega) (by omega))]
    simp only [Option.bind_some]
    rcases tC msg j hm with ⟨b1, b2, _, b4, b5⟩ | ⟨b1, _⟩
    · have hz := oQ b2
      rw [if_pos b1, if_pos (by omega), dO (n := x + 1) (by omega) (by omega)]
      exact DU msg i size s0 s1 s2 hm ht h2 hs n k _ _ _ (by omega) (by omega) (by omega) (by omega) b5 (by rw [ByteArray.size_append]; omega)
    · rw [if_neg (by omega)]
theorem LV (msg : ByteArray) (i size s0 s1 s2 : Int) (a : ByteArray) (hm : msg.size ≤ 100000) (ht : gQ msg i size) (h2 : 0 ≤ s2 ∧ s2 ≤ 1000) (hs : s1 ≤ 100) : ∀ (n k : Nat) (j x : Int) (l : List ByteArray), K0 + n ≤ k → x + n = s1 → 0 ≤ x → 0 ≤ j → j ≤ i + size → (a ++ strings_Join.cat l).size + 300 * n ≤ 800000 →
    aX.l0 (k + 1) msg i size (a ++ strings_Join.cat l) j x s0 s1 s2 = some (match DT msg (i + size) n j l with
      | some R => if R.2 + s2 = i + size then yh (a ++ strings_Join.cat R.1 ++ msg.extract R.2.toNat (i + size).toNat) else (⟨#[]⟩, 4)
      | none => (⟨#[]⟩, 4))
  | 0, k, j, x, l, hk, hx, hx0, hj0, hj, ho => by
    obtain ⟨t0, t1, t2⟩ := ht
    rw [aX.l0, if_neg (by omega), dO (n := j + s2) (by omega) (by omega), dO (n := i + size) (by omega) (by omega), DT]
    simp only
    by_cases c : j + s2 = i + size
    · have hz : (msg.extract j.toNat (i + size).toNat).size ≤ 100000 := by rw [ByteArray.size_extract]; omega
      rw [if_pos c, if_pos c, if_pos hj0, if_pos hj, if_pos t2, if_pos (by omega), uI]
    · rw [if_neg c, if_neg c]
  | n + 1, k, j, x, l, hk, hx, hx0, hj0, hj, ho => by
    have ht0 := ht
    obtain ⟨t0, t1, t2⟩ := ht
    obtain ⟨k, rfl⟩ : ∃ m, k = m + 1 := ⟨k - 1, by omega⟩
    rw [aX.l0, if_pos (by omega), uH (k + 1) msg j hm (pX hm (by omega) (by omega)), DT]
    simp only [Option.bind_some]
    rcases tC msg j hm with ⟨b1, b2, _, b4, b5⟩ | ⟨b1, _⟩
    · have hz := oQ b2
      rw [if_pos b1, if_pos b1, if_pos (by omega), dO (n := x + 1) (by omega) (by omega)]
      by_cases c : (u6 msg j).2.1 > i + size
      · rw [if_pos c]
        exact DU msg i size s0 s1 s2 hm ht0 h2 hs n k _ _ _ (by omega) (by omega) (by omega) (by omega) b5 (by rw [ByteArray.size_append]; omega)
      · rw [if_neg c]
        have e : a ++ strings_Join.cat l ++ (u6 msg j).1 = a ++ strings_Join.cat (l ++ [(u6 msg j).1]) := by rw [E5, Ph, ByteArray.append_assoc]
        rw [e]
        exact LV msg i size s0 s1 s2 a hm ht0 h2 hs n k _ _ _ (by omega) (by omega) (by omega) (by omega) (by omega) (by rw [← e, ByteArray.size_append]; omega)
    · rw [if_neg (by omega), if_neg (by omega)]
theorem E8 (k : Nat) (hk : K0 + 10 ≤ k) (msg : ByteArray) (i size kind : Int) (hm : msg.size ≤ 100000) : aX.f k msg i size kind = some (yZ msg i size kind) := by
  unfold aX.f yZ
  rw [oN msg i size (by omega), nR k (by omega)]
  simp only [Option.bind_some]
  by_cases ht : gQ msg i size
  · rw [if_pos ht, if_pos ht]
    simp only [if_true]
    obtain ⟨t0, t1, t2⟩ := ht
    have hz : (msg.extract i.toNat (i + size).toNat).size = size.toNat := by rw [ByteArray.size_extract]; omega
    cases hs : aD.xZ kind with
    | none =>
      simp only [Option.getD_none]
      rw [if_pos (by decide)]
      exact zT msg i size kind k (by omega) hm (bn.f k) (fun s h => BI k (by omega) s h) _ (by omega)
    | some s =>
      obtain ⟨a1, a2, a3, a4, a5, a6, a7, a8⟩ := kJ hs
      obtain ⟨s0, s1, s2⟩ := s
      simp only at a1 a2 a3 a4 a5 a6 a8
      simp only [Option.getD_some]
      have main : (if s0 > size then some ((⟨#[]⟩ : ByteArray), (4 : Int)) else (if 0 ≤ s0 then (if s0 ≤ ((msg.extract i.toNat (i + size).toNat).size : Int) then (aX.l0 k msg i size ((msg.extract i.toNat (i + size).toNat).extract 0 (s0 : Int).toNat) (wrap64 (i + s0)) 0 s0 s1 s2) else none) else none)) = some (IG msg i size (s0, s1, s2)) := by
        unfold IG
        simp only
        by_cases c : s0 > size
        · rw [if_pos c, if_neg (by omega)]
        · rw [if_neg c, if_pos a1, if_pos (by omega), if_pos (by omega), dO (by omega) (by omega)]
          obtain ⟨k, rfl⟩ : ∃ j, k = j + 1 := ⟨k - 1, by omega⟩
          have e : (msg.extract i.toNat (i + size).toNat).extract 0 s0.toNat = msg.extract i.toNat (i + s0).toNat := by
            rw [ByteArray.extract_extract]; congr 1 <;> omega
          have hz2 : (msg.extract i.toNat (i + s0).toNat).size ≤ 16 := by rw [ByteArray.size_extract]; omega
          have h := LV msg i size s0 s1 s2 (msg.extract i.toNat (i + s0).toNat) hm ⟨t0, t1, t2⟩ ⟨a5, by omega⟩ (by omega) s1.toNat k (i + s0) 0 [] (by omega) (by omega) (Int.le_refl _) (by omega) (by omega) (by simp only [strings_Join.cat, append_empty]; omega)
          simp only [strings_Join.cat, append_empty] at h
          rw [e, h]
      have hne : ¬ ((s0 == 0 && (s1 == 0 && (s2 == 0))) = true) := by
        intro h
        simp only [Bool.and_eq_true, beq_iff_eq] at h
        exact a8 h.1 h.2.1
      rw [if_neg hne]
      exact main
  · rw [if_neg ht, if_neg ht]; rfl
end Go.Proofs.Ytdkkgecdhapfhaa.ZQ
namespace Go.Proofs.Ytdkkgecdhapfhaa.ZQ
open Go.RowKit Go.Proofs.YtdkkgecdhapfhaaW.bD Go.Proofs.YtdkkgecdhapfhaaW.dV Go.Proofs.YtdkkgecdhapfhaaW.eF Go.Proofs.Ytdkkgecdhapfhaa.B
def vO (kind : Int) (d : ByteArray) : Bool := decide (d.size ≤ 65535) && (decide ((yZ d 0 d.size kind).2 = 0) && decide ((yZ d 0 d.size kind).1 = d))
theorem tH {kind : Int} {d : ByteArray} : vO kind d = true ↔ d.size ≤ 65535 ∧ yZ d 0 d.size kind = (d, 0) := by
  unfold vO
  simp only [Bool.and_eq_true, decide_eq_true_eq]
  constructor
  · rintro ⟨h1, h2, h3⟩; exact ⟨h1, Prod.ext h3 h2⟩
  · rintro ⟨h1, h2⟩; rw [h2]; exact ⟨h1, rfl, rfl⟩
theorem zU (k : Nat) (hk : K0 + 10 ≤ k) (kind : Int) (d : ByteArray) : iN.f k kind d = some (vO kind d) := by
  unfold iN.f vO
  by_cases h : (d.size : Int) > 65535
  · rw [if_pos h, decide_eq_false (by omega)]; rfl
  · rw [if_neg h, Uc k hk d 0 _ kind (by omega), decide_eq_true (by omega), Bool.true_and]
    simp only [Option.bind_some]
    by_cases h0 : (yZ d 0 d.size kind).2 = 0
    · rw [if_pos h0, decide_eq_true h0, xR, Bool.true_and]
    · rw [if_neg h0, decide_eq_false h0, Bool.false_and]
theorem mP (k : Nat) (hk : K0 + 10 ≤ k) (kind : Int) (d : ByteArray) : bR.f k kind d = some (vO kind d) := by
  unfold bR.f vO
  by_cases h : (d.size : Int) > 65535
  · rw [if_pos h, decide_eq_false (by omega)]; rfl
  · rw [if_neg h, E8 k hk d 0 _ kind (by omega), decide_eq_true (by omega), Bool.true_and]
    simp only [Option.bind_some]
    by_cases h0 : (yZ d 0 d.size kind).2 = 0
    · rw [if_pos h0, decide_eq_true h0, xR, Bool.true_and]
    · rw [if_neg h0, decide_eq_false h0, Bool.false_and]
theorem E9 (d : ByteArray) : gQ d 0 d.size := ⟨Int.le_refl _, by omega, by omega⟩
theorem IJ {x d : ByteArray} (h : yh x = (d, 0)) : x = d ∧ x.size ≤ 65535 := by
  unfold yh at h
  split at h
  · have := congrArg Prod.snd h; cases this
  · exact ⟨congrArg Prod.fst h, by omega⟩
theorem oU {kind : Int} {d : ByteArray} {s : Int × Int × Int} (h : vO kind d = true) (hs : aD.xZ kind = some s) :
    ∃ R, s.1 ≤ (d.size : Int) ∧ DT d d.size s.2.1.toNat s.1 [] = some R ∧ R.2 + s.2.2 = d.size ∧ d = d.extract 0 s.1.toNat ++ strings_Join.cat R.1 ++ d.extract R.2.toNat d.size ∧ s.1 ≤ R.2 ∧ R.2 ≤ (d.size : Int) ∧ R.1.length = s.2.1.toNat ∧ (∀ x ∈ R.1, jA x = true) ∧ R.2 = s.1 + (strings_Join.cat R.1).size := by
  obtain ⟨h0, h1⟩ := tH.mp h
  unfold yZ IG at h1
  rw [if_pos (E9 d), hs] at h1
  simp only [Int.zero_add, Int.toNat_natCast] at h1
  obtain ⟨a1, a2, a3, a4, a5, a6, a7, a8⟩ := kJ hs
  by_cases c : s.1 ≤ (d.size : Int)
  · rw [if_pos c] at h1
    cases hr : DT d d.size s.2.1.toNat s.1 [] with
    | none => rw [hr] at h1; have := congrArg Prod.snd h1; cases this
    | some R =>
      rw [hr] at h1
      simp only at h1
      by_cases e : R.2 + s.2.2 = d.size
      · rw [if_pos e] at h1
        obtain ⟨h2, _⟩ := IJ h1
        obtain ⟨b1, b2, b3, l', b4, b5⟩ := pW d _ (by omega) _ _ _ R hr c
        rw [List.nil_append] at b4
        rw [← b4] at b5
        have hz := congrArg ByteArray.size h2
        simp only [ByteArray.size_append, ByteArray.size_extract] at hz
        refine ⟨R, c, rfl, e, h2.symm, b1, b2, by rw [b3]; simp, b5, ?_⟩
        simp only [show (0 : Int).toNat = 0 from rfl] at hz
        omega
      · rw [if_neg e] at h1; have := congrArg Prod.snd h1; cases this
  · rw [if_neg c] at h1; have := congrArg Prod.snd h1; cases this
def prt (kind : Int) (d : ByteArray) : ByteArray × ByteArray × List ByteArray × Bool :=
  if vO kind d = true then (match aD.xZ kind with
    | some s => (match DT d d.size s.2.1.toNat s.1 [] with
      | some R => (d.extract 0 s.1.toNat, d.extract R.2.toNat d.size, R.1, true)
      | none => (⟨#[]⟩, ⟨#[]⟩, [], false))
    | none => (d, ⟨#[]⟩, [], true)) else (⟨#[]⟩, ⟨#[]⟩, [], false)
theorem uK : (⟨#[]⟩ : ByteArray).size = 0 := rfl
theorem vI (k : Nat) (hk : K0 + 20 ≤ k) (d : ByteArray) (hd : d.size ≤ 65535) (s0 s1 s2 : Int) (a1 : 0 ≤ s0) (a3 : 0 ≤ s1) (a4 : s1 ≤ 2) (a5 : 0 ≤ s2) (a6 : s2 ≤ 20) (R : List ByteArray × Int) (c1 : s0 ≤ (d.size : Int)) (c2 : DT d d.size s1.toNat s0 [] = some R) (c3 : R.2 + s2 = d.size) :
    bV.f k d 0 (d.size : Int) s0 s1 s2 = some (d.extract 0 s0.toNat, d.extract R.2.toNat d.size, R.1, true) := by
  unfold bV.f
  have e2 : wrap64 ((d.size : Int) - 0) = d.size := by rw [dO (by omega) (by omega)]; omega
  have e3 : wrap64 (0 + s0) = s0 := by rw [dO (by omega) (by omega)]; omega
  obtain ⟨b1, b2, _⟩ := pW d _ (by omega) _ _ _ R c2 c1
  have hz : ((d.extract R.2.toNat d.size).size : Int) = s2 := by rw [ByteArray.size_extract]; omega
  obtain ⟨k, rfl⟩ : ∃ j, k = j + 1 := ⟨k - 1, by omega⟩
  have h := BG d d.size s0 s1 s2 (d.extract 0 s0.toNat) ⟨#[]⟩ (by omega) (Int.le_refl _) ⟨a5, by omega⟩ s1 (by omega) s1.toNat k s0 0 [] (by omega) (by omega) (Int.le_refl _) a1 c1 (by simp only [List.length_nil]; omega)
  rw [c2] at h
  simp only [Int.toNat_natCast] at h
  rw [show (((d.extract R.2.toNat d.size).size : Int) == s2) = true from beq_iff_eq.mpr hz] at h
  rw [e2, if_pos c1, if_pos (Int.le_refl _), e3, if_pos a1, if_pos c1]
  exact h
theorem IK (k : Nat) (hk : K0 + 20 ≤ k) (kind : Int) (d : ByteArray) : dh.f k kind d = some (prt kind d) := by
  unfold dh.f prt
  rw [zU k (by omega)]
  simp only [Option.bind_some]
  by_cases h : vO kind d = true
  · rw [if_pos h, if_pos h]
    cases hs : aD.xZ kind with
    | none => rfl
    | some s =>
      obtain ⟨R, c1, c2, c3, c4, c5, c6, c7, c8, c9⟩ := oU h hs
      obtain ⟨a1, a2, a3, a4, a5, a6, a7, a8⟩ := kJ hs
      obtain ⟨h0, _⟩ := tH.mp h
      obtain ⟨s0, s1, s2⟩ := s
      simp only at a1 a2 a3 a4 a5 a6 c1 c2 c3 c5
      simp only [c2]
      exact vI k hk d h0 s0 s1 s2 a1 a3 a4 a5 a6 R c1 c2 c3
  · rw [if_neg h, if_neg h]
theorem zV {kind : Int} {d : ByteArray} : (∀ x ∈ (prt kind d).2.2.1, jA x = true) ∧ (prt kind d).2.2.1.length ≤ 2 := by
  unfold prt
  by_cases h : vO kind d = true
  · rw [if_pos h]
    cases hs : aD.xZ kind with
    | none => exact ⟨by simp, by simp⟩
    | some s =>
      obtain ⟨R, c1, c2, c3, c4, c5, c6, c7, c8, c9⟩ := oU h hs
      obtain ⟨a1, a2, a3, a4, a5, a6, a7, a8⟩ := kJ hs
      simp only [c2]
      exact ⟨c8, by omega⟩
  · rw [if_neg h]; exact ⟨by simp, by simp⟩
theorem u7 (k : Nat) (hk : 600 ≤ k) (n : ByteArray) (hs : n.size ≤ 1000000000) : lZ.f k n = some (if jA n = true then nW n else ⟨#[]⟩) := by
  unfold lZ.f
  rw [Dx k hk n hs, TB n hs]
  simp only [Option.bind_some]
  split <;> rfl
theorem yj (k : Nat) (hk : 600 ≤ k) (n : ByteArray) (hs : n.size ≤ 1000000000) : fq.f k n = some (if jA n = true then nW n else ⟨#[]⟩) := by
  unfold fq.f
  rw [sU k hk n hs, Lg n hs]
  simp only [Option.bind_some]
  split <;> rfl
theorem all_eq (k : Nat) (hk : 600 ≤ k) : ∀ l : List ByteArray, (∀ x ∈ l, jA x = true) → eD.all k l = some (l.map nW)
  | [], _ => rfl
  | x :: l, h => by
    have hx := h x (by simp)
    have hz := oQ hx
    rw [eD.all, u7 k hk x (by omega), if_pos hx]
    simp only [Option.bind_some]
    rw [all_eq k hk l (fun y hy => h y (by simp [hy]))]
    rfl
theorem tJ : ∀ l : List ByteArray, (strings_Join.cat (l.map nW)).size = (strings_Join.cat l).size
  | [] => rfl
  | x :: l => by rw [List.map_cons, strings_Join.cat, strings_Join.cat, ByteArray.size_append, ByteArray.size_append, zP, tJ l]
def lw (kind : Int) (d : ByteArray) : ByteArray := (prt kind d).1 ++ strings_Join.cat ((prt kind d).2.2.1.map nW) ++ (prt kind d).2.1
theorem IL {kind : Int} {d : ByteArray} : (prt kind d).1.size ≤ 65535 ∧ (prt kind d).2.1.size ≤ 65535 := by
  unfold prt
  by_cases h : vO kind d = true
  · obtain ⟨h0, _⟩ := tH.mp h
    rw [if_pos h]
    cases hs : aD.xZ kind with
    | none => exact ⟨h0, by show (⟨#[]⟩ : ByteArray).size ≤ 65535; decide⟩
    | some s =>
      obtain ⟨R, c1, c2, _⟩ := oU h hs
      simp only [c2]
      simp only [ByteArray.size_extract]
      omega
  · rw [if_neg h]; exact ⟨by decide, by decide⟩
theorem Pj (k : Nat) (hk : K0 + 20 ≤ k) (kind : Int) (d : ByteArray) : eD.f k kind d = some (lw kind d) := by
  obtain ⟨p1, p2⟩ := @zV kind d
  obtain ⟨p3, p4⟩ := @IL kind d
  have hcz := tF p1
  unfold eD.f
  rw [IK k hk]
  simp only [Option.bind_some]
  rw [all_eq k (by unfold K0 at hk; omega) _ p1]
  simp only [Option.bind_some]
  unfold eD.fin lw
  rw [if_pos (by rw [tJ]; omega), if_pos (by rw [List.length_map]; omega)]
theorem tK (d : ByteArray) (e s0 s1 s2 : Int) (hm : d.size ≤ 100000) (he : e ≤ (d.size : Int)) (hs : s1 ≤ 100) : ∀ (n k : Nat) (l : List ByteArray) (i x : Int) (R : List ByteArray × Int), K0 + n ≤ k → x + n = s1 → 0 ≤ x → i ≤ e → l.length + n ≤ 1000 → DT d e n i l = some R →
    bg.l0 (k + 1) d l i x s0 s1 s2 = some R.1
  | 0, k, l, i, x, R, hk, hx, hx0, hi, hl, h => by
    cases h
    rw [bg.l0, if_neg (by omega)]
  | n + 1, k, l, i, x, R, hk, hx, hx0, hi, hl, h => by
    obtain ⟨k, rfl⟩ : ∃ m, k = m + 1 := ⟨k - 1, by omega⟩
    rw [DT] at h
    rw [bg.l0, if_pos (by omega), uH (k + 1) d i hm (pX hm (by omega) (by omega))]
    simp only [Option.bind_some]
    by_cases h0 : (u6 d i).2.2 = 0
    · rw [if_pos h0] at h
      by_cases h1 : (u6 d i).2.1 > e
      · rw [if_pos h1] at h; cases h
      · rw [if_neg h1] at h
        rw [if_pos (by omega), dO (by omega) (by omega)]
        exact tK d e s0 s1 s2 hm he hs n k _ _ _ R (by omega) (by omega) (by omega) (by omega) (by rw [List.length_append, List.length_singleton]; omega) h
    · rw [if_neg h0] at h; cases h
theorem BJ (k : Nat) (hk : K0 + 20 ≤ k) (kind : Int) (d : ByteArray) : bg.f k kind d = some (prt kind d).2.2.1 := by
  unfold bg.f prt
  rw [mP k (by omega), nR k (by omega)]
  simp only [Option.bind_some]
  obtain ⟨k, rfl⟩ : ∃ j, k = j + 1 := ⟨k - 1, by omega⟩
  by_cases h : vO kind d = true
  · rw [if_pos h, if_pos h]
    obtain ⟨h0, _⟩ := tH.mp h
    cases hs : aD.xZ kind with
    | none =>
      rw [Option.getD_none, bg.l0, if_neg (by decide)]
    | some s =>
      obtain ⟨R, c1, c2, c3, c4, c5, c6, c7, c8, c9⟩ := oU h hs
      obtain ⟨a1, a2, a3, a4, a5, a6, a7, a8⟩ := kJ hs
      simp only [c2, Option.getD_some]
      exact tK d d.size _ _ _ (by omega) (Int.le_refl _) (by omega) s.2.1.toNat k [] s.1 0 R (by omega) (by omega) (Int.le_refl _) c1 (by simp only [List.length_nil]; omega) c2
  · rw [if_neg h, if_neg h]
theorem Pk {α} (d : α) (p : List α) (x : α) (s : List α) : oG d (p ++ x :: s) (p.length : Int) = x := by
  unfold oG; simp
theorem qX (d : ByteArray) (hd : d.size ≤ 65535) (xs : List ByteArray) (hxs : xs.length ≤ 1000) : ∀ (suf pre : List ByteArray) (k : Nat) (out : ByteArray) (i : Int), xs = pre ++ suf → (∀ x ∈ suf, jA x = true) → 700 + suf.length ≤ k → 0 ≤ i → i + (strings_Join.cat suf).size ≤ d.size → out.size + (strings_Join.cat suf).size ≤ 1000000 →
    bG.l0 (k + 1) d xs out i (pre.length : Int) = some (out ++ strings_Join.cat (suf.map nW) ++ d.extract (i + (strings_Join.cat suf).size).toNat d.size)
  | [], pre, k, out, i, hx, hn, hk, hi, hs, ho => by
    rw [List.append_nil] at hx
    subst hx
    have hz : (d.extract i.toNat d.size).size ≤ 65535 := by rw [ByteArray.size_extract]; omega
    simp only [strings_Join.cat, List.map_nil, Dj, append_empty] at hs ho ⊢
    rw [bG.l0, if_neg (by omega), if_pos hi, if_pos (by omega), if_pos (by omega)]
    congr 3
    omega
  | x :: suf, pre, k, out, i, hx, hn, hk, hi, hs, ho => by
    obtain ⟨k, rfl⟩ : ∃ j, k = j + 1 := ⟨k - 1, by simp only [List.length_cons] at hk; omega⟩
    have hxn := hn x (by simp)
    have hz := oQ hxn
    have hrd : oG ByteArray.empty xs (pre.length : Int) = x := by rw [hx]; exact Pk _ _ _ _
    have hl : (xs.length : Int) = pre.length + suf.length + 1 := by rw [hx]; simp; omega
    simp only [List.length_cons, strings_Join.cat, ByteArray.size_append] at hk hs ho
    have hlz := zP x
    rw [bG.l0, if_pos (by omega), if_pos (by omega), hrd, yj (k + 1) (by omega) x (by omega), if_pos hxn]
    simp only [Option.bind_some]
    rw [if_pos (by omega), dO (n := i + (x.size : Int)) (by omega) (by omega), dO (by omega) (by omega), show ((pre.length : Int) + 1) = ((pre ++ [x]).length : Int) from by simp]
    have := qX d hd xs hxs suf (pre ++ [x]) k (out ++ nW x) (i + x.size) (by rw [hx]; simp) (fun y hy => hn y (by simp [hy])) (by omega) (by omega) (by omega) (by rw [ByteArray.size_append]; omega)
    rw [this]
    have e : i + (x.size : Int) + ((strings_Join.cat suf).size : Int) = i + ((x.size + (strings_Join.cat suf).size : Nat) : Int) := by omega
    rw [e]
    simp only [List.map_cons, strings_Join.cat, ByteArray.size_append, ByteArray.append_assoc]
theorem Fa (k : Nat) (hk : K0 + 20 ≤ k) (kind : Int) (d : ByteArray) : bG.f k kind d = some (lw kind d) := by
  obtain ⟨p1, p2⟩ := @zV kind d
  unfold bG.f
  rw [mP k (by omega), BJ k hk, nR k (by omega)]
  simp only [Option.bind_some]
  unfold lw prt
  unfold prt at p1 p2
  unfold K0 at hk
  obtain ⟨k, rfl⟩ : ∃ j, k = j + 1 := ⟨k - 1, by omega⟩
  by_cases h : vO kind d = true
  · simp only [if_pos h] at p1 p2 ⊢
    obtain ⟨h0, _⟩ := tH.mp h
    cases hs : aD.xZ kind with
    | none =>
      simp only [Option.getD_none]
      rw [if_pos (Int.le_refl _), if_pos (by omega)]
      have := qX d h0 [] (by simp) [] [] k (d.extract 0 0) 0 rfl (by simp) (by simp only [List.length_nil]; omega) (Int.le_refl _) (by simp only [strings_Join.cat, uK]; omega) (by simp only [strings_Join.cat, uK, ByteArray.size_extract]; omega)
      simp only [List.length_nil] at this
      rw [show ((0 : Int).toNat) = 0 from rfl, show ((0 : Nat) : Int) = 0 from rfl] at *
      rw [this]
      have e0 : d.extract 0 0 = ⟨#[]⟩ := eq_empty (by rw [ByteArray.size_extract]; omega)
      simp [strings_Join.cat, e0, empty_append, append_empty, uK, ByteArray.extract_zero_size]
    | some s =>
      obtain ⟨R, c1, c2, c3, c4, c5, c6, c7, c8, c9⟩ := oU h hs
      obtain ⟨a1, a2, a3, a4, a5, a6, a7, a8⟩ := kJ hs
      simp only [hs, c2, Option.getD_some] at p1 p2 ⊢
      have hcz := tF p1
      rw [if_pos a1, if_pos c1]
      have := qX d h0 R.1 (by omega) R.1 [] k (d.extract 0 s.1.toNat) s.1 rfl p1 (by omega) a1 (by omega) (by rw [ByteArray.size_extract]; omega)
      rw [show ((([] : List ByteArray).length : Nat) : Int) = 0 from rfl] at this
      rw [this, c9]
  · simp only [if_neg h]
    rfl
end Go.Proofs.Ytdkkgecdhapfhaa.ZQ
set_option maxRecDepth 100000
namespace Go.Proofs.Ytdkkgecdhapfhaa.Ka
open Go Go.RowKit Ev
abbrev AG := List AV → Option (List AV × List AV)
def Ud (g : ByteArray → SV) : AG := fun gH => match gH with
  | [.one (.f (.str q))] => if q.size ≤ 1000000 then some (L8 [g q], L8 [.str q]) else none
  | _ => none
def Ue (g : Int → ByteArray → SV) : AG := fun gH => match gH with
  | [.one (.f (.int .i64 k)), .one (.f (.str q))] => if q.size ≤ 1000000 then some (L8 [g k q], L8 [.int .i64 k, .str q]) else none
  | _ => none
theorem vU {f : FuncId} {g : ByteArray → SV} (h : ∀ q w, q.size ≤ 1000000 → Calls Try.prog f #[.string q] w fun e w' => e = .returned (encS (g q)) ∧ Below w.heap.size w w') : Sat Try.prog f (Ud g) := by
  refine Sat.vY fun gH r he => ?_
  unfold Ud at he
  split at he
  · split at he
    · cases he; rename_i q hq; exact ⟨[.str q], [g q], rfl, rfl, fun w => h q w hq⟩
    · cases he
  · cases he
theorem vV {f : FuncId} {g : Int → ByteArray → SV} (h : ∀ k q w, q.size ≤ 1000000 → Calls Try.prog f #[.int .i64 k, .string q] w fun e w' => e = .returned (encS (g k q)) ∧ Below w.heap.size w w') : Sat Try.prog f (Ue g) := by
  refine Sat.vY fun gH r he => ?_
  unfold Ue at he
  split at he
  · split at he
    · cases he; rename_i k q hq; exact ⟨[.int .i64 k, .str q], [g k q], rfl, rfl, fun w => h k q w hq⟩
    · cases he
  · cases he
def Uf (q : ByteArray) : ByteArray := if B.jA q = true then B.nW q else ⟨#[]⟩
def GQ : Th := ⟨B.jA, Uf, ZQ.vO, ZQ.lw⟩
def leafs : List (FuncId × AG) := [
  (91, Ud fun q => .bool (B.jA q)), (92, Ud fun q => .str (Uf q)),
  (100, Ud fun q => .bool (B.jA q)), (101, Ud fun q => .str (Uf q)),
  (94, Ue fun k q => .bool (ZQ.vO k q)), (95, Ue fun k q => .str (ZQ.lw k q)),
  (83, Ue fun k q => .bool (ZQ.vO k q)), (84, Ue fun k q => .str (ZQ.lw k q)),
  (88, NC 1 false), (70, NC 3 true)]
theorem DV : ∀ p ∈ leafs, Sat Try.prog p.1 p.2 := by
  have hk : ∀ q : ByteArray, q.size ≤ 1000000 → q.size ≤ 1000000000 := fun q h => by omega
  intro p hp
  simp only [leafs, List.mem_cons, List.not_mem_nil, or_false] at hp
  rcases hp with rfl | rfl | rfl | rfl | rfl | rfl | rfl | rfl | rfl | rfl
  · exact vU fun q w hq => ZQ.iK.calls 600 q _ w (ZQ.Dx 600 (Nat.le_refl _) q (hk q hq))
  · exact vU fun q w hq => ZQ.lZ.calls 600 q _ w (ZQ.u7 600 (Nat.le_refl _) q (hk q hq))
  · exact vU fun q w hq => ZQ.dz.calls 600 q _ w (ZQ.sU 600 (Nat.le_refl _) q (hk q hq))
  · exact vU fun q w hq => ZQ.fq.calls 600 q _ w (ZQ.yj 600 (Nat.le_refl _) q (hk q hq))
  · exact vV fun k q w hq => ZQ.iN.calls _ k q _ w (ZQ.zU (ZQ.K0 + 20) (by omega) k q)
  · exact vV fun k q w hq => ZQ.eD.calls _ k q _ w (ZQ.Pj (ZQ.K0 + 20) (by omega) k q)
  · exact vV fun k q w hq => ZQ.bR.calls _ k q _ w (ZQ.mP (ZQ.K0 + 20) (by omega) k q)
  · exact vV fun k q w hq => ZQ.bG.calls _ k q _ w (ZQ.Fa (ZQ.K0 + 20) (by omega) k q)
  · exact ND
  · exact NG
theorem yt : ∀ p ∈ leafs, ∃ fn, Try.prog.funcs[p.1]? = some fn ∧ (fn.name == "runtime.NumGoroutine") = false ∧ fn.body.isSome = true := by
  intro p hp
  simp only [leafs, List.mem_cons, List.not_mem_nil, or_false] at hp
  rcases hp with rfl | rfl | rfl | rfl | rfl | rfl | rfl | rfl | rfl | rfl
  · exact ⟨Try.f91, by kernel_rfl, by kernel_rfl, by kernel_rfl⟩
  · exact ⟨Try.f92, by kernel_rfl, by kernel_rfl, by kernel_rfl⟩
  · exact ⟨Try.f100, by kernel_rfl, by kernel_rfl, by kernel_rfl⟩
  · exact ⟨Try.f101, by kernel_rfl, by kernel_rfl, by kernel_rfl⟩
  · exact ⟨Try.f94, by kernel_rfl, by kernel_rfl, by kernel_rfl⟩
  · exact ⟨Try.f95, by kernel_rfl, by kernel_rfl, by kernel_rfl⟩
  · exact ⟨Try.f83, by kernel_rfl, by kernel_rfl, by kernel_rfl⟩
  · exact ⟨Try.f84, by kernel_rfl, by kernel_rfl, by kernel_rfl⟩
  · exact ⟨Try.f88, by kernel_rfl, by kernel_rfl, by kernel_rfl⟩
  · exact ⟨Try.f70, by kernel_rfl, by kernel_rfl, by kernel_rfl⟩
def Fb : Env := sj leafs
theorem Pm : iP Try.prog Fb := xu DV
theorem IQ : eO Try.prog Fb := qP yt
noncomputable def ins : List (FuncId × AG) := (19, uS Fb 200000000000001 9) :: leafs
theorem Ug : ∀ p ∈ ins, Sat Try.prog p.1 p.2 := by
  intro p hp
  rcases List.mem_cons.mp hp with rfl | hp
  · exact NH Pm IQ _ _
  · exact DV p hp
theorem LW : ∀ p ∈ ins, ∃ fn, Try.prog.funcs[p.1]? = some fn ∧ (fn.name == "runtime.NumGoroutine") = false ∧ fn.body.isSome = true := by
  intro p hp
  rcases List.mem_cons.mp hp with rfl | hp
  · exact ⟨Try.f19, by kernel_rfl, by kernel_rfl, by kernel_rfl⟩
  · exact yt p hp
noncomputable def ext1 : Env := sj ins
theorem Pn : iP Try.prog ext1 := xu Ug
theorem IU : eO Try.prog ext1 := qP LW
theorem Zi : GQ.Ok Fb := by
  constructor <;> intros <;> simp_all [Fb, leafs, sj, Ud, Ue, L8, tvS, GQ, vs, vb, vi]
theorem GR {α : Type} (sz : Nat) (own : Bool) (l : List α) (f : α → List FV) (hf : ∀ x, (f x).length = sz) (h : l.length ≤ 1000000) : NC sz own [vl (l.map f)] = some ([.one (if own then .own sz (l.map f) else .f (.sl (l.map f)))], [vl (l.map f)]) := by
  have h1 : ((l.map f).all fun r => r.length == sz) = true := by
    rw [List.all_eq_true]; intro r hr; obtain ⟨x, -, rfl⟩ := List.mem_map.mp hr; exact beq_iff_eq.mpr (hf x)
  show (if (l.map f).length ≤ 1000000 ∧ _ then _ else _) = _
  rw [if_pos ⟨by rw [List.length_map]; exact h, h1⟩]
theorem Zj (l : List ByteArray) (h : l.length ≤ 1000000) : NC 1 false [vl (l.map gJ)] = some ([vl (l.map gJ)], [vl (l.map gJ)]) := GR 1 false l gJ (fun _ => rfl) h
theorem Zk (l : List Qn) (h : l.length ≤ 1000000) : NC 3 true [vl (l.map rQ)] = some ([.one (.own 3 (l.map rQ))], [vl (l.map rQ)]) := GR 3 true l rQ (fun _ => rfl) h
theorem Zl : qN Fb := ⟨fun l h => Zk l h, fun l h => Zj l h⟩
theorem Uh : qN ext1 := ⟨fun l h => Zk l h, fun l h => Zj l h⟩
theorem DW (gH : List AV) : ext1 19 gH = uS Fb 200000000000001 (0 + 9) gH := by
  unfold ext1 ins sj; rw [if_pos rfl]
theorem Po : C9 GQ ext1 where
  p0 now x r := by rw [DW]; exact KA now x r
  p1 s now x r h1 h2 h3 _ h4 h5 h6 := by rw [DW]; exact KC Zi Zl s now x r (Nat.le_refl _) h1 h2 h3 h4 h5 h6
theorem Pp : GQ.Live := by constructor <;> decide +kernel
end Go.Proofs.Ytdkkgecdhapfhaa.Ka

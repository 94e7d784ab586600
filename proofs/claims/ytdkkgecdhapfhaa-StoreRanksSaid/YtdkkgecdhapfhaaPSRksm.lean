/- A part of the proof of StoreRanks: cut, joined and given short names by a program of this session (wip/tools/pack.py); Lean checks it. No condition. -/
import Derived.Test.YtdkkgecdhapfhaaPSRksj
import Derived.Test.YtdkkgecdhapfhaaPSRksl
import Derived.Test.YtdkkgecdhapfhaaPSRksk
import Derived.Test.YtdkkgecdhapfhaaPSRksi
import Derived.Test.YtdkkgecdhapfhaaPSRksd
set_option linter.unusedSectionVars false
set_option linter.unusedSimpArgs false
set_option linter.unusedVariables false
namespace Go.Proofs.Ytdkkgecdhapfhaa.ZQ
open Go.RowKit Go.Proofs.YtdkkgecdhapfhaaW.bD Go.Proofs.YtdkkgecdhapfhaaW.dW Go.Proofs.YtdkkgecdhapfhaaW.eG
attribute [local go_sem] jh ji j4 j5 iD iE jk jl
attribute [local go_sem high] Uc
def aH.j0 : Nat → Int → Bool → Option (Int × Int × Int)
  | 0, _, _ => none
  | k + 1, x3, x4 => if x4 = true then (some (0, 1, 0)) else (if x3 = 6 then (some (0, 2, 20)) else (if x3 = 15 then (some (2, 1, 0)) else (if x3 = 33 then (some (6, 1, 0)) else (if x3 = 1 then (some (4, 0, 0)) else (if x3 = 28 then (some (16, 0, 0)) else (some (0, 0, 0)))))))
def aH.f (k : Nat) (a0 : Int) : Option (Int × Int × Int) := if a0 = 2 then (aH.j0 k a0 (a0 == 2)) else (if a0 = 5 then (aH.j0 k a0 (a0 == 5)) else (aH.j0 k a0 (a0 == 12)))
set_option maxHeartbeats 8000000 in
set_option maxRecDepth 100000 in
theorem aH.calls (k : Nat) (a0 : Int) (r1 : Int) (r2 : Int) (r3 : Int) (w : World) (h : aH.f k a0 = some (r1, r2, r3)) :
    Calls Try.prog 106 #[.int .i64 a0] w fun e w' => e = .returned (.agg #[.int .i64 r1, .int .i64 r2, .int .i64 r3]) ∧ Below w.heap.size w w' := by
  have LD := Try.underlying142
  have HB := aj.mk (Below.refl w.heap.size w)
  have H : (if a0 = 2 then (aH.j0 k a0 (a0 == 2)) else (if a0 = 5 then (aH.j0 k a0 (a0 == 5)) else (aH.j0 k a0 (a0 == 12)))) = some (r1, r2, r3) := h
  clear h
  have TK := aj.mk H
  clear H
  go_enter Try.func106, Try.ntmps106
  go_upto_if 4 with (first | ((with_reducible refine gF (N := 2) rfl ?_); refine fP ?hg (N := 2) ?hd (cs := #[.int .i64 0, .int .i64 0, .int .i64 0]) (t := 142) ?hr ?_; (case hd => rfl); (case hg => rfl); (case hr => first | (go_simp; done) | (go_simp; rfl)); intro gU hg w3 gT hb; have dZ := aj.mk (bE (by repeat (first | (with_reducible first | exact HB.out | apply ak | apply ah | apply au) | exact HB.out)) hb); have gW := aj.mk (gT); have iZ := aj.mk ((by rw [hg]; exact (bL (by repeat (first | (with_reducible first | exact HB.out | apply ak | apply ah | apply au) | exact HB.out))) : w.heap.size ≤ gU)); have jF := aj.mk ((by rw [hg]; exact (bL (by repeat (first | (with_reducible first | exact HB.out | apply ak | apply ah | apply au) | exact HB.out))) : w.heap.size ≤ gU)); clear HB; have HB := dZ; have dV := gW; have afK := iZ; have qL := jF; clear dZ gW iZ jF; clear hb gT hg))
  (try simp only [Act.put, List.setIfInBounds_toArray, List.set_cons_zero, List.set_cons_succ])
  go_cut [4] (fun v4 wc => ∃ (kq : Nat) (qp : Bool), v4 = .bool qp ∧ aj (aH.j0 kq a0 qp = some (r1, r2, r3)) ∧ aj (kq ≤ k) ∧ aj (wc.heap[gU]? = some (.cells #[.int .i64 0, .int .i64 0, .int .i64 0] 142 (0, 0))) ∧ aj (Below w.heap.size w wc))
  case first =>
    have H := TK.out
    clear TK
    by_cases c4 : a0 = 2
    · rw [if_pos c4] at H
      have qx : (a0 == 2) = true := beq_iff_eq.mpr c4
      have Iq : (a0 != 2) = false := bne_eq_false_iff_eq.mpr c4
      clear c4
      (first | rw [qx] | rw [Lb] | (simp only [gN, iq]; rw [qx]) | skip)
      have H' := aj.mk H
      clear H
      go_wp2
      go_meet
      case rel => exact ⟨_, ((a0 == 2)), (by first | rfl | (simp; done) | (simp [*]; done) | (simp [B.aV]; done) | (simp [B.aW]; done)), H', ⟨by first | omega | exact Nat.le_refl _⟩, ⟨by (with_reducible repeat (first | refine aG ?_ _ | refine aI ?_ | refine aA ?_ _)); exact dV.out⟩, ⟨by repeat (first | (with_reducible first | exact HB.out | apply ak | apply ah | apply au | refine aR ?_ qL.out) | exact HB.out)⟩⟩
    · rw [if_neg c4] at H
      have qx : (a0 == 2) = false := beq_eq_false_iff_ne.mpr c4
      have Iq : (a0 != 2) = true := bne_iff_ne.mpr c4
      (first | rw [qx] | rw [Lb] | (simp only [gN, iq]; rw [qx]) | skip)
      by_cases c5 : a0 = 5
      · rw [if_pos c5] at H
        have oU : (a0 == 5) = true := beq_iff_eq.mpr c5
        have uK : (a0 != 5) = false := bne_eq_false_iff_eq.mpr c5
        clear c5
        have H' := aj.mk H
        clear H
        go_wp2
        go_meet
        case rel => exact ⟨_, ((a0 == 5)), (by first | rfl | (simp; done) | (simp [*]; done) | (simp [B.aV]; done) | (simp [B.aW]; done)), H', ⟨by first | omega | exact Nat.le_refl _⟩, ⟨by (with_reducible repeat (first | refine aG ?_ _ | refine aI ?_ | refine aA ?_ _)); exact dV.out⟩, ⟨by repeat (first | (with_reducible first | exact HB.out | apply ak | apply ah | apply au | refine aR ?_ qL.out) | exact HB.out)⟩⟩
      · rw [if_neg c5] at H
        have oU : (a0 == 5) = false := beq_eq_false_iff_ne.mpr c5
        have uK : (a0 != 5) = true := bne_iff_ne.mpr c5
        have H' := aj.mk H
        clear H
        go_wp2
        go_meet
        case rel => exact ⟨_, ((a0 == 12)), (by first | rfl | (simp; done) | (simp [*]; done) | (simp [B.aV]; done) | (simp [B.aW]; done)), H', ⟨by first | omega | exact Nat.le_refl _⟩, ⟨by (with_reducible repeat (first | refine aG ?_ _ | refine aI ?_ | refine aA ?_ _)); exact dV.out⟩, ⟨by repeat (first | (with_reducible first | exact HB.out | apply ak | apply ah | apply au | refine aR ?_ qL.out) | exact HB.out)⟩⟩
  case rest =>
    clear TK
    try clear c1
    try clear p2
    try clear c4
    try clear qx
    try clear Iq
    try clear Lb
    try clear c5
    try clear oU
    try clear uK
    obtain ⟨kq, qp, rfl, HA, HJ1, dV, HB⟩ := hcut
    cases kq with
    | zero => exact absurd HA.out (by simp [aH.j0])
    | succ kj1 =>
      have H := HA.out
      clear HA
      simp only [aH.j0] at H
      by_cases c6 : qp = true
      · subst c6
        have H1 : (some (0, 1, 0)) = some (r1, r2, r3) := by rw [if_pos rfl] at H; exact H
        clear H
        have H := H1
        clear H1
        simp only [Option.some.injEq, Prod.mk.injEq] at H
        obtain ⟨rfl, rfl, rfl⟩ := H
        have adR : wc.cell? ⟨gU, 0, none⟩ = some (.int .i64 0) := (aM dV.out 0).trans rfl
        have adS : wc.cell? ⟨gU, 1, none⟩ = some (.int .i64 0) := (aM dV.out 1).trans rfl
        have adT : wc.cell? ⟨gU, 2, none⟩ = some (.int .i64 0) := (aM dV.out 2).trans rfl
        have adU := ay dV.out 0
        have adV := ay dV.out 1
        have adW := ay dV.out 2
        go_wp2
        refine bodyPost_ret (results_cell_row rfl _ _ gU 142 #[.int .i64 0, .int .i64 1, .int .i64 0] (0, 0) _ rfl (by (with_reducible repeat (first | refine aG ?_ _ | refine aI ?_ | refine aA ?_ _)); refine bU (cs := #[.int .i64 0, .int .i64 1, .int .i64 0]) ?_ 2 _ rfl; (with_reducible repeat (first | refine aG ?_ _ | refine aI ?_ | refine aA ?_ _)); refine bU (cs := #[.int .i64 0, .int .i64 0, .int .i64 0]) ?_ 1 _ rfl; (with_reducible repeat (first | refine aG ?_ _ | refine aI ?_ | refine aA ?_ _)); refine bU (cs := #[.int .i64 0, .int .i64 0, .int .i64 0]) ?_ 0 _ rfl; (with_reducible repeat (first | refine aG ?_ _ | refine aI ?_ | refine aA ?_ _)); exact dV.out) Try.underlying142 rfl (by kernel_rfl)) rfl ?_
        exact ⟨by first | rfl | (simp [aJ, aK] <;> rfl) | (simp [*, aJ, aK] <;> rfl), by repeat (first | (with_reducible first | exact HB.out | apply ak | apply ah | apply au | refine aR ?_ qL.out) | exact HB.out)⟩
      · replace c6 := Bool.eq_false_iff.mpr c6
        subst c6
        have H1 : (if a0 = 6 then (some (0, 2, 20)) else (if a0 = 15 then (some (2, 1, 0)) else (if a0 = 33 then (some (6, 1, 0)) else (if a0 = 1 then (some (4, 0, 0)) else (if a0 = 28 then (some (16, 0, 0)) else (some (0, 0, 0))))))) = some (r1, r2, r3) := by rw [if_neg (show ¬ (false = true) by decide)] at H; exact H
        clear H
        have H := H1
        clear H1
        by_cases c8 : a0 = 6
        · rw [if_pos c8] at H
          have qZ : (a0 == 6) = true := beq_iff_eq.mpr c8
          have q8 : (a0 != 6) = false := bne_eq_false_iff_eq.mpr c8
          clear c8
          simp only [Option.some.injEq, Prod.mk.injEq] at H
          obtain ⟨rfl, rfl, rfl⟩ := H
          have LG : wc.cell? ⟨gU, 0, none⟩ = some (.int .i64 0) := (aM dV.out 0).trans rfl
          have LH : wc.cell? ⟨gU, 1, none⟩ = some (.int .i64 0) := (aM dV.out 1).trans rfl
          have LJ : wc.cell? ⟨gU, 2, none⟩ = some (.int .i64 0) := (aM dV.out 2).trans rfl
          have LK := ay dV.out 0
          have LM := ay dV.out 1
          have LP := ay dV.out 2
          go_wp2
          refine bodyPost_ret (results_cell_row rfl _ _ gU 142 #[.int .i64 0, .int .i64 2, .int .i64 20] (0, 0) _ rfl (by (with_reducible repeat (first | refine aG ?_ _ | refine aI ?_ | refine aA ?_ _)); refine bU (cs := #[.int .i64 0, .int .i64 2, .int .i64 0]) ?_ 2 _ rfl; (with_reducible repeat (first | refine aG ?_ _ | refine aI ?_ | refine aA ?_ _)); refine bU (cs := #[.int .i64 0, .int .i64 0, .int .i64 0]) ?_ 1 _ rfl; (with_reducible repeat (first | refine aG ?_ _ | refine aI ?_ | refine aA ?_ _)); refine bU (cs := #[.int .i64 0, .int .i64 0, .int .i64 0]) ?_ 0 _ rfl; (with_reducible repeat (first | refine aG ?_ _ | refine aI ?_ | refine aA ?_ _)); exact dV.out) Try.underlying142 rfl (by kernel_rfl)) rfl ?_
          exact ⟨by first | rfl | (simp [aJ, aK] <;> rfl) | (simp [*, aJ, aK] <;> rfl), by repeat (first | (with_reducible first | exact HB.out | apply ak | apply ah | apply au | refine aR ?_ qL.out) | exact HB.out)⟩
        · rw [if_neg c8] at H
          have qZ : (a0 == 6) = false := beq_eq_false_iff_ne.mpr c8
          have q8 : (a0 != 6) = true := bne_iff_ne.mpr c8
          by_cases c10 : a0 = 15
          · rw [if_pos c10] at H
            have qK : (a0 == 15) = true := beq_iff_eq.mpr c10
            have zP : (a0 != 15) = false := bne_eq_false_iff_eq.mpr c10
            clear c10
            simp only [Option.some.injEq, Prod.mk.injEq] at H
            obtain ⟨rfl, rfl, rfl⟩ := H
            have abG : wc.cell? ⟨gU, 0, none⟩ = some (.int .i64 0) := (aM dV.out 0).trans rfl
            have abH : wc.cell? ⟨gU, 1, none⟩ = some (.int .i64 0) := (aM dV.out 1).trans rfl
            have abI : wc.cell? ⟨gU, 2, none⟩ = some (.int .i64 0) := (aM dV.out 2).trans rfl
            have abJ := ay dV.out 0
            have abK := ay dV.out 1
            have abL := ay dV.out 2
            go_wp2
            refine bodyPost_ret (results_cell_row rfl _ _ gU 142 #[.int .i64 2, .int .i64 1, .int .i64 0] (0, 0) _ rfl (by (with_reducible repeat (first | refine aG ?_ _ | refine aI ?_ | refine aA ?_ _)); refine bU (cs := #[.int .i64 2, .int .i64 1, .int .i64 0]) ?_ 2 _ rfl; (with_reducible repeat (first | refine aG ?_ _ | refine aI ?_ | refine aA ?_ _)); refine bU (cs := #[.int .i64 2, .int .i64 0, .int .i64 0]) ?_ 1 _ rfl; (with_reducible repeat (first | refine aG ?_ _ | refine aI ?_ | refine aA ?_ _)); refine bU (cs := #[.int .i64 0, .int .i64 0, .int .i64 0]) ?_ 0 _ rfl; (with_reducible repeat (first | refine aG ?_ _ | refine aI ?_ | refine aA ?_ _)); exact dV.out) Try.underlying142 rfl (by kernel_rfl)) rfl ?_
            exact ⟨by first | rfl | (simp [aJ, aK] <;> rfl) | (simp [*, aJ, aK] <;> rfl), by repeat (first | (with_reducible first | exact HB.out | apply ak | apply ah | apply au | refine aR ?_ qL.out) | exact HB.out)⟩
          · rw [if_neg c10] at H
            have qK : (a0 == 15) = false := beq_eq_false_iff_ne.mpr c10
            have zP : (a0 != 15) = true := bne_iff_ne.mpr c10
            by_cases c12 : a0 = 33
            · rw [if_pos c12] at H
              have tu : (a0 == 33) = true := beq_iff_eq.mpr c12
              have tC : (a0 != 33) = false := bne_eq_false_iff_eq.mpr c12
              clear c12
              simp only [Option.some.injEq, Prod.mk.injEq] at H
              obtain ⟨rfl, rfl, rfl⟩ := H
              have Bv : wc.cell? ⟨gU, 0, none⟩ = some (.int .i64 0) := (aM dV.out 0).trans rfl
              have Bw : wc.cell? ⟨gU, 1, none⟩ = some (.int .i64 0) := (aM dV.out 1).trans rfl
              have Bz : wc.cell? ⟨gU, 2, none⟩ = some (.int .i64 0) := (aM dV.out 2).trans rfl
              have BA := ay dV.out 0
              have BD := ay dV.out 1
              have BF := ay dV.out 2
              go_wp2
              refine bodyPost_ret (results_cell_row rfl _ _ gU 142 #[.int .i64 6, .int .i64 1, .int .i64 0] (0, 0) _ rfl (by (with_reducible repeat (first | refine aG ?_ _ | refine aI ?_ | refine aA ?_ _)); refine bU (cs := #[.int .i64 6, .int .i64 1, .int .i64 0]) ?_ 2 _ rfl; (with_reducible repeat (first | refine aG ?_ _ | refine aI ?_ | refine aA ?_ _)); refine bU (cs := #[.int .i64 6, .int .i64 0, .int .i64 0]) ?_ 1 _ rfl; (with_reducible repeat (first | refine aG ?_ _ | refine aI ?_ | refine aA ?_ _)); refine bU (cs := #[.int .i64 0, .int .i64 0, .int .i64 0]) ?_ 0 _ rfl; (with_reducible repeat (first | refine aG ?_ _ | refine aI ?_ | refine aA ?_ _)); exact dV.out) Try.underlying142 rfl (by kernel_rfl)) rfl ?_
              exact ⟨by first | rfl | (simp [aJ, aK] <;> rfl) | (simp [*, aJ, aK] <;> rfl), by repeat (first | (with_reducible first | exact HB.out | apply ak | apply ah | apply au | refine aR ?_ qL.out) | exact HB.out)⟩
            · rw [if_neg c12] at H
              have tu : (a0 == 33) = false := beq_eq_false_iff_ne.mpr c12
              have tC : (a0 != 33) = true := bne_iff_ne.mpr c12
              by_cases c14 : a0 = 1
              · rw [if_pos c14] at H
                have zQ : (a0 == 1) = true := beq_iff_eq.mpr c14
                have QJ : (a0 != 1) = false := bne_eq_false_iff_eq.mpr c14
                clear c14
                simp only [Option.some.injEq, Prod.mk.injEq] at H
                obtain ⟨rfl, rfl, rfl⟩ := H
                have BG : wc.cell? ⟨gU, 0, none⟩ = some (.int .i64 0) := (aM dV.out 0).trans rfl
                have BH : wc.cell? ⟨gU, 1, none⟩ = some (.int .i64 0) := (aM dV.out 1).trans rfl
                have BI : wc.cell? ⟨gU, 2, none⟩ = some (.int .i64 0) := (aM dV.out 2).trans rfl
                have BJ := ay dV.out 0
                have BK := ay dV.out 1
                have BL := ay dV.out 2
                go_wp2
                refine bodyPost_ret (results_cell_row rfl _ _ gU 142 #[.int .i64 4, .int .i64 0, .int .i64 0] (0, 0) _ rfl (by (with_reducible repeat (first | refine aG ?_ _ | refine aI ?_ | refine aA ?_ _)); refine bU (cs := #[.int .i64 4, .int .i64 0, .int .i64 0]) ?_ 2 _ rfl; (with_reducible repeat (first | refine aG ?_ _ | refine aI ?_ | refine aA ?_ _)); refine bU (cs := #[.int .i64 4, .int .i64 0, .int .i64 0]) ?_ 1 _ rfl; (with_reducible repeat (first | refine aG ?_ _ | refine aI ?_ | refine aA ?_ _)); refine bU (cs := #[.int .i64 0, .int .i64 0, .int .i64 0]) ?_ 0 _ rfl; (with_reducible repeat (first | refine aG ?_ _ | refine aI ?_ | refine aA ?_ _)); exact dV.out) Try.underlying142 rfl (by kernel_rfl)) rfl ?_
                exact ⟨by first | rfl | (simp [aJ, aK] <;> rfl) | (simp [*, aJ, aK] <;> rfl), by repeat (first | (with_reducible first | exact HB.out | apply ak | apply ah | apply au | refine aR ?_ qL.out) | exact HB.out)⟩
              · rw [if_neg c14] at H
                have zQ : (a0 == 1) = false := beq_eq_false_iff_ne.mpr c14
                have QJ : (a0 != 1) = true := bne_iff_ne.mpr c14
                by_cases c16 : a0 = 28
                · rw [if_pos c16] at H
                  have Gl : (a0 == 28) = true := beq_iff_eq.mpr c16
                  have YU : (a0 != 28) = false := bne_eq_false_iff_eq.mpr c16
                  clear c16
                  simp only [Option.some.injEq, Prod.mk.injEq] at H
                  obtain ⟨rfl, rfl, rfl⟩ := H
                  have abM : wc.cell? ⟨gU, 0, none⟩ = some (.int .i64 0) := (aM dV.out 0).trans rfl
                  have abN : wc.cell? ⟨gU, 1, none⟩ = some (.int .i64 0) := (aM dV.out 1).trans rfl
                  have abO : wc.cell? ⟨gU, 2, none⟩ = some (.int .i64 0) := (aM dV.out 2).trans rfl
                  have abP := ay dV.out 0
                  have abQ := ay dV.out 1
                  have abR := ay dV.out 2
                  go_wp2
                  refine bodyPost_ret (results_cell_row rfl _ _ gU 142 #[.int .i64 16, .int .i64 0, .int .i64 0] (0, 0) _ rfl (by (with_reducible repeat (first | refine aG ?_ _ | refine aI ?_ | refine aA ?_ _)); refine bU (cs := #[.int .i64 16, .int .i64 0, .int .i64 0]) ?_ 2 _ rfl; (with_reducible repeat (first | refine aG ?_ _ | refine aI ?_ | refine aA ?_ _)); refine bU (cs := #[.int .i64 16, .int .i64 0, .int .i64 0]) ?_ 1 _ rfl; (with_reducible repeat (first | refine aG ?_ _ | refine aI ?_ | refine aA ?_ _)); refine bU (cs := #[.int .i64 0, .int .i64 0, .int .i64 0]) ?_ 0 _ rfl; (with_reducible repeat (first | refine aG ?_ _ | refine aI ?_ | refine aA ?_ _)); exact dV.out) Try.underlying142 rfl (by kernel_rfl)) rfl ?_
                  exact ⟨by first | rfl | (simp [aJ, aK] <;> rfl) | (simp [*, aJ, aK] <;> rfl), by repeat (first | (with_reducible first | exact HB.out | apply ak | apply ah | apply au | refine aR ?_ qL.out) | exact HB.out)⟩
                · rw [if_neg c16] at H
                  have Gl : (a0 == 28) = false := beq_eq_false_iff_ne.mpr c16
                  have YU : (a0 != 28) = true := bne_iff_ne.mpr c16
                  simp only [Option.some.injEq, Prod.mk.injEq] at H
                  obtain ⟨rfl, rfl, rfl⟩ := H
                  have GH : wc.cell? ⟨gU, 0, none⟩ = some (.int .i64 0) := (aM dV.out 0).trans rfl
                  have GI : wc.cell? ⟨gU, 1, none⟩ = some (.int .i64 0) := (aM dV.out 1).trans rfl
                  have GJ : wc.cell? ⟨gU, 2, none⟩ = some (.int .i64 0) := (aM dV.out 2).trans rfl
                  have GK := ay dV.out 0
                  have GL := ay dV.out 1
                  have GN := ay dV.out 2
                  go_wp2
                  refine bodyPost_ret (results_cell_row rfl _ _ gU 142 #[.int .i64 0, .int .i64 0, .int .i64 0] (0, 0) _ rfl (by (with_reducible repeat (first | refine aG ?_ _ | refine aI ?_ | refine aA ?_ _)); refine bU (cs := #[.int .i64 0, .int .i64 0, .int .i64 0]) ?_ 2 _ rfl; (with_reducible repeat (first | refine aG ?_ _ | refine aI ?_ | refine aA ?_ _)); refine bU (cs := #[.int .i64 0, .int .i64 0, .int .i64 0]) ?_ 1 _ rfl; (with_reducible repeat (first | refine aG ?_ _ | refine aI ?_ | refine aA ?_ _)); refine bU (cs := #[.int .i64 0, .int .i64 0, .int .i64 0]) ?_ 0 _ rfl; (with_reducible repeat (first | refine aG ?_ _ | refine aI ?_ | refine aA ?_ _)); exact dV.out) Try.underlying142 rfl (by kernel_rfl)) rfl ?_
                  exact ⟨by first | rfl | (simp [aJ, aK] <;> rfl) | (simp [*, aJ, aK] <;> rfl), by repeat (first | (with_reducible first | exact HB.out | apply ak | apply ah | apply au | refine aR ?_ qL.out) | exact HB.out)⟩
def bn.l0 : Nat → ByteArray → Int → Option (Bool)
  | 0, _, _ => none
  | k + 1, x0, x3 => if x3 < (x0.size : Int) then (if 0 ≤ x3 then (bn.l0 k x0 (wrap64 ((wrap64 (x3 + 1)) + (wrap64 (bt x0 x3))))) else (none)) else (if x3 = (x0.size : Int) then (some (decide (x3 > 0))) else (some false))
def bn.f (k : Nat) (a0 : ByteArray) : Option (Bool) := bn.l0 k a0 0
set_option maxHeartbeats 8000000 in
set_option maxRecDepth 100000 in
theorem bn.calls (k : Nat) (a0 : ByteArray) (r : Bool) (w : World) (h : bn.f k a0 = some r) :
    Calls Try.prog 117 #[.string a0] w fun e w' => e = .returned (.bool r) ∧ aY w w' := by
  have H : (bn.l0 k a0 0) = some r := h
  clear h
  have H' := aj.mk H
  clear H
  go_enter Try.func117, Try.ntmps117
  go_wp2
  go_loopg [3] k (fun kq v3 w' => ∃ (oo : Int), v3 = .int .i64 oo ∧ aj (bn.l0 kq a0 oo = some r) ∧ aj (kq ≤ k) ∧ aY w w')
  case atStart => exact ⟨(0), (by first | rfl | (simp; done) | (simp [*]; done) | (simp [B.aV]; done) | (simp [B.aW]; done)), H', ⟨Nat.le_refl _⟩, by repeat (first | exact aY.refl _ | apply aY.step)⟩
  case round =>
    clear H'
    try clear c1
    obtain ⟨oo, rfl, HA, sZ, ⟨m1, rfl⟩⟩ := hrel
    cases gk with
    | zero => exact absurd HA.out (by simp [bn.l0])
    | succ k1 =>
      have H := HA.out
      clear HA
      simp only [bn.l0] at H
      by_cases c2 : oo < (a0.size : Int)
      · rw [if_pos c2] at H
        have vK : decide (oo < (a0.size : Int)) = true := decide_eq_true c2
        clear c2
        by_cases c3 : 0 ≤ oo
        · rw [if_pos c3] at H
          have qy : decide (0 ≤ oo) = true := decide_eq_true c3
          clear c3
          have H' := aj.mk H
          clear H
          have p4 : 0 ≤ (oo : Int) := of_decide_eq_true (by first | (with_reducible assumption) | assumption)
          have q4 : oo < (a0.size : Int) := of_decide_eq_true (by first | (with_reducible assumption) | assumption)
          have hx4 := nC a0 oo
          replace p4 := eq_true p4
          replace q4 := eq_true q4
          go_wp2
          go_roundg k1
          case measure => have := sZ.out; omega
          case rel => exact ⟨(wrap64 ((wrap64 (oo + 1)) + (wrap64 (bt a0 oo)))), (by first | rfl | (simp; done) | (simp [*]; done) | (simp [B.aV]; done) | (simp [B.aW]; done)), H', ⟨by have := sZ.out; omega⟩, by repeat (first | exact aY.refl _ | apply aY.step)⟩
        · rw [if_neg c3] at H
          exact absurd H (by simp)
      · rw [if_neg c2] at H
        have vK : decide (oo < (a0.size : Int)) = false := decide_eq_false c2
        clear c2
        by_cases c5 : oo = (a0.size : Int)
        · rw [if_pos c5] at H
          have oU : (oo == (a0.size : Int)) = true := beq_iff_eq.mpr c5
          have uK : (oo != (a0.size : Int)) = false := bne_eq_false_iff_eq.mpr c5
          clear c5
          obtain rfl := Option.some.inj H
          go_wp2
          go_ret
          exact ⟨by first | rfl | (simp; done) | (simp [*]; done), by repeat (first | exact aY.refl _ | apply aY.step)⟩
        · rw [if_neg c5] at H
          have oU : (oo == (a0.size : Int)) = false := beq_eq_false_iff_ne.mpr c5
          have uK : (oo != (a0.size : Int)) = true := bne_iff_ne.mpr c5
          obtain rfl := Option.some.inj H
          go_wp2
          go_ret
          exact ⟨by first | rfl | (simp; done) | (simp [*]; done), by repeat (first | exact aY.refl _ | apply aY.step)⟩
def aX.l0 : Nat → ByteArray → Int → Int → ByteArray → Int → Int → Int → Int → Int → Option (ByteArray × Int)
  | 0, _, _, _, _, _, _, _, _, _ => none
  | k + 1, x0, x1, x2, YV, Oc, x15, OL, GQ, GR => if x15 < GQ then ((aU.f k x0 Oc).bind fun GU => (if GU.2.2 = 0 then (if YV.size + GU.1.size ≤ 9223372036854775807 then (aX.l0 k x0 x1 x2 (YV ++ GU.1) GU.2.1 (wrap64 (x15 + 1)) OL GQ GR) else (none)) else (some ((⟨#[]⟩ : ByteArray), 4)))) else (if (wrap64 (Oc + GR)) = (wrap64 (x1 + x2)) then (if 0 ≤ Oc then (if Oc ≤ (wrap64 (x1 + x2)) then (if (wrap64 (x1 + x2)) ≤ (x0.size : Int) then (if YV.size + (x0.extract (Oc : Int).toNat ((wrap64 (x1 + x2)) : Int).toNat).size ≤ 9223372036854775807 then (if ((YV ++ (x0.extract (Oc : Int).toNat ((wrap64 (x1 + x2)) : Int).toNat)).size : Int) > 65535 then (some ((⟨#[]⟩ : ByteArray), 4)) else (some (YV ++ (x0.extract (Oc : Int).toNat ((wrap64 (x1 + x2)) : Int).toNat), 0))) else (none)) else (none)) else (none)) else (none)) else (some ((⟨#[]⟩ : ByteArray), 4)))
def aX.f (k : Nat) (a0 : ByteArray) (a1 : Int) (a2 : Int) (a3 : Int) : Option (ByteArray × Int) := (bC.f a0 a1 a2).bind fun kW => (if kW.2 = true then ((aH.f k a3).bind fun eU => (if (eU.1 == 0 && (eU.2.1 == 0 && (eU.2.2 == 0))) = true then (if a3 = 16 then ((bn.f k kW.1).bind fun vN => (if vN = true then (if (kW.1.size : Int) > 65535 then (some ((⟨#[]⟩ : ByteArray), 4)) else (some (kW.1, 0))) else (some ((⟨#[]⟩ : ByteArray), 4)))) else (if (kW.1.size : Int) > 65535 then (some ((⟨#[]⟩ : ByteArray), 4)) else (some (kW.1, 0)))) else (if eU.1 > a2 then (some ((⟨#[]⟩ : ByteArray), 4)) else (if 0 ≤ eU.1 then (if eU.1 ≤ (kW.1.size : Int) then (aX.l0 k a0 a1 a2 (kW.1.extract 0 (eU.1 : Int).toNat) (wrap64 (a1 + eU.1)) 0 eU.1 eU.2.1 eU.2.2) else (none)) else (none))))) else (some ((⟨#[]⟩ : ByteArray), 2)))
set_option maxHeartbeats 8000000 in
set_option maxRecDepth 100000 in
theorem aX.calls (k : Nat) (a0 : ByteArray) (a1 : Int) (a2 : Int) (a3 : Int) (r1 : ByteArray) (r2 : Int) (w : World) (h : aX.f k a0 a1 a2 a3 = some (r1, r2)) :
    Calls Try.prog 104 #[.string a0, .int .i64 a1, .int .i64 a2, .int .i64 a3] w fun e w' => e = .returned (.tuple #[.string r1, .int .i64 r2]) ∧ Below w.heap.size w w' := by
  have LD := Try.underlying142
  have HB := aj.mk (Below.refl w.heap.size w)
  have H : ((bC.f a0 a1 a2).bind fun kW => (if kW.2 = true then ((aH.f k a3).bind fun eU => (if (eU.1 == 0 && (eU.2.1 == 0 && (eU.2.2 == 0))) = true then (if a3 = 16 then ((bn.f k kW.1).bind fun vN => (if vN = true then (if (kW.1.size : Int) > 65535 then (some ((⟨#[]⟩ : ByteArray), 4)) else (some (kW.1, 0))) else (some ((⟨#[]⟩ : ByteArray), 4)))) else (if (kW.1.size : Int) > 65535 then (some ((⟨#[]⟩ : ByteArray), 4)) else (some (kW.1, 0)))) else (if eU.1 > a2 then (some ((⟨#[]⟩ : ByteArray), 4)) else (if 0 ≤ eU.1 then (if eU.1 ≤ (kW.1.size : Int) then (aX.l0 k a0 a1 a2 (kW.1.extract 0 (eU.1 : Int).toNat) (wrap64 (a1 + eU.1)) 0 eU.1 eU.2.1 eU.2.2) else (none)) else (none))))) else (some ((⟨#[]⟩ : ByteArray), 2)))) = some (r1, r2) := h
  clear h
  replace H := zbm H
  obtain ⟨⟨t160, YW⟩, QU, H⟩ := H
  replace H : (if YW = true then ((aH.f k a3).bind fun eU => (if (eU.1 == 0 && (eU.2.1 == 0 && (eU.2.2 == 0))) = true then (if a3 = 16 then ((bn.f k t160).bind fun vN => (if vN = true then (if (t160.size : Int) > 65535 then (some ((⟨#[]⟩ : ByteArray), 4)) else (some (t160, 0))) else (some ((⟨#[]⟩ : ByteArray), 4)))) else (if (t160.size : Int) > 65535 then (some ((⟨#[]⟩ : ByteArray), 4)) else (some (t160, 0)))) else (if eU.1 > a2 then (some ((⟨#[]⟩ : ByteArray), 4)) else (if 0 ≤ eU.1 then (if eU.1 ≤ (t160.size : Int) then (aX.l0 k a0 a1 a2 (t160.extract 0 (eU.1 : Int).toNat) (wrap64 (a1 + eU.1)) 0 eU.1 eU.2.1 eU.2.2) else (none)) else (none))))) else (some ((⟨#[]⟩ : ByteArray), 2))) = some (r1, r2) := H
  have A5 := aj.mk QU
  clear QU
  by_cases c6 : YW = true
  · subst c6
    have H1 : ((aH.f k a3).bind fun eU => (if (eU.1 == 0 && (eU.2.1 == 0 && (eU.2.2 == 0))) = true then (if a3 = 16 then ((bn.f k t160).bind fun vN => (if vN = true then (if (t160.size : Int) > 65535 then (some ((⟨#[]⟩ : ByteArray), 4)) else (some (t160, 0))) else (some ((⟨#[]⟩ : ByteArray), 4)))) else (if (t160.size : Int) > 65535 then (some ((⟨#[]⟩ : ByteArray), 4)) else (some (t160, 0)))) else (if eU.1 > a2 then (some ((⟨#[]⟩ : ByteArray), 4)) else (if 0 ≤ eU.1 then (if eU.1 ≤ (t160.size : Int) then (aX.l0 k a0 a1 a2 (t160.extract 0 (eU.1 : Int).toNat) (wrap64 (a1 + eU.1)) 0 eU.1 eU.2.1 eU.2.2) else (none)) else (none))))) = some (r1, r2) := by rw [if_pos rfl] at H; exact H
    clear H
    have H := H1
    clear H1
    replace H := zbm H
    obtain ⟨⟨t162, kD, t164⟩, Ya, H⟩ := H
    replace H : (if (t162 == 0 && (kD == 0 && (t164 == 0))) = true then (if a3 = 16 then ((bn.f k t160).bind fun vN => (if vN = true then (if (t160.size : Int) > 65535 then (some ((⟨#[]⟩ : ByteArray), 4)) else (some (t160, 0))) else (some ((⟨#[]⟩ : ByteArray), 4)))) else (if (t160.size : Int) > 65535 then (some ((⟨#[]⟩ : ByteArray), 4)) else (some (t160, 0)))) else (if t162 > a2 then (some ((⟨#[]⟩ : ByteArray), 4)) else (if 0 ≤ t162 then (if t162 ≤ (t160.size : Int) then (aX.l0 k a0 a1 a2 (t160.extract 0 (t162 : Int).toNat) (wrap64 (a1 + t162)) 0 t162 kD t164) else (none)) else (none)))) = some (r1, r2) := H
    have A7 := aj.mk Ya
    clear Ya
    by_cases c8 : (t162 == 0 && (kD == 0 && (t164 == 0))) = true
    · rw [if_pos c8] at H
      have qZ : (t162 == 0 && (kD == 0 && (t164 == 0))) = true := c8
      (try (have q8 : decide (t162 = 0 && (kD == 0 && (t164 == 0))) = true := by simpa using c8))
      (try (have Lh : (t162 == 0 && (kD == 0 && (t164 == 0))) = true := by simpa using c8))
      clear c8
      by_cases c9 : a3 = 16
      · rw [if_pos c9] at H
        have tq : (a3 == 16) = true := beq_iff_eq.mpr c9
        have DC : (a3 != 16) = false := bne_eq_false_iff_eq.mpr c9
        clear c9
        replace H := zbm H
        obtain ⟨vN, Ls, H⟩ := H
        replace H : (if vN = true then (if (t160.size : Int) > 65535 then (some ((⟨#[]⟩ : ByteArray), 4)) else (some (t160, 0))) else (some ((⟨#[]⟩ : ByteArray), 4))) = some (r1, r2) := H
        have QL := aj.mk Ls
        clear Ls
        by_cases c11 : vN = true
        · subst c11
          have H1 : (if (t160.size : Int) > 65535 then (some ((⟨#[]⟩ : ByteArray), 4)) else (some (t160, 0))) = some (r1, r2) := by rw [if_pos rfl] at H; exact H
          clear H
          have H := H1
          clear H1
          by_cases c12 : (t160.size : Int) > 65535
          · rw [if_pos c12] at H
            have tu : decide (65535 < (t160.size : Int)) = true := decide_eq_true c12
            have tC : decide (65535 < t160.size) = true := decide_eq_true (by omega)
            clear c12
            simp only [Option.some.injEq, Prod.mk.injEq] at H
            obtain ⟨rfl, rfl⟩ := H
            go_enter Try.func104, Try.ntmps104
            go_wp2_with (first | ((with_reducible refine aQ (f := 99) rfl ?_); refine bP (some 23) rfl rfl Try.func99 (by kernel_rfl) rfl #[.string a0, .int .i64 a1, .int .i64 a2] rfl (by (try simp only [List.map_toArray, List.map_cons, List.map_nil]); first | done | rfl | (simp only [List.length_drop, List.length_take]; rfl) | (simp only [ByteArray.size_append, Int.natCast_add]; rfl) | (rw [B.dO] <;> first | rfl | omega | (simp only [decide_eq_false_iff_not, decide_eq_true_eq, Int.not_lt, Nat.not_lt, gt_iff_lt] at * <;> omega))) ?_; (with_reducible refine (bC.calls a0 a1 a2 t160 true _ A5.out).mono ?_); rintro e w' ⟨rfl, ⟨nd, rfl⟩⟩; refine ⟨_, rfl, ?_⟩) | ((with_reducible refine aQ (f := 106) rfl ?_); refine bP (some 29) rfl rfl Try.func106 (by kernel_rfl) rfl #[.int .i64 a3] rfl (by (try simp only [List.map_toArray, List.map_cons, List.map_nil]); first | done | rfl | (simp only [List.length_drop, List.length_take]; rfl) | (simp only [ByteArray.size_append, Int.natCast_add]; rfl) | (rw [B.dO] <;> first | rfl | omega | (simp only [decide_eq_false_iff_not, decide_eq_true_eq, Int.not_lt, Nat.not_lt, gt_iff_lt] at * <;> omega))) ?_; (with_reducible refine (aH.calls k a3 t162 kD t164 _ A7.out).mono ?_); rintro e w13 ⟨rfl, hb⟩; refine ⟨_, rfl, ?_⟩; have dZ := aj.mk (bE (by repeat (first | (with_reducible first | exact HB.out | apply ak | apply ah | apply au) | exact HB.out)) hb); clear HB; have HB := dZ; clear dZ; (try clear hb); (try clear hb2); (try clear hk); (try clear hi)) | ((with_reducible refine gF (N := 12) rfl ?_); (try (refine jm (by rfl) ?_; dsimp only)); refine fP ?hg (N := 12) ?hd (cs := #[.int .i64 0, .int .i64 0, .int .i64 0]) (t := 142) ?hr ?_; (case hd => rfl); (case hg => rfl); (case hr => first | (go_simp; done) | (go_simp; rfl)); intro dL hg w14 gT hb; have dZ := aj.mk (bE (by repeat (first | (with_reducible first | exact HB.out | apply ak | apply ah | apply au) | exact HB.out)) hb); have gW := aj.mk (gT); have iZ := aj.mk ((by rw [hg]; exact (bL (by repeat (first | (with_reducible first | exact HB.out | apply ak | apply ah | apply au) | exact HB.out))) : w.heap.size ≤ dL)); have jF := aj.mk ((by rw [hg]; exact (bL (by repeat (first | (with_reducible first | exact HB.out | apply ak | apply ah | apply au) | exact HB.out))) : w.heap.size ≤ dL)); clear HB; have HB := dZ; have bT := gW; have zW := iZ; have kF := jF; clear dZ gW iZ jF; clear hb gT hg; have BG : w14.cell? ⟨dL, 0, none⟩ = some (.int .i64 0) := (aM bT.out 0).trans rfl; have BH : w14.cell? ⟨dL, 1, none⟩ = some (.int .i64 0) := (aM bT.out 1).trans rfl; have BI : w14.cell? ⟨dL, 2, none⟩ = some (.int .i64 0) := (aM bT.out 2).trans rfl; have BJ := ay bT.out 0; have BK := ay bT.out 1; have BL := ay bT.out 2) | (go_at_call 117; (with_reducible refine (bn.calls k t160 true _ QL.out).mono ?_); rintro e w' ⟨rfl, ⟨nd, rfl⟩⟩))
            go_ret2
            exact ⟨by first | rfl | (simp [aJ, aK] <;> rfl) | (simp [*, aJ, aK] <;> rfl), by repeat (first | (with_reducible first | exact HB.out | apply ak | apply ah | apply au | refine aR ?_ kF.out) | exact HB.out)⟩
          · rw [if_neg c12] at H
            have tu : decide (65535 < (t160.size : Int)) = false := decide_eq_false c12
            have tC : decide (65535 < t160.size) = false := decide_eq_false (by omega)
            clear c12
            simp only [Option.some.injEq, Prod.mk.injEq] at H
            obtain ⟨rfl, rfl⟩ := H
            go_enter Try.func104, Try.ntmps104
            go_wp2_with (first | ((with_reducible refine aQ (f := 99) rfl ?_); refine bP (some 23) rfl rfl Try.func99 (by kernel_rfl) rfl #[.string a0, .int .i64 a1, .int .i64 a2] rfl (by (try simp only [List.map_toArray, List.map_cons, List.map_nil]); first | done | rfl | (simp only [List.length_drop, List.length_take]; rfl) | (simp only [ByteArray.size_append, Int.natCast_add]; rfl) | (rw [B.dO] <;> first | rfl | omega | (simp only [decide_eq_false_iff_not, decide_eq_true_eq, Int.not_lt, Nat.not_lt, gt_iff_lt] at * <;> omega))) ?_; (with_reducible refine (bC.calls a0 a1 a2 t160 true _ A5.out).mono ?_); rintro e w' ⟨rfl, ⟨nd, rfl⟩⟩; refine ⟨_, rfl, ?_⟩) | ((with_reducible refine aQ (f := 106) rfl ?_); refine bP (some 29) rfl rfl Try.func106 (by kernel_rfl) rfl #[.int .i64 a3] rfl (by (try simp only [List.map_toArray, List.map_cons, List.map_nil]); first | done | rfl | (simp only [List.length_drop, List.length_take]; rfl) | (simp only [ByteArray.size_append, Int.natCast_add]; rfl) | (rw [B.dO] <;> first | rfl | omega | (simp only [decide_eq_false_iff_not, decide_eq_true_eq, Int.not_lt, Nat.not_lt, gt_iff_lt] at * <;> omega))) ?_; (with_reducible refine (aH.calls k a3 t162 kD t164 _ A7.out).mono ?_); rintro e w16 ⟨rfl, hb⟩; refine ⟨_, rfl, ?_⟩; have dZ := aj.mk (bE (by repeat (first | (with_reducible first | exact HB.out | apply ak | apply ah | apply au) | exact HB.out)) hb); clear HB; have HB := dZ; clear dZ; (try clear hb); (try clear hb2); (try clear hk); (try clear hi)) | ((with_reducible refine gF (N := 12) rfl ?_); (try (refine jm (by rfl) ?_; dsimp only)); refine fP ?hg (N := 12) ?hd (cs := #[.int .i64 0, .int .i64 0, .int .i64 0]) (t := 142) ?hr ?_; (case hd => rfl); (case hg => rfl); (case hr => first | (go_simp; done) | (go_simp; rfl)); intro dL hg w17 gT hb; have dZ := aj.mk (bE (by repeat (first | (with_reducible first | exact HB.out | apply ak | apply ah | apply au) | exact HB.out)) hb); have gW := aj.mk (gT); have iZ := aj.mk ((by rw [hg]; exact (bL (by repeat (first | (with_reducible first | exact HB.out | apply ak | apply ah | apply au) | exact HB.out))) : w.heap.size ≤ dL)); have jF := aj.mk ((by rw [hg]; exact (bL (by repeat (first | (with_reducible first | exact HB.out | apply ak | apply ah | apply au) | exact HB.out))) : w.heap.size ≤ dL)); clear HB; have HB := dZ; have bT := gW; have zW := iZ; have kF := jF; clear dZ gW iZ jF; clear hb gT hg; have GH : w17.cell? ⟨dL, 0, none⟩ = some (.int .i64 0) := (aM bT.out 0).trans rfl; have GI : w17.cell? ⟨dL, 1, none⟩ = some (.int .i64 0) := (aM bT.out 1).trans rfl; have GJ : w17.cell? ⟨dL, 2, none⟩ = some (.int .i64 0) := (aM bT.out 2).trans rfl; have GK := ay bT.out 0; have GL := ay bT.out 1; have GN := ay bT.out 2) | (go_at_call 117; (with_reducible refine (bn.calls k t160 true _ QL.out).mono ?_); rintro e w' ⟨rfl, ⟨nd, rfl⟩⟩))
            go_ret2
            exact ⟨by first | rfl | (simp [aJ, aK] <;> rfl) | (simp [*, aJ, aK] <;> rfl), by repeat (first | (with_reducible first | exact HB.out | apply ak | apply ah | apply au | refine aR ?_ kF.out) | exact HB.out)⟩
        · replace c11 := Bool.eq_false_iff.mpr c11
          subst c11
          have H1 : (some ((⟨#[]⟩ : ByteArray), 4)) = some (r1, r2) := by rw [if_neg (show ¬ (false = true) by decide)] at H; exact H
          clear H
          have H := H1
          clear H1
          simp only [Option.some.injEq, Prod.mk.injEq] at H
          obtain ⟨rfl, rfl⟩ := H
          go_enter Try.func104, Try.ntmps104
          go_wp2_with (first | ((with_reducible refine aQ (f := 99) rfl ?_); refine bP (some 23) rfl rfl Try.func99 (by kernel_rfl) rfl #[.string a0, .int .i64 a1, .int .i64 a2] rfl (by (try simp only [List.map_toArray, List.map_cons, List.map_nil]); first | done | rfl | (simp only [List.length_drop, List.length_take]; rfl) | (simp only [ByteArray.size_append, Int.natCast_add]; rfl) | (rw [B.dO] <;> first | rfl | omega | (simp only [decide_eq_false_iff_not, decide_eq_true_eq, Int.not_lt, Nat.not_lt, gt_iff_lt] at * <;> omega))) ?_; (with_reducible refine (bC.calls a0 a1 a2 t160 true _ A5.out).mono ?_); rintro e w' ⟨rfl, ⟨nd, rfl⟩⟩; refine ⟨_, rfl, ?_⟩) | ((with_reducible refine aQ (f := 106) rfl ?_); refine bP (some 29) rfl rfl Try.func106 (by kernel_rfl) rfl #[.int .i64 a3] rfl (by (try simp only [List.map_toArray, List.map_cons, List.map_nil]); first | done | rfl | (simp only [List.length_drop, List.length_take]; rfl) | (simp only [ByteArray.size_append, Int.natCast_add]; rfl) | (rw [B.dO] <;> first | rfl | omega | (simp only [decide_eq_false_iff_not, decide_eq_true_eq, Int.not_lt, Nat.not_lt, gt_iff_lt] at * <;> omega))) ?_; (with_reducible refine (aH.calls k a3 t162 kD t164 _ A7.out).mono ?_); rintro e w19 ⟨rfl, hb⟩; refine ⟨_, rfl, ?_⟩; have dZ := aj.mk (bE (by repeat (first | (with_reducible first | exact HB.out | apply ak | apply ah | apply au) | exact HB.out)) hb); clear HB; have HB := dZ; clear dZ; (try clear hb); (try clear hb2); (try clear hk); (try clear hi)) | ((with_reducible refine gF (N := 12) rfl ?_); (try (refine jm (by rfl) ?_; dsimp only)); refine fP ?hg (N := 12) ?hd (cs := #[.int .i64 0, .int .i64 0, .int .i64 0]) (t := 142) ?hr ?_; (case hd => rfl); (case hg => rfl); (case hr => first | (go_simp; done) | (go_simp; rfl)); intro dL hg w20 gT hb; have dZ := aj.mk (bE (by repeat (first | (with_reducible first | exact HB.out | apply ak | apply ah | apply au) | exact HB.out)) hb); have gW := aj.mk (gT); have iZ := aj.mk ((by rw [hg]; exact (bL (by repeat (first | (with_reducible first | exact HB.out | apply ak | apply ah | apply au) | exact HB.out))) : w.heap.size ≤ dL)); have jF := aj.mk ((by rw [hg]; exact (bL (by repeat (first | (with_reducible first | exact HB.out | apply ak | apply ah | apply au) | exact HB.out))) : w.heap.size ≤ dL)); clear HB; have HB := dZ; have bT := gW; have zW := iZ; have kF := jF; clear dZ gW iZ jF; clear hb gT hg; have OM : w20.cell? ⟨dL, 0, none⟩ = some (.int .i64 0) := (aM bT.out 0).trans rfl; have OO : w20.cell? ⟨dL, 1, none⟩ = some (.int .i64 0) := (aM bT.out 1).trans rfl; have OP : w20.cell? ⟨dL, 2, none⟩ = some (.int .i64 0) := (aM bT.out 2).trans rfl; have OQ := ay bT.out 0; have OT := ay bT.out 1; have OU := ay bT.out 2) | (go_at_call 117; (with_reducible refine (bn.calls k t160 false _ QL.out).mono ?_); rintro e w' ⟨rfl, ⟨nd, rfl⟩⟩))
          go_ret2
          exact ⟨by first | rfl | (simp [aJ, aK] <;> rfl) | (simp [*, aJ, aK] <;> rfl), by repeat (first | (with_reducible first | exact HB.out | apply ak | apply ah | apply au | refine aR ?_ kF.out) | exact HB.out)⟩
      · rw [if_neg c9] at H
        have tq : (a3 == 16) = false := beq_eq_false_iff_ne.mpr c9
        have DC : (a3 != 16) = true := bne_iff_ne.mpr c9
        by_cases BU : (t160.size : Int) > 65535
        · rw [if_pos BU] at H
          have LQ : decide (65535 < (t160.size : Int)) = true := decide_eq_true BU
          have LU : decide (65535 < t160.size) = true := decide_eq_true (by omega)
          clear BU
          simp only [Option.some.injEq, Prod.mk.injEq] at H
          obtain ⟨rfl, rfl⟩ := H
          go_enter Try.func104, Try.ntmps104
          go_wp2_with (first | ((with_reducible refine aQ (f := 99) rfl ?_); refine bP (some 23) rfl rfl Try.func99 (by kernel_rfl) rfl #[.string a0, .int .i64 a1, .int .i64 a2] rfl (by (try simp only [List.map_toArray, List.map_cons, List.map_nil]); first | done | rfl | (simp only [List.length_drop, List.length_take]; rfl) | (simp only [ByteArray.size_append, Int.natCast_add]; rfl) | (rw [B.dO] <;> first | rfl | omega | (simp only [decide_eq_false_iff_not, decide_eq_true_eq, Int.not_lt, Nat.not_lt, gt_iff_lt] at * <;> omega))) ?_; (with_reducible refine (bC.calls a0 a1 a2 t160 true _ A5.out).mono ?_); rintro e w' ⟨rfl, ⟨nd, rfl⟩⟩; refine ⟨_, rfl, ?_⟩) | ((with_reducible refine aQ (f := 106) rfl ?_); refine bP (some 29) rfl rfl Try.func106 (by kernel_rfl) rfl #[.int .i64 a3] rfl (by (try simp only [List.map_toArray, List.map_cons, List.map_nil]); first | done | rfl | (simp only [List.length_drop, List.length_take]; rfl) | (simp only [ByteArray.size_append, Int.natCast_add]; rfl) | (rw [B.dO] <;> first | rfl | omega | (simp only [decide_eq_false_iff_not, decide_eq_true_eq, Int.not_lt, Nat.not_lt, gt_iff_lt] at * <;> omega))) ?_; (with_reducible refine (aH.calls k a3 t162 kD t164 _ A7.out).mono ?_); rintro e w23 ⟨rfl, hb⟩; refine ⟨_, rfl, ?_⟩; have dZ := aj.mk (bE (by repeat (first | (with_reducible first | exact HB.out | apply ak | apply ah | apply au) | exact HB.out)) hb); clear HB; have HB := dZ; clear dZ; (try clear hb); (try clear hb2); (try clear hk); (try clear hi)) | ((with_reducible refine gF (N := 12) rfl ?_); (try (refine jm (by rfl) ?_; dsimp only)); refine fP ?hg (N := 12) ?hd (cs := #[.int .i64 0, .int .i64 0, .int .i64 0]) (t := 142) ?hr ?_; (case hd => rfl); (case hg => rfl); (case hr => first | (go_simp; done) | (go_simp; rfl)); intro dL hg w24 gT hb; have dZ := aj.mk (bE (by repeat (first | (with_reducible first | exact HB.out | apply ak | apply ah | apply au) | exact HB.out)) hb); have gW := aj.mk (gT); have iZ := aj.mk ((by rw [hg]; exact (bL (by repeat (first | (with_reducible first | exact HB.out | apply ak | apply ah | apply au) | exact HB.out))) : w.heap.size ≤ dL)); have jF := aj.mk ((by rw [hg]; exact (bL (by repeat (first | (with_reducible first | exact HB.out | apply ak | apply ah | apply au) | exact HB.out))) : w.heap.size ≤ dL)); clear HB; have HB := dZ; have bT := gW; have zW := iZ; have kF := jF; clear dZ gW iZ jF; clear hb gT hg; have OV : w24.cell? ⟨dL, 0, none⟩ = some (.int .i64 0) := (aM bT.out 0).trans rfl; have OW : w24.cell? ⟨dL, 1, none⟩ = some (.int .i64 0) := (aM bT.out 1).trans rfl; have OX : w24.cell? ⟨dL, 2, none⟩ = some (.int .i64 0) := (aM bT.out 2).trans rfl; have OY := ay bT.out 0; have OZ := ay bT.out 1; have O1 := ay bT.out 2))
          go_ret2
          exact ⟨by first | rfl | (simp [aJ, aK] <;> rfl) | (simp [*, aJ, aK] <;> rfl), by repeat (first | (with_reducible first | exact HB.out | apply ak | apply ah | apply au | refine aR ?_ kF.out) | exact HB.out)⟩
        · rw [if_neg BU] at H
          have LQ : decide (65535 < (t160.size : Int)) = false := decide_eq_false BU
          have LU : decide (65535 < t160.size) = false := decide_eq_false (by omega)
          clear BU
          simp only [Option.some.injEq, Prod.mk.injEq] at H
          obtain ⟨rfl, rfl⟩ := H
          go_enter Try.func104, Try.ntmps104
          go_wp2_with (first | ((with_reducible refine aQ (f := 99) rfl ?_); refine bP (some 23) rfl rfl Try.func99 (by kernel_rfl) rfl #[.string a0, .int .i64 a1, .int .i64 a2] rfl (by (try simp only [List.map_toArray, List.map_cons, List.map_nil]); first | done | rfl | (simp only [List.length_drop, List.length_take]; rfl) | (simp only [ByteArray.size_append, Int.natCast_add]; rfl) | (rw [B.dO] <;> first | rfl | omega | (simp only [decide_eq_false_iff_not, decide_eq_true_eq, Int.not_lt, Nat.not_lt, gt_iff_lt] at * <;> omega))) ?_; (with_reducible refine (bC.calls a0 a1 a2 t160 true _ A5.out).mono ?_); rintro e w' ⟨rfl, ⟨nd, rfl⟩⟩; refine ⟨_, rfl, ?_⟩) | ((with_reducible refine aQ (f := 106) rfl ?_); refine bP (some 29) rfl rfl Try.func106 (by kernel_rfl) rfl #[.int .i64 a3] rfl (by (try simp only [List.map_toArray, List.map_cons, List.map_nil]); first | done | rfl | (simp only [List.length_drop, List.length_take]; rfl) | (simp only [ByteArray.size_append, Int.natCast_add]; rfl) | (rw [B.dO] <;> first | rfl | omega | (simp only [decide_eq_false_iff_not, decide_eq_true_eq, Int.not_lt, Nat.not_lt, gt_iff_lt] at * <;> omega))) ?_; (with_reducible refine (aH.calls k a3 t162 kD t164 _ A7.out).mono ?_); rintro e w26 ⟨rfl, hb⟩; refine ⟨_, rfl, ?_⟩; have dZ := aj.mk (bE (by repeat (first | (with_reducible first | exact HB.out | apply ak | apply ah | apply au) | exact HB.out)) hb); clear HB; have HB := dZ; clear dZ; (try clear hb); (try clear hb2); (try clear hk); (try clear hi)) | ((with_reducible refine gF (N := 12) rfl ?_); (try (refine jm (by rfl) ?_; dsimp only)); refine fP ?hg (N := 12) ?hd (cs := #[.int .i64 0, .int .i64 0, .int .i64 0]) (t := 142) ?hr ?_; (case hd => rfl); (case hg => rfl); (case hr => first | (go_simp; done) | (go_simp; rfl)); intro dL hg w27 gT hb; have dZ := aj.mk (bE (by repeat (first | (with_reducible first | exact HB.out | apply ak | apply ah | apply au) | exact HB.out)) hb); have gW := aj.mk (gT); have iZ := aj.mk ((by rw [hg]; exact (bL (by repeat (first | (with_reducible first | exact HB.out | apply ak | apply ah | apply au) | exact HB.out))) : w.heap.size ≤ dL)); have jF := aj.mk ((by rw [hg]; exact (bL (by repeat (first | (with_reducible first | exact HB.out | apply ak | apply ah | apply au) | exact HB.out))) : w.heap.size ≤ dL)); clear HB; have HB := dZ; have bT := gW; have zW := iZ; have kF := jF; clear dZ gW iZ jF; clear hb gT hg; have O4 : w27.cell? ⟨dL, 0, none⟩ = some (.int .i64 0) := (aM bT.out 0).trans rfl; have O5 : w27.cell? ⟨dL, 1, none⟩ = some (.int .i64 0) := (aM bT.out 1).trans rfl; have O6 : w27.cell? ⟨dL, 2, none⟩ = some (.int .i64 0) := (aM bT.out 2).trans rfl; have O7 := ay bT.out 0; have O8 := ay bT.out 1; have O9 := ay bT.out 2))
          go_ret2
          exact ⟨by first | rfl | (simp [aJ, aK] <;> rfl) | (simp [*, aJ, aK] <;> rfl), by repeat (first | (with_reducible first | exact HB.out | apply ak | apply ah | apply au | refine aR ?_ kF.out) | exact HB.out)⟩
    · rw [if_neg c8] at H
      have qZ : (t162 == 0 && (kD == 0 && (t164 == 0))) = false := by simpa using c8
      (try (have q8 : decide (t162 = 0 && (kD == 0 && (t164 == 0))) = false := by simpa using c8))
      (try (have Lh : (t162 == 0 && (kD == 0 && (t164 == 0))) = false := by simpa using c8))
      (try (have X4 : ¬ (t162 = 0 && (kD == 0 && (t164 == 0))) := by simpa using c8))
      clear c8
      by_cases Hz : t162 > a2
      · rw [if_pos Hz] at H
        have QV : decide (a2 < t162) = true := decide_eq_true Hz
        clear Hz
        simp only [Option.some.injEq, Prod.mk.injEq] at H
        obtain ⟨rfl, rfl⟩ := H
        go_enter Try.func104, Try.ntmps104
        go_wp2_with (first | ((with_reducible refine aQ (f := 99) rfl ?_); refine bP (some 23) rfl rfl Try.func99 (by kernel_rfl) rfl #[.string a0, .int .i64 a1, .int .i64 a2] rfl (by (try simp only [List.map_toArray, List.map_cons, List.map_nil]); first | done | rfl | (simp only [List.length_drop, List.length_take]; rfl) | (simp only [ByteArray.size_append, Int.natCast_add]; rfl) | (rw [B.dO] <;> first | rfl | omega | (simp only [decide_eq_false_iff_not, decide_eq_true_eq, Int.not_lt, Nat.not_lt, gt_iff_lt] at * <;> omega))) ?_; (with_reducible refine (bC.calls a0 a1 a2 t160 true _ A5.out).mono ?_); rintro e w' ⟨rfl, ⟨nd, rfl⟩⟩; refine ⟨_, rfl, ?_⟩) | ((with_reducible refine aQ (f := 106) rfl ?_); refine bP (some 29) rfl rfl Try.func106 (by kernel_rfl) rfl #[.int .i64 a3] rfl (by (try simp only [List.map_toArray, List.map_cons, List.map_nil]); first | done | rfl | (simp only [List.length_drop, List.length_take]; rfl) | (simp only [ByteArray.size_append, Int.natCast_add]; rfl) | (rw [B.dO] <;> first | rfl | omega | (simp only [decide_eq_false_iff_not, decide_eq_true_eq, Int.not_lt, Nat.not_lt, gt_iff_lt] at * <;> omega))) ?_; (with_reducible refine (aH.calls k a3 t162 kD t164 _ A7.out).mono ?_); rintro e w30 ⟨rfl, hb⟩; refine ⟨_, rfl, ?_⟩; have dZ := aj.mk (bE (by repeat (first | (with_reducible first | exact HB.out | apply ak | apply ah | apply au) | exact HB.out)) hb); clear HB; have HB := dZ; clear dZ; (try clear hb); (try clear hb2); (try clear hk); (try clear hi)) | ((with_reducible refine gF (N := 12) rfl ?_); (try (refine jm (by rfl) ?_; dsimp only)); refine fP ?hg (N := 12) ?hd (cs := #[.int .i64 0, .int .i64 0, .int .i64 0]) (t := 142) ?hr ?_; (case hd => rfl); (case hg => rfl); (case hr => first | (go_simp; done) | (go_simp; rfl)); intro dL hg w31 gT hb; have dZ := aj.mk (bE (by repeat (first | (with_reducible first | exact HB.out | apply ak | apply ah | apply au) | exact HB.out)) hb); have gW := aj.mk (gT); have iZ := aj.mk ((by rw [hg]; exact (bL (by repeat (first | (with_reducible first | exact HB.out | apply ak | apply ah | apply au) | exact HB.out))) : w.heap.size ≤ dL)); have jF := aj.mk ((by rw [hg]; exact (bL (by repeat (first | (with_reducible first | exact HB.out | apply ak | apply ah | apply au) | exact HB.out))) : w.heap.size ≤ dL)); clear HB; have HB := dZ; have bT := gW; have zW := iZ; have kF := jF; clear dZ gW iZ jF; clear hb gT hg; have Gw : w31.cell? ⟨dL, 0, none⟩ = some (.int .i64 0) := (aM bT.out 0).trans rfl; have Gx : w31.cell? ⟨dL, 1, none⟩ = some (.int .i64 0) := (aM bT.out 1).trans rfl; have Gy : w31.cell? ⟨dL, 2, none⟩ = some (.int .i64 0) := (aM bT.out 2).trans rfl; have Gz := ay bT.out 0; have GA := ay bT.out 1; have GD := ay bT.out 2))
        go_ret2
        exact ⟨by first | rfl | (simp [aJ, aK] <;> rfl) | (simp [*, aJ, aK] <;> rfl), by repeat (first | (with_reducible first | exact HB.out | apply ak | apply ah | apply au | refine aR ?_ kF.out) | exact HB.out)⟩
      · rw [if_neg Hz] at H
        have QV : decide (a2 < t162) = false := decide_eq_false Hz
        clear Hz
        by_cases Ni : 0 ≤ t162
        · rw [if_pos Ni] at H
          have YX := eq_true Ni
          have YZ : decide (0 ≤ t162) = true := decide_eq_true Ni
          clear Ni
          by_cases c34 : t162 ≤ (t160.size : Int)
          · rw [if_pos c34] at H
            have Y0 := eq_true c34
            have Y1 : decide (t162 ≤ (t160.size : Int)) = true := decide_eq_true c34
            clear c34
            have H' := aj.mk H
            clear H
            go_enter Try.func104, Try.ntmps104
            go_wp2_with (first | ((with_reducible refine aQ (f := 99) rfl ?_); refine bP (some 23) rfl rfl Try.func99 (by kernel_rfl) rfl #[.string a0, .int .i64 a1, .int .i64 a2] rfl (by (try simp only [List.map_toArray, List.map_cons, List.map_nil]); first | done | rfl | (simp only [List.length_drop, List.length_take]; rfl) | (simp only [ByteArray.size_append, Int.natCast_add]; rfl) | (rw [B.dO] <;> first | rfl | omega | (simp only [decide_eq_false_iff_not, decide_eq_true_eq, Int.not_lt, Nat.not_lt, gt_iff_lt] at * <;> omega))) ?_; (with_reducible refine (bC.calls a0 a1 a2 t160 true _ A5.out).mono ?_); rintro e w' ⟨rfl, ⟨nd, rfl⟩⟩; refine ⟨_, rfl, ?_⟩) | ((with_reducible refine aQ (f := 106) rfl ?_); refine bP (some 29) rfl rfl Try.func106 (by kernel_rfl) rfl #[.int .i64 a3] rfl (by (try simp only [List.map_toArray, List.map_cons, List.map_nil]); first | done | rfl | (simp only [List.length_drop, List.length_take]; rfl) | (simp only [ByteArray.size_append, Int.natCast_add]; rfl) | (rw [B.dO] <;> first | rfl | omega | (simp only [decide_eq_false_iff_not, decide_eq_true_eq, Int.not_lt, Nat.not_lt, gt_iff_lt] at * <;> omega))) ?_; (with_reducible refine (aH.calls k a3 t162 kD t164 _ A7.out).mono ?_); rintro e w35 ⟨rfl, hb⟩; refine ⟨_, rfl, ?_⟩; have dZ := aj.mk (bE (by repeat (first | (with_reducible first | exact HB.out | apply ak | apply ah | apply au) | exact HB.out)) hb); clear HB; have HB := dZ; clear dZ; (try clear hb); (try clear hb2); (try clear hk); (try clear hi)) | ((with_reducible refine gF (N := 12) rfl ?_); (try (refine jm (by rfl) ?_; dsimp only)); refine fP ?hg (N := 12) ?hd (cs := #[.int .i64 0, .int .i64 0, .int .i64 0]) (t := 142) ?hr ?_; (case hd => rfl); (case hg => rfl); (case hr => first | (go_simp; done) | (go_simp; rfl)); intro dL hg w36 gT hb; have dZ := aj.mk (bE (by repeat (first | (with_reducible first | exact HB.out | apply ak | apply ah | apply au) | exact HB.out)) hb); have gW := aj.mk (gT); have iZ := aj.mk ((by rw [hg]; exact (bL (by repeat (first | (with_reducible first | exact HB.out | apply ak | apply ah | apply au) | exact HB.out))) : w.heap.size ≤ dL)); have jF := aj.mk ((by rw [hg]; exact (bL (by repeat (first | (with_reducible first | exact HB.out | apply ak | apply ah | apply au) | exact HB.out))) : w.heap.size ≤ dL)); clear HB; have HB := dZ; have bT := gW; have zW := iZ; have kF := jF; clear dZ gW iZ jF; clear hb gT hg; have Pb : w36.cell? ⟨dL, 0, none⟩ = some (.int .i64 0) := (aM bT.out 0).trans rfl; have Pf : w36.cell? ⟨dL, 1, none⟩ = some (.int .i64 0) := (aM bT.out 1).trans rfl; have Pg : w36.cell? ⟨dL, 2, none⟩ = some (.int .i64 0) := (aM bT.out 2).trans rfl; have Ph := ay bT.out 0; have Pj := ay bT.out 1; have Pk := ay bT.out 2))
            go_loopg [13, 14, 15] k (fun kq v13 v14 v15 w' => ∃ (dF : ByteArray) (bQ : Int) (vB : Int), v13 = .string dF ∧ v14 = .int .i64 bQ ∧ v15 = .int .i64 vB ∧ aj (aX.l0 kq a0 a1 a2 dF bQ vB t162 kD t164 = some (r1, r2)) ∧ aj (kq ≤ k) ∧ aj (w'.heap[dL]? = some (.cells #[.int .i64 t162, .int .i64 kD, .int .i64 t164] 142 (0, 0))) ∧ aj (Below w.heap.size w w'))
            case atStart => exact ⟨(t160.extract 0 (t162 : Int).toNat), (wrap64 (a1 + t162)), (0), (by first | rfl | (simp; done) | (simp [*]; done) | (simp [B.aV]; done) | (simp [B.aW]; done)), (by first | rfl | (simp; done) | (simp [*]; done) | (simp [B.aV]; done) | (simp [B.aW]; done)), (by first | rfl | (simp; done) | (simp [*]; done) | (simp [B.aV]; done) | (simp [B.aW]; done)), H', ⟨Nat.le_refl _⟩, ⟨by (with_reducible repeat (first | refine aG ?_ _ | refine aI ?_ | refine aA ?_ _)); refine bU (cs := #[.int .i64 t162, .int .i64 kD, .int .i64 0]) ?_ 2 _ rfl; (with_reducible repeat (first | refine aG ?_ _ | refine aI ?_ | refine aA ?_ _)); refine bU (cs := #[.int .i64 t162, .int .i64 0, .int .i64 0]) ?_ 1 _ rfl; (with_reducible repeat (first | refine aG ?_ _ | refine aI ?_ | refine aA ?_ _)); refine bU (cs := #[.int .i64 0, .int .i64 0, .int .i64 0]) ?_ 0 _ rfl; (with_reducible repeat (first | refine aG ?_ _ | refine aI ?_ | refine aA ?_ _)); exact bT.out⟩, ⟨by repeat (first | (with_reducible first | exact HB.out | apply ak | apply ah | apply au | refine aR ?_ kF.out) | exact HB.out)⟩⟩
            case round =>
              clear H'
              try clear c1
              try clear c2
              try clear p2
              try clear c3
              try clear c6
              try clear p6
              try clear c8
              try clear qZ
              try clear q8
              try clear Lh
              try clear c9
              try clear tq
              try clear DC
              try clear c10
              try clear c11
              try clear c12
              try clear tu
              try clear tC
              try clear BU
              try clear LQ
              try clear LU
              try clear Hz
              try clear QV
              try clear Ni
              try clear YX
              try clear YZ
              try clear c34
              try clear Y0
              try clear Y1
              try clear BG
              try clear BH
              try clear BI
              try clear GH
              try clear GI
              try clear GJ
              try clear OM
              try clear OO
              try clear OP
              try clear OV
              try clear OW
              try clear OX
              try clear O4
              try clear O5
              try clear O6
              try clear Gw
              try clear Gx
              try clear Gy
              try clear Pb
              try clear Pf
              try clear Pg
              try clear BJ
              try clear BK
              try clear BL
              try clear GK
              try clear GL
              try clear GN
              try clear OQ
              try clear OT
              try clear OU
              try clear OY
              try clear OZ
              try clear O1
              try clear O7
              try clear O8
              try clear O9
              try clear Gz
              try clear GA
              try clear GD
              try clear Ph
              try clear Pj
              try clear Pk
              obtain ⟨dF, bQ, vB, rfl, rfl, rfl, HA, sZ, bT, HB⟩ := hrel
              cases gk with
              | zero => exact absurd HA.out (by simp [aX.l0])
              | succ k1 =>
                have H := HA.out
                clear HA
                simp only [aX.l0] at H
                by_cases Jg : vB < kD
                · rw [if_pos Jg] at H
                  have QT : decide (vB < kD) = true := decide_eq_true Jg
                  clear Jg
                  replace H := zbm H
                  obtain ⟨⟨t167, t168, DV⟩, Y2, H⟩ := H
                  replace H : (if DV = 0 then (if dF.size + t167.size ≤ 9223372036854775807 then (aX.l0 k1 a0 a1 a2 (dF ++ t167) t168 (wrap64 (vB + 1)) t162 kD t164) else (none)) else (some ((⟨#[]⟩ : ByteArray), 4))) = some (r1, r2) := H
                  have A39 := aj.mk Y2
                  clear Y2
                  by_cases c40 : DV = 0
                  · rw [if_pos c40] at H
                    have Y3 : (DV == 0) = true := beq_iff_eq.mpr c40
                    have Y4 : (DV != 0) = false := bne_eq_false_iff_eq.mpr c40
                    clear c40
                    by_cases Y5 : dF.size + t167.size ≤ 9223372036854775807
                    · rw [if_pos Y5] at H
                      have afL := eq_true Y5
                      have afM : decide (dF.size + t167.size ≤ 9223372036854775807) = true := decide_eq_true Y5
                      try have afN : (9223372036854775807 < dF.size + t167.size) = False := eq_false (Nat.not_lt.2 Y5)
                      have H' := aj.mk H
                      clear H
                      have OC : wr.cell? ⟨dL, 0, none⟩ = some (.int .i64 t162) := (aM bT.out 0).trans rfl
                      have OD : wr.cell? ⟨dL, 1, none⟩ = some (.int .i64 kD) := (aM bT.out 1).trans rfl
                      have OE : wr.cell? ⟨dL, 2, none⟩ = some (.int .i64 t164) := (aM bT.out 2).trans rfl
                      have OG := ay bT.out 0
                      have OH := ay bT.out 1
                      have OI := ay bT.out 2
                      go_wp2_with (first | ((with_reducible refine aQ (f := 118) rfl ?_); refine bP (some 67) rfl rfl Try.func118 (by kernel_rfl) rfl #[.string a0, .int .i64 bQ] rfl (by (try simp only [List.map_toArray, List.map_cons, List.map_nil]); first | done | rfl | (simp only [List.length_drop, List.length_take]; rfl) | (simp only [ByteArray.size_append, Int.natCast_add]; rfl) | (rw [B.dO] <;> first | rfl | omega | (simp only [decide_eq_false_iff_not, decide_eq_true_eq, Int.not_lt, Nat.not_lt, gt_iff_lt] at * <;> omega))) ?_; (with_reducible refine (aU.calls k1 a0 bQ t167 t168 DV _ A39.out).mono ?_); rintro e w' ⟨rfl, ⟨nd, rfl⟩⟩; refine ⟨_, rfl, ?_⟩))
                      go_roundg k1
                      case measure => have := sZ.out; omega
                      case rel => exact ⟨(dF ++ t167), (t168), (wrap64 (vB + 1)), (by first | rfl | (simp; done) | (simp [*]; done) | (simp [B.aV]; done) | (simp [B.aW]; done)), (by first | rfl | (simp; done) | (simp [*]; done) | (simp [B.aV]; done) | (simp [B.aW]; done)), (by first | rfl | (simp; done) | (simp [*]; done) | (simp [B.aV]; done) | (simp [B.aW]; done)), H', ⟨by have := sZ.out; omega⟩, ⟨by (with_reducible repeat (first | refine aG ?_ _ | refine aI ?_ | refine aA ?_ _)); exact bT.out⟩, ⟨by repeat (first | (with_reducible first | exact HB.out | apply ak | apply ah | apply au | refine aR ?_ kF.out) | exact HB.out)⟩⟩
                    · rw [if_neg Y5] at H
                      exact absurd H (by simp)
                  · rw [if_neg c40] at H
                    have Y3 : (DV == 0) = false := beq_eq_false_iff_ne.mpr c40
                    have Y4 : (DV != 0) = true := bne_iff_ne.mpr c40
                    simp only [Option.some.injEq, Prod.mk.injEq] at H
                    obtain ⟨rfl, rfl⟩ := H
                    have abS : wr.cell? ⟨dL, 0, none⟩ = some (.int .i64 t162) := (aM bT.out 0).trans rfl
                    have abT : wr.cell? ⟨dL, 1, none⟩ = some (.int .i64 kD) := (aM bT.out 1).trans rfl
                    have abU : wr.cell? ⟨dL, 2, none⟩ = some (.int .i64 t164) := (aM bT.out 2).trans rfl
                    have abV := ay bT.out 0
                    have abW := ay bT.out 1
                    have abX := ay bT.out 2
                    go_wp2_with (first | ((with_reducible refine aQ (f := 118) rfl ?_); refine bP (some 67) rfl rfl Try.func118 (by kernel_rfl) rfl #[.string a0, .int .i64 bQ] rfl (by (try simp only [List.map_toArray, List.map_cons, List.map_nil]); first | done | rfl | (simp only [List.length_drop, List.length_take]; rfl) | (simp only [ByteArray.size_append, Int.natCast_add]; rfl) | (rw [B.dO] <;> first | rfl | omega | (simp only [decide_eq_false_iff_not, decide_eq_true_eq, Int.not_lt, Nat.not_lt, gt_iff_lt] at * <;> omega))) ?_; (with_reducible refine (aU.calls k1 a0 bQ t167 t168 DV _ A39.out).mono ?_); rintro e w' ⟨rfl, ⟨nd, rfl⟩⟩; refine ⟨_, rfl, ?_⟩))
                    go_ret2
                    exact ⟨by first | rfl | (simp [aJ, aK] <;> rfl) | (simp [*, aJ, aK] <;> rfl), by repeat (first | (with_reducible first | exact HB.out | apply ak | apply ah | apply au | refine aR ?_ kF.out) | exact HB.out)⟩
                · rw [if_neg Jg] at H
                  have QT : decide (vB < kD) = false := decide_eq_false Jg
                  clear Jg
                  by_cases LV : (wrap64 (bQ + t164)) = (wrap64 (a1 + a2))
                  · rw [if_pos LV] at H
                    have Y6 : ((wrap64 (bQ + t164)) == (wrap64 (a1 + a2))) = true := beq_iff_eq.mpr LV
                    have Y7 : ((wrap64 (bQ + t164)) != (wrap64 (a1 + a2))) = false := bne_eq_false_iff_eq.mpr LV
                    (try (have Y8 : (((bQ + t164)) == ((a1 + a2))) = true := by have h_ : ((wrap64 (bQ + t164)) == (wrap64 (a1 + a2))) = true := beq_iff_eq.mpr LV; rw [B.dO (by omega) (by omega)] at h_; rw [B.dO (by omega) (by omega)] at h_; exact h_))
                    (try (have Y9 : (((bQ + t164)) != ((a1 + a2))) = false := by have h_ : ((wrap64 (bQ + t164)) != (wrap64 (a1 + a2))) = false := bne_eq_false_iff_eq.mpr LV; rw [B.dO (by omega) (by omega)] at h_; rw [B.dO (by omega) (by omega)] at h_; exact h_))
                    clear LV
                    by_cases Za : 0 ≤ bQ
                    · rw [if_pos Za] at H
                      have afO := eq_true Za
                      have afP : decide (0 ≤ bQ) = true := decide_eq_true Za
                      clear Za
                      by_cases c46 : bQ ≤ (wrap64 (a1 + a2))
                      · rw [if_pos c46] at H
                        have afQ := eq_true c46
                        have afR : decide (bQ ≤ (wrap64 (a1 + a2))) = true := decide_eq_true c46
                        by_cases c47 : (wrap64 (a1 + a2)) ≤ (a0.size : Int)
                        · rw [if_pos c47] at H
                          have afS := eq_true c47
                          have afT : decide ((wrap64 (a1 + a2)) ≤ (a0.size : Int)) = true := decide_eq_true c47
                          by_cases Zb : dF.size + (a0.extract (bQ : Int).toNat ((wrap64 (a1 + a2)) : Int).toNat).size ≤ 9223372036854775807
                          · rw [if_pos Zb] at H
                            have afU := eq_true Zb
                            have afV : decide (dF.size + (a0.extract (bQ : Int).toNat ((wrap64 (a1 + a2)) : Int).toNat).size ≤ 9223372036854775807) = true := decide_eq_true Zb
                            try have afW : (9223372036854775807 < dF.size + (a0.extract (bQ : Int).toNat ((wrap64 (a1 + a2)) : Int).toNat).size) = False := eq_false (Nat.not_lt.2 Zb)
                            by_cases c49 : ((dF ++ (a0.extract (bQ : Int).toNat ((wrap64 (a1 + a2)) : Int).toNat)).size : Int) > 65535
                            · rw [if_pos c49] at H
                              have Zc : decide (65535 < ((dF ++ (a0.extract (bQ : Int).toNat ((wrap64 (a1 + a2)) : Int).toNat)).size : Int)) = true := decide_eq_true c49
                              have Zd : decide (65535 < (dF ++ (a0.extract (bQ : Int).toNat ((wrap64 (a1 + a2)) : Int).toNat)).size) = true := decide_eq_true (by omega)
                              (try (have Ze : decide (65535 < ((dF.size : Int) + ((a0.extract (bQ : Int).toNat ((wrap64 (a1 + a2)) : Int).toNat).size : Int))) = true := by have h_ : decide (65535 < ((dF ++ (a0.extract (bQ : Int).toNat ((wrap64 (a1 + a2)) : Int).toNat)).size : Int)) = true := decide_eq_true c49; rw [show ((dF ++ (a0.extract (bQ : Int).toNat ((wrap64 (a1 + a2)) : Int).toNat)).size : Int) = ((dF.size : Int) + ((a0.extract (bQ : Int).toNat ((wrap64 (a1 + a2)) : Int).toNat).size : Int)) from by (simp only [ByteArray.size_append, Int.natCast_add]; first | done | rfl)] at h_; (first | exact h_ | (simp only [Int.add_sub_cancel] at h_; exact h_))))
                              (try (have Zf : decide (65535 < ((dF.size : Int) + ((((wrap64 (a1 + a2)) : Int).toNat - (bQ : Int).toNat : Nat) : Int))) = true := by have h_ : decide (65535 < ((dF ++ (a0.extract (bQ : Int).toNat ((wrap64 (a1 + a2)) : Int).toNat)).size : Int)) = true := decide_eq_true c49; rw [show ((dF ++ (a0.extract (bQ : Int).toNat ((wrap64 (a1 + a2)) : Int).toNat)).size : Int) = ((dF.size : Int) + ((a0.extract (bQ : Int).toNat ((wrap64 (a1 + a2)) : Int).toNat).size : Int)) from by (simp only [ByteArray.size_append, Int.natCast_add]; first | done | rfl)] at h_; rw [show ((a0.extract (bQ : Int).toNat ((wrap64 (a1 + a2)) : Int).toNat).size : Int) = ((((wrap64 (a1 + a2)) : Int).toNat - (bQ : Int).toNat : Nat) : Int) from by (have h1_ : (wrap64 (a1 + a2)) ≤ (a0.size : Int) := of_decide_eq_true (by assumption); rw [ByteArray.size_extract]; omega)] at h_; exact h_))
                              (try (have Zg : decide (65535 < ((dF ++ (a0.extract (bQ : Int).toNat (((a1 + a2)) : Int).toNat)).size : Int)) = true := by have h_ : decide (65535 < ((dF ++ (a0.extract (bQ : Int).toNat ((wrap64 (a1 + a2)) : Int).toNat)).size : Int)) = true := decide_eq_true c49; rw [B.dO (by omega) (by omega)] at h_; exact h_))
                              (try (have Zh : decide (65535 < (dF ++ (a0.extract (bQ : Int).toNat (((a1 + a2)) : Int).toNat)).size) = true := by have h_ : decide (65535 < (dF ++ (a0.extract (bQ : Int).toNat ((wrap64 (a1 + a2)) : Int).toNat)).size) = true := decide_eq_true (by omega); rw [B.dO (by omega) (by omega)] at h_; exact h_))
                              (try (have Zi : decide (65535 < ((dF.size : Int) + ((a0.extract (bQ : Int).toNat (((a1 + a2)) : Int).toNat).size : Int))) = true := by have h_ : decide (65535 < ((dF.size : Int) + ((a0.extract (bQ : Int).toNat ((wrap64 (a1 + a2)) : Int).toNat).size : Int))) = true := by have h_ : decide (65535 < ((dF ++ (a0.extract (bQ : Int).toNat ((wrap64 (a1 + a2)) : Int).toNat)).size : Int)) = true := decide_eq_true c49; rw [show ((dF ++ (a0.extract (bQ : Int).toNat ((wrap64 (a1 + a2)) : Int).toNat)).size : Int) = ((dF.size : Int) + ((a0.extract (bQ : Int).toNat ((wrap64 (a1 + a2)) : Int).toNat).size : Int)) from by (simp only [ByteArray.size_append, Int.natCast_add]; first | done | rfl)] at h_; (first | exact h_ | (simp only [Int.add_sub_cancel] at h_; exact h_)); rw [B.dO (by omega) (by omega)] at h_; exact h_))
                              (try (have Zj : decide (65535 < ((dF.size : Int) + (((((a1 + a2)) : Int).toNat - (bQ : Int).toNat : Nat) : Int))) = true := by have h_ : decide (65535 < ((dF.size : Int) + ((((wrap64 (a1 + a2)) : Int).toNat - (bQ : Int).toNat : Nat) : Int))) = true := by have h_ : decide (65535 < ((dF ++ (a0.extract (bQ : Int).toNat ((wrap64 (a1 + a2)) : Int).toNat)).size : Int)) = true := decide_eq_true c49; rw [show ((dF ++ (a0.extract (bQ : Int).toNat ((wrap64 (a1 + a2)) : Int).toNat)).size : Int) = ((dF.size : Int) + ((a0.extract (bQ : Int).toNat ((wrap64 (a1 + a2)) : Int).toNat).size : Int)) from by (simp only [ByteArray.size_append, Int.natCast_add]; first | done | rfl)] at h_; rw [show ((a0.extract (bQ : Int).toNat ((wrap64 (a1 + a2)) : Int).toNat).size : Int) = ((((wrap64 (a1 + a2)) : Int).toNat - (bQ : Int).toNat : Nat) : Int) from by (have h1_ : (wrap64 (a1 + a2)) ≤ (a0.size : Int) := of_decide_eq_true (by assumption); rw [ByteArray.size_extract]; omega)] at h_; exact h_; rw [B.dO (by omega) (by omega)] at h_; exact h_))
                              clear c49
                              simp only [Option.some.injEq, Prod.mk.injEq] at H
                              obtain ⟨rfl, rfl⟩ := H
                              have abY : wr.cell? ⟨dL, 0, none⟩ = some (.int .i64 t162) := (aM bT.out 0).trans rfl
                              have abZ : wr.cell? ⟨dL, 1, none⟩ = some (.int .i64 kD) := (aM bT.out 1).trans rfl
                              have ab0 : wr.cell? ⟨dL, 2, none⟩ = some (.int .i64 t164) := (aM bT.out 2).trans rfl
                              have ab1 := ay bT.out 0
                              have ab2 := ay bT.out 1
                              have ab3 := ay bT.out 2
                              go_wp2
                              go_ret2
                              exact ⟨by first | rfl | (simp [aJ, aK] <;> rfl) | (simp [*, aJ, aK] <;> rfl), by repeat (first | (with_reducible first | exact HB.out | apply ak | apply ah | apply au | refine aR ?_ kF.out) | exact HB.out)⟩
                            · rw [if_neg c49] at H
                              have Zc : decide (65535 < ((dF ++ (a0.extract (bQ : Int).toNat ((wrap64 (a1 + a2)) : Int).toNat)).size : Int)) = false := decide_eq_false c49
                              have Zd : decide (65535 < (dF ++ (a0.extract (bQ : Int).toNat ((wrap64 (a1 + a2)) : Int).toNat)).size) = false := decide_eq_false (by omega)
                              (try (have Ze : decide (65535 < ((dF.size : Int) + ((a0.extract (bQ : Int).toNat ((wrap64 (a1 + a2)) : Int).toNat).size : Int))) = false := by have h_ : decide (65535 < ((dF ++ (a0.extract (bQ : Int).toNat ((wrap64 (a1 + a2)) : Int).toNat)).size : Int)) = false := decide_eq_false c49; rw [show ((dF ++ (a0.extract (bQ : Int).toNat ((wrap64 (a1 + a2)) : Int).toNat)).size : Int) = ((dF.size : Int) + ((a0.extract (bQ : Int).toNat ((wrap64 (a1 + a2)) : Int).toNat).size : Int)) from by (simp only [ByteArray.size_append, Int.natCast_add]; first | done | rfl)] at h_; (first | exact h_ | (simp only [Int.add_sub_cancel] at h_; exact h_))))
                              (try (have Zf : decide (65535 < ((dF.size : Int) + ((((wrap64 (a1 + a2)) : Int).toNat - (bQ : Int).toNat : Nat) : Int))) = false := by have h_ : decide (65535 < ((dF ++ (a0.extract (bQ : Int).toNat ((wrap64 (a1 + a2)) : Int).toNat)).size : Int)) = false := decide_eq_false c49; rw [show ((dF ++ (a0.extract (bQ : Int).toNat ((wrap64 (a1 + a2)) : Int).toNat)).size : Int) = ((dF.size : Int) + ((a0.extract (bQ : Int).toNat ((wrap64 (a1 + a2)) : Int).toNat).size : Int)) from by (simp only [ByteArray.size_append, Int.natCast_add]; first | done | rfl)] at h_; rw [show ((a0.extract (bQ : Int).toNat ((wrap64 (a1 + a2)) : Int).toNat).size : Int) = ((((wrap64 (a1 + a2)) : Int).toNat - (bQ : Int).toNat : Nat) : Int) from by (have h1_ : (wrap64 (a1 + a2)) ≤ (a0.size : Int) := of_decide_eq_true (by assumption); rw [ByteArray.size_extract]; omega)] at h_; exact h_))
                              (try (have Zg : decide (65535 < ((dF ++ (a0.extract (bQ : Int).toNat (((a1 + a2)) : Int).toNat)).size : Int)) = false := by have h_ : decide (65535 < ((dF ++ (a0.extract (bQ : Int).toNat ((wrap64 (a1 + a2)) : Int).toNat)).size : Int)) = false := decide_eq_false c49; rw [B.dO (by omega) (by omega)] at h_; exact h_))
                              (try (have Zh : decide (65535 < (dF ++ (a0.extract (bQ : Int).toNat (((a1 + a2)) : Int).toNat)).size) = false := by have h_ : decide (65535 < (dF ++ (a0.extract (bQ : Int).toNat ((wrap64 (a1 + a2)) : Int).toNat)).size) = false := decide_eq_false (by omega); rw [B.dO (by omega) (by omega)] at h_; exact h_))
                              (try (have Zi : decide (65535 < ((dF.size : Int) + ((a0.extract (bQ : Int).toNat (((a1 + a2)) : Int).toNat).size : Int))) = false := by have h_ : decide (65535 < ((dF.size : Int) + ((a0.extract (bQ : Int).toNat ((wrap64 (a1 + a2)) : Int).toNat).size : Int))) = false := by have h_ : decide (65535 < ((dF ++ (a0.extract (bQ : Int).toNat ((wrap64 (a1 + a2)) : Int).toNat)).size : Int)) = false := decide_eq_false c49; rw [show ((dF ++ (a0.extract (bQ : Int).toNat ((wrap64 (a1 + a2)) : Int).toNat)).size : Int) = ((dF.size : Int) + ((a0.extract (bQ : Int).toNat ((wrap64 (a1 + a2)) : Int).toNat).size : Int)) from by (simp only [ByteArray.size_append, Int.natCast_add]; first | done | rfl)] at h_; (first | exact h_ | (simp only [Int.add_sub_cancel] at h_; exact h_)); rw [B.dO (by omega) (by omega)] at h_; exact h_))
                              (try (have Zj : decide (65535 < ((dF.size : Int) + (((((a1 + a2)) : Int).toNat - (bQ : Int).toNat : Nat) : Int))) = false := by have h_ : decide (65535 < ((dF.size : Int) + ((((wrap64 (a1 + a2)) : Int).toNat - (bQ : Int).toNat : Nat) : Int))) = false := by have h_ : decide (65535 < ((dF ++ (a0.extract (bQ : Int).toNat ((wrap64 (a1 + a2)) : Int).toNat)).size : Int)) = false := decide_eq_false c49; rw [show ((dF ++ (a0.extract (bQ : Int).toNat ((wrap64 (a1 + a2)) : Int).toNat)).size : Int) = ((dF.size : Int) + ((a0.extract (bQ : Int).toNat ((wrap64 (a1 + a2)) : Int).toNat).size : Int)) from by (simp only [ByteArray.size_append, Int.natCast_add]; first | done | rfl)] at h_; rw [show ((a0.extract (bQ : Int).toNat ((wrap64 (a1 + a2)) : Int).toNat).size : Int) = ((((wrap64 (a1 + a2)) : Int).toNat - (bQ : Int).toNat : Nat) : Int) from by (have h1_ : (wrap64 (a1 + a2)) ≤ (a0.size : Int) := of_decide_eq_true (by assumption); rw [ByteArray.size_extract]; omega)] at h_; exact h_; rw [B.dO (by omega) (by omega)] at h_; exact h_))
                              clear c49
                              simp only [Option.some.injEq, Prod.mk.injEq] at H
                              obtain ⟨rfl, rfl⟩ := H
                              have ab4 : wr.cell? ⟨dL, 0, none⟩ = some (.int .i64 t162) := (aM bT.out 0).trans rfl
                              have ab5 : wr.cell? ⟨dL, 1, none⟩ = some (.int .i64 kD) := (aM bT.out 1).trans rfl
                              have ab6 : wr.cell? ⟨dL, 2, none⟩ = some (.int .i64 t164) := (aM bT.out 2).trans rfl
                              have ab7 := ay bT.out 0
                              have ab8 := ay bT.out 1
                              have ab9 := ay bT.out 2
                              go_wp2
                              go_ret2
                              exact ⟨by first | rfl | (simp [aJ, aK] <;> rfl) | (simp [*, aJ, aK] <;> rfl), by repeat (first | (with_reducible first | exact HB.out | apply ak | apply ah | apply au | refine aR ?_ kF.out) | exact HB.out)⟩
                          · rw [if_neg Zb] at H
                            exact absurd H (by simp)
                        · rw [if_neg c47] at H
                          exact absurd H (by simp)
                      · rw [if_neg c46] at H
                        exact absurd H (by simp)
                    · rw [if_neg Za] at H
                      exact absurd H (by simp)
                  · rw [if_neg LV] at H
                    have Y6 : ((wrap64 (bQ + t164)) == (wrap64 (a1 + a2))) = false := beq_eq_false_iff_ne.mpr LV
                    have Y7 : ((wrap64 (bQ + t164)) != (wrap64 (a1 + a2))) = true := bne_iff_ne.mpr LV
                    (try (have Y8 : (((bQ + t164)) == ((a1 + a2))) = false := by have h_ : ((wrap64 (bQ + t164)) == (wrap64 (a1 + a2))) = false := beq_eq_false_iff_ne.mpr LV; rw [B.dO (by omega) (by omega)] at h_; rw [B.dO (by omega) (by omega)] at h_; exact h_))
                    (try (have Y9 : (((bQ + t164)) != ((a1 + a2))) = true := by have h_ : ((wrap64 (bQ + t164)) != (wrap64 (a1 + a2))) = true := bne_iff_ne.mpr LV; rw [B.dO (by omega) (by omega)] at h_; rw [B.dO (by omega) (by omega)] at h_; exact h_))
                    simp only [Option.some.injEq, Prod.mk.injEq] at H
                    obtain ⟨rfl, rfl⟩ := H
                    have acd : wr.cell? ⟨dL, 0, none⟩ = some (.int .i64 t162) := (aM bT.out 0).trans rfl
                    have ace : wr.cell? ⟨dL, 1, none⟩ = some (.int .i64 kD) := (aM bT.out 1).trans rfl
                    have acf : wr.cell? ⟨dL, 2, none⟩ = some (.int .i64 t164) := (aM bT.out 2).trans rfl
                    have acg := ay bT.out 0
                    have ach := ay bT.out 1
                    have aci := ay bT.out 2
                    go_wp2
                    go_ret2
                    exact ⟨by first | rfl | (simp [aJ, aK] <;> rfl) | (simp [*, aJ, aK] <;> rfl), by repeat (first | (with_reducible first | exact HB.out | apply ak | apply ah | apply au | refine aR ?_ kF.out) | exact HB.out)⟩
          · rw [if_neg c34] at H
            exact absurd H (by simp)
        · rw [if_neg Ni] at H
          exact absurd H (by simp)
  · replace c6 := Bool.eq_false_iff.mpr c6
    subst c6
    have H1 : (some ((⟨#[]⟩ : ByteArray), 2)) = some (r1, r2) := by rw [if_neg (show ¬ (false = true) by decide)] at H; exact H
    clear H
    have H := H1
    clear H1
    simp only [Option.some.injEq, Prod.mk.injEq] at H
    obtain ⟨rfl, rfl⟩ := H
    go_enter Try.func104, Try.ntmps104
    go_wp2_with (first | ((with_reducible refine aQ (f := 99) rfl ?_); refine bP (some 23) rfl rfl Try.func99 (by kernel_rfl) rfl #[.string a0, .int .i64 a1, .int .i64 a2] rfl (by (try simp only [List.map_toArray, List.map_cons, List.map_nil]); first | done | rfl | (simp only [List.length_drop, List.length_take]; rfl) | (simp only [ByteArray.size_append, Int.natCast_add]; rfl) | (rw [B.dO] <;> first | rfl | omega | (simp only [decide_eq_false_iff_not, decide_eq_true_eq, Int.not_lt, Nat.not_lt, gt_iff_lt] at * <;> omega))) ?_; (with_reducible refine (bC.calls a0 a1 a2 t160 false _ A5.out).mono ?_); rintro e w' ⟨rfl, ⟨nd, rfl⟩⟩; refine ⟨_, rfl, ?_⟩))
    go_ret2
    exact ⟨by first | rfl | (simp [aJ, aK] <;> rfl) | (simp [*, aJ, aK] <;> rfl), by repeat (first | (with_reducible first | exact HB.out | apply ak | apply ah | apply au) | exact HB.out)⟩
def bR.f (k : Nat) (a0 : Int) (a1 : ByteArray) : Option (Bool) := if (a1.size : Int) > 65535 then (some false) else ((aX.f k a1 0 (a1.size : Int) a0).bind fun DW => (if DW.2 = 0 then (some (DW.1.toList == a1.toList)) else (some false)))
set_option maxHeartbeats 8000000 in
set_option maxRecDepth 100000 in
theorem bR.calls (k : Nat) (a0 : Int) (a1 : ByteArray) (r : Bool) (w : World) (h : bR.f k a0 a1 = some r) :
    Calls Try.prog 83 #[.int .i64 a0, .string a1] w fun e w' => e = .returned (.bool r) ∧ Below w.heap.size w w' := by
  have HB := aj.mk (Below.refl w.heap.size w)
  have H : (if (a1.size : Int) > 65535 then (some false) else ((aX.f k a1 0 (a1.size : Int) a0).bind fun DW => (if DW.2 = 0 then (some (DW.1.toList == a1.toList)) else (some false)))) = some r := h
  clear h
  by_cases c3 : (a1.size : Int) > 65535
  · rw [if_pos c3] at H
    have qy : decide (65535 < (a1.size : Int)) = true := decide_eq_true c3
    have Bo : decide (65535 < a1.size) = true := decide_eq_true (by omega)
    clear c3
    obtain rfl := Option.some.inj H
    go_enter Try.func83, Try.ntmps83
    go_wp2
    go_ret
    exact ⟨by first | rfl | (simp [aJ, aK] <;> rfl) | (simp [*, aJ, aK] <;> rfl), by repeat (first | (with_reducible first | exact HB.out | apply ak | apply ah | apply au) | exact HB.out)⟩
  · rw [if_neg c3] at H
    have qy : decide (65535 < (a1.size : Int)) = false := decide_eq_false c3
    have Bo : decide (65535 < a1.size) = false := decide_eq_false (by omega)
    clear c3
    replace H := zbm H
    obtain ⟨⟨Ud, t171⟩, DF, H⟩ := H
    replace H : (if t171 = 0 then (some (Ud.toList == a1.toList)) else (some false)) = some r := H
    have A4 := aj.mk DF
    clear DF
    by_cases c5 : t171 = 0
    · rw [if_pos c5] at H
      have oU : (t171 == 0) = true := beq_iff_eq.mpr c5
      have uK : (t171 != 0) = false := bne_eq_false_iff_eq.mpr c5
      clear c5
      obtain rfl := Option.some.inj H
      go_enter Try.func83, Try.ntmps83
      go_wp2_with (first | ((with_reducible refine aQ (f := 104) rfl ?_); refine bP (some 15) rfl rfl Try.func104 (by kernel_rfl) rfl #[.string a1, .int .i64 0, .int .i64 (a1.size : Int), .int .i64 a0] rfl (by (try simp only [List.map_toArray, List.map_cons, List.map_nil]); first | done | rfl | (simp only [List.length_drop, List.length_take]; rfl) | (simp only [ByteArray.size_append, Int.natCast_add]; rfl) | (rw [B.dO] <;> first | rfl | omega | (simp only [decide_eq_false_iff_not, decide_eq_true_eq, Int.not_lt, Nat.not_lt, gt_iff_lt] at * <;> omega))) ?_; (with_reducible refine (aX.calls k a1 0 (a1.size : Int) a0 Ud t171 _ A4.out).mono ?_); rintro e w6 ⟨rfl, hb⟩; refine ⟨_, rfl, ?_⟩; have dZ := aj.mk (bE (by repeat (first | (with_reducible first | exact HB.out | apply ak | apply ah | apply au) | exact HB.out)) hb); clear HB; have HB := dZ; clear dZ; (try clear hb); (try clear hb2); (try clear hk); (try clear hi)))
      go_ret
      exact ⟨by first | rfl | (simp [aJ, aK] <;> rfl) | (simp [*, aJ, aK] <;> rfl), by repeat (first | (with_reducible first | exact HB.out | apply ak | apply ah | apply au) | exact HB.out)⟩
    · rw [if_neg c5] at H
      have oU : (t171 == 0) = false := beq_eq_false_iff_ne.mpr c5
      have uK : (t171 != 0) = true := bne_iff_ne.mpr c5
      obtain rfl := Option.some.inj H
      go_enter Try.func83, Try.ntmps83
      go_wp2_with (first | ((with_reducible refine aQ (f := 104) rfl ?_); refine bP (some 15) rfl rfl Try.func104 (by kernel_rfl) rfl #[.string a1, .int .i64 0, .int .i64 (a1.size : Int), .int .i64 a0] rfl (by (try simp only [List.map_toArray, List.map_cons, List.map_nil]); first | done | rfl | (simp only [List.length_drop, List.length_take]; rfl) | (simp only [ByteArray.size_append, Int.natCast_add]; rfl) | (rw [B.dO] <;> first | rfl | omega | (simp only [decide_eq_false_iff_not, decide_eq_true_eq, Int.not_lt, Nat.not_lt, gt_iff_lt] at * <;> omega))) ?_; (with_reducible refine (aX.calls k a1 0 (a1.size : Int) a0 Ud t171 _ A4.out).mono ?_); rintro e w7 ⟨rfl, hb⟩; refine ⟨_, rfl, ?_⟩; have dZ := aj.mk (bE (by repeat (first | (with_reducible first | exact HB.out | apply ak | apply ah | apply au) | exact HB.out)) hb); clear HB; have HB := dZ; clear dZ; (try clear hb); (try clear hb2); (try clear hk); (try clear hi)))
      go_ret
      exact ⟨by first | rfl | (simp [aJ, aK] <;> rfl) | (simp [*, aJ, aK] <;> rfl), by repeat (first | (with_reducible first | exact HB.out | apply ak | apply ah | apply au) | exact HB.out)⟩
def bg.l0 : Nat → ByteArray → List ByteArray → Int → Int → Int → Int → Int → Option (List ByteArray)
  | 0, _, _, _, _, _, _, _ => none
  | k + 1, x1, x5, x7, x8, Pm, GV, Pn => if x8 < GV then ((aU.f k x1 x7).bind fun QW => (if x5.length < 8796093022208 then (bg.l0 k x1 (x5 ++ [QW.1]) QW.2.1 (wrap64 (x8 + 1)) Pm GV Pn) else (none))) else (some x5)
def bg.f (k : Nat) (a0 : Int) (a1 : ByteArray) : Option (List ByteArray) := (bR.f k a0 a1).bind fun IK => (if IK = true then ((aH.f k a0).bind fun kE => (bg.l0 k a1 ([] : List ByteArray) kE.1 0 kE.1 kE.2.1 kE.2.2)) else (some ([] : List ByteArray)))
set_option maxHeartbeats 8000000 in
set_option maxRecDepth 100000 in
theorem bg.calls (k : Nat) (a0 : Int) (a1 : ByteArray) (r : List ByteArray) (w : World) (h : bg.f k a0 a1 = some r) :
    Calls Try.prog 105 #[.int .i64 a0, .string a1] w fun e w' => ∃ QG : Value, e = .returned (QG) ∧ Kd.R Kd.string 9 w' w.heap.size (fun _ => True) QG r ∧ Below w.heap.size w w' := by
  have LD := Try.underlying142
  have HB := aj.mk (Below.refl w.heap.size w)
  have H : ((bR.f k a0 a1).bind fun IK => (if IK = true then ((aH.f k a0).bind fun kE => (bg.l0 k a1 ([] : List ByteArray) kE.1 0 kE.1 kE.2.1 kE.2.2)) else (some ([] : List ByteArray)))) = some r := h
  clear h
  replace H := zbm H
  obtain ⟨IK, QK, H⟩ := H
  replace H : (if IK = true then ((aH.f k a0).bind fun kE => (bg.l0 k a1 ([] : List ByteArray) kE.1 0 kE.1 kE.2.1 kE.2.2)) else (some ([] : List ByteArray))) = some r := H
  have A3 := aj.mk QK
  clear QK
  by_cases c4 : IK = true
  · subst c4
    have H1 : ((aH.f k a0).bind fun kE => (bg.l0 k a1 ([] : List ByteArray) kE.1 0 kE.1 kE.2.1 kE.2.2)) = some r := by rw [if_pos rfl] at H; exact H
    clear H
    have H := H1
    clear H1
    replace H := zbm H
    obtain ⟨⟨t173, uL, t175⟩, QU, H⟩ := H
    replace H : (bg.l0 k a1 ([] : List ByteArray) t173 0 t173 uL t175) = some r := H
    have A5 := aj.mk QU
    clear QU
    have H' := aj.mk H
    clear H
    go_enter Try.func105, Try.ntmps105
    go_wp2_with (first | ((with_reducible refine aQ (f := 83) rfl ?_); refine bP (some 14) rfl rfl Try.func83 (by kernel_rfl) rfl #[.int .i64 a0, .string a1] rfl (by (try simp only [List.map_toArray, List.map_cons, List.map_nil]); first | done | rfl | (simp only [List.length_drop, List.length_take]; rfl) | (simp only [ByteArray.size_append, Int.natCast_add]; rfl) | (rw [B.dO] <;> first | rfl | omega | (simp only [decide_eq_false_iff_not, decide_eq_true_eq, Int.not_lt, Nat.not_lt, gt_iff_lt] at * <;> omega))) ?_; (with_reducible refine (bR.calls k a0 a1 true _ A3.out).mono ?_); rintro e w6 ⟨rfl, hb⟩; refine ⟨_, rfl, ?_⟩; have dZ := aj.mk (bE (by repeat (first | (with_reducible first | exact HB.out | apply ak | apply ah | apply au) | exact HB.out)) hb); clear HB; have HB := dZ; clear dZ; (try clear hb); (try clear hb2); (try clear hk); (try clear hi)) | ((with_reducible refine aQ (f := 106) rfl ?_); refine bP (some 17) rfl rfl Try.func106 (by kernel_rfl) rfl #[.int .i64 a0] rfl (by (try simp only [List.map_toArray, List.map_cons, List.map_nil]); first | done | rfl | (simp only [List.length_drop, List.length_take]; rfl) | (simp only [ByteArray.size_append, Int.natCast_add]; rfl) | (rw [B.dO] <;> first | rfl | omega | (simp only [decide_eq_false_iff_not, decide_eq_true_eq, Int.not_lt, Nat.not_lt, gt_iff_lt] at * <;> omega))) ?_; (with_reducible refine (aH.calls k a0 t173 uL t175 _ A5.out).mono ?_); rintro e w7 ⟨rfl, hb⟩; refine ⟨_, rfl, ?_⟩; have dZ := aj.mk (bE (by repeat (first | (with_reducible first | exact HB.out | apply ak | apply ah | apply au) | exact HB.out)) hb); clear HB; have HB := dZ; clear dZ; (try clear hb); (try clear hb2); (try clear hk); (try clear hi)) | ((with_reducible refine gF (N := 6) rfl ?_); refine fP ?hg (N := 6) ?hd (cs := #[.int .i64 0, .int .i64 0, .int .i64 0]) (t := 142) ?hr ?_; (case hd => rfl); (case hg => rfl); (case hr => first | (go_simp; done) | (go_simp; rfl)); intro nG hg w8 gT hb; have dZ := aj.mk (bE (by repeat (first | (with_reducible first | exact HB.out | apply ak | apply ah | apply au) | exact HB.out)) hb); have gW := aj.mk (gT); have iZ := aj.mk ((by rw [hg]; exact (bL (by repeat (first | (with_reducible first | exact HB.out | apply ak | apply ah | apply au) | exact HB.out))) : w.heap.size ≤ nG)); have jF := aj.mk ((by rw [hg]; exact (bL (by repeat (first | (with_reducible first | exact HB.out | apply ak | apply ah | apply au) | exact HB.out))) : w.heap.size ≤ nG)); clear HB; have HB := dZ; have iU := gW; have afX := iZ; have DX := jF; clear dZ gW iZ jF; clear hb gT hg; have LG : w8.cell? ⟨nG, 0, none⟩ = some (.int .i64 0) := (aM iU.out 0).trans rfl; have LH : w8.cell? ⟨nG, 1, none⟩ = some (.int .i64 0) := (aM iU.out 1).trans rfl; have LJ : w8.cell? ⟨nG, 2, none⟩ = some (.int .i64 0) := (aM iU.out 2).trans rfl; have LK := ay iU.out 0; have LM := ay iU.out 1; have LP := ay iU.out 2))
    go_loopg [5, 7, 8] k (fun kq v5 v7 v8 w' => ∃ (DY : List ByteArray) (dJ : Int) (gG : Int), v7 = .int .i64 dJ ∧ v8 = .int .i64 gG ∧ aj (bg.l0 kq a1 DY dJ gG t173 uL t175 = some r) ∧ aj (kq ≤ k) ∧ aj (Kd.R Kd.string 9 w' w.heap.size (fun _ => True) v5 DY) ∧ aj (w'.heap[nG]? = some (.cells #[.int .i64 t173, .int .i64 uL, .int .i64 t175] 142 (0, 0))) ∧ aj (Below w.heap.size w w'))
    case atStart => exact ⟨(([] : List ByteArray)), (t173), (0), (by first | rfl | (simp; done) | (simp [*]; done) | (simp [B.aV]; done) | (simp [B.aW]; done)), (by first | rfl | (simp; done) | (simp [*]; done) | (simp [B.aV]; done) | (simp [B.aW]; done)), H', ⟨Nat.le_refl _⟩, ⟨by first | exact Kd.jA _ _ _ _ _ | exact Kd.kS _ _ _ _ _ | exact Kd.kT _ _ _ _ _ | exact Kd.kQ _ _ _ _ _ | exact Kd.kR _ _ _ _ _⟩, ⟨by (with_reducible repeat (first | refine aG ?_ _ | refine aI ?_ | refine aA ?_ _)); refine bU (cs := #[.int .i64 t173, .int .i64 uL, .int .i64 0]) ?_ 2 _ rfl; (with_reducible repeat (first | refine aG ?_ _ | refine aI ?_ | refine aA ?_ _)); refine bU (cs := #[.int .i64 t173, .int .i64 0, .int .i64 0]) ?_ 1 _ rfl; (with_reducible repeat (first | refine aG ?_ _ | refine aI ?_ | refine aA ?_ _)); refine bU (cs := #[.int .i64 0, .int .i64 0, .int .i64 0]) ?_ 0 _ rfl; (with_reducible repeat (first | refine aG ?_ _ | refine aI ?_ | refine aA ?_ _)); exact iU.out⟩, ⟨by repeat (first | (with_reducible first | exact HB.out | apply ak | apply ah | apply au | refine aR ?_ DX.out) | exact HB.out)⟩⟩
    case round =>
      clear H'
      try clear c1
      try clear p2
      try clear c4
      try clear c8
      try clear LG
      try clear LH
      try clear LJ
      try clear LK
      try clear LM
      try clear LP
      obtain ⟨DY, dJ, gG, rfl, rfl, HA, sZ, uM, iU, HB⟩ := hrel
      cases gk with
      | zero => exact absurd HA.out (by simp [bg.l0])
      | succ k1 =>
        have H := HA.out
        clear HA
        simp only [bg.l0] at H
        by_cases c10 : gG < uL
        · rw [if_pos c10] at H
          have qK : decide (gG < uL) = true := decide_eq_true c10
          clear c10
          replace H := zbm H
          obtain ⟨⟨LW, Po, adX⟩, Zk, H⟩ := H
          replace H : (if DY.length < 8796093022208 then (bg.l0 k1 a1 (DY ++ [LW]) Po (wrap64 (gG + 1)) t173 uL t175) else (none)) = some r := H
          have A11 := aj.mk Zk
          clear Zk
          by_cases c12 : DY.length < 8796093022208
          · rw [if_pos c12] at H
            have Zl := aj.mk c12
            clear c12
            obtain ⟨Zm, DZ⟩ : ∃ y_ : List ByteArray, y_ = (DY ++ [LW]) := ⟨_, rfl⟩
            replace H : (bg.l0 k1 a1 Zm Po (wrap64 (gG + 1)) t173 uL t175) = some r := by first | (rw [DZ]; with_reducible exact H) | (have EX := (Option.bind_some _ _).symm.trans H; rw [DZ]; with_reducible exact EX) | (have EX := (Option.bind_some _ _).symm.trans H; with_reducible exact EX) | with_reducible exact H | (rw [DZ]; exact H) | exact H
            have Zn := aj.mk DZ
            clear DZ
            have H' := aj.mk H
            clear H
            have Bv : wr.cell? ⟨nG, 0, none⟩ = some (.int .i64 t173) := (aM iU.out 0).trans rfl
            have Bw : wr.cell? ⟨nG, 1, none⟩ = some (.int .i64 uL) := (aM iU.out 1).trans rfl
            have Bz : wr.cell? ⟨nG, 2, none⟩ = some (.int .i64 t175) := (aM iU.out 2).trans rfl
            have BA := ay iU.out 0
            have BD := ay iU.out 1
            have BF := ay iU.out 2
            go_wp2_with (first | ((with_reducible refine aQ (f := 118) rfl ?_); refine bP (some 29) rfl rfl Try.func118 (by kernel_rfl) rfl #[.string a1, .int .i64 dJ] rfl (by (try simp only [List.map_toArray, List.map_cons, List.map_nil]); first | done | rfl | (simp only [List.length_drop, List.length_take]; rfl) | (simp only [ByteArray.size_append, Int.natCast_add]; rfl) | (rw [B.dO] <;> first | rfl | omega | (simp only [decide_eq_false_iff_not, decide_eq_true_eq, Int.not_lt, Nat.not_lt, gt_iff_lt] at * <;> omega))) ?_; (with_reducible refine (aU.calls k1 a1 dJ LW Po adX _ A11.out).mono ?_); rintro e w' ⟨rfl, ⟨nd, rfl⟩⟩; refine ⟨_, rfl, ?_⟩) | ((with_reducible refine nQ (b := .append) (xs := #[.tmp 33, .tmp 35]) rfl ?_); at_builtin; refine Kd.xE Kd.string (w0 := w) w.heap.size rfl (.tmp 33) (.tmp 35) 33 9 (.string ⟨#[]⟩) 16 rfl Try.underlying33 Gi rfl (by decide) (by omega) u5 DY LW [.string LW] (fun _ => True) (fun _ => False) rfl rfl ?aP (fun _ hk => hk.elim) ?aF ?aO ?aB ?aS ?aL ?_; (case aP => exact rfl); (case aB => exact (by repeat (first | (with_reducible first | exact HB.out | apply ak | apply ah | apply au | refine aR ?_ DX.out) | exact HB.out))); (case aF => exact (fun _ _ => trivial)); (case aO => exact (by (with_reducible repeat (first | apply Kd.eX | apply Kd.fG | apply Kd.fQ)); exact uM.out)); (case aS => exact (bL (by repeat (first | (with_reducible first | exact HB.out | apply ak | apply ah | apply au | refine aR ?_ DX.out) | exact HB.out)))); (case aL => have := Zl.out; omega); intro agl w14 ho hb hg hat; rw [← Zn.out] at ho; have dZ := aj.mk (pR (g := nG) (o := .cells #[.int .i64 t173, .int .i64 uL, .int .i64 t175] 142 (0, 0)) (by (with_reducible repeat (first | refine aG ?_ _ | refine aI ?_ | refine aA ?_ _)); exact iU.out) hg (Kd.NV uM.out iU.out (by decide))); have gW := aj.mk (hb); have iZ := aj.mk (ho); clear iU; clear HB; clear uM; have iU := dZ; have HB := gW; have Zo := iZ; clear dZ gW iZ; clear ho hb hg hat))
            go_roundg k1
            case measure => have := sZ.out; omega
            case rel => exact ⟨(Zm), (Po), (wrap64 (gG + 1)), (by first | rfl | (simp; done) | (simp [*]; done) | (simp [B.aV]; done) | (simp [B.aW]; done)), (by first | rfl | (simp; done) | (simp [*]; done) | (simp [B.aV]; done) | (simp [B.aW]; done)), H', ⟨by have := sZ.out; omega⟩, ⟨by (with_reducible repeat (first | apply Kd.eX | apply Kd.fG | apply Kd.fQ)); exact Zo.out⟩, ⟨by (with_reducible repeat (first | refine aG ?_ _ | refine aI ?_ | refine aA ?_ _)); exact iU.out⟩, ⟨by repeat (first | (with_reducible first | exact HB.out | apply ak | apply ah | apply au | refine aR ?_ DX.out) | exact HB.out)⟩⟩
          · rw [if_neg c12] at H
            exact absurd H (by simp)
        · rw [if_neg c10] at H
          have qK : decide (gG < uL) = false := decide_eq_false c10
          clear c10
          obtain rfl := Option.some.inj H
          have BG : wr.cell? ⟨nG, 0, none⟩ = some (.int .i64 t173) := (aM iU.out 0).trans rfl
          have BH : wr.cell? ⟨nG, 1, none⟩ = some (.int .i64 uL) := (aM iU.out 1).trans rfl
          have BI : wr.cell? ⟨nG, 2, none⟩ = some (.int .i64 t175) := (aM iU.out 2).trans rfl
          have BJ := ay iU.out 0
          have BK := ay iU.out 1
          have BL := ay iU.out 2
          go_wp2
          go_ret
          exact ⟨_, by first | rfl | (simp [aJ, aK] <;> rfl) | (simp [*, aJ, aK] <;> rfl), by (with_reducible repeat (first | apply Kd.eX | apply Kd.fG | apply Kd.fQ)); exact uM.out, by repeat (first | (with_reducible first | exact HB.out | apply ak | apply ah | apply au | refine aR ?_ DX.out) | exact HB.out)⟩
  · replace c4 := Bool.eq_false_iff.mpr c4
    subst c4
    have H1 : (some ([] : List ByteArray)) = some r := by rw [if_neg (show ¬ (false = true) by decide)] at H; exact H
    clear H
    have H := H1
    clear H1
    obtain rfl := Option.some.inj H
    go_enter Try.func105, Try.ntmps105
    go_wp2_with (first | ((with_reducible refine aQ (f := 83) rfl ?_); refine bP (some 14) rfl rfl Try.func83 (by kernel_rfl) rfl #[.int .i64 a0, .string a1] rfl (by (try simp only [List.map_toArray, List.map_cons, List.map_nil]); first | done | rfl | (simp only [List.length_drop, List.length_take]; rfl) | (simp only [ByteArray.size_append, Int.natCast_add]; rfl) | (rw [B.dO] <;> first | rfl | omega | (simp only [decide_eq_false_iff_not, decide_eq_true_eq, Int.not_lt, Nat.not_lt, gt_iff_lt] at * <;> omega))) ?_; (with_reducible refine (bR.calls k a0 a1 false _ A3.out).mono ?_); rintro e w16 ⟨rfl, hb⟩; refine ⟨_, rfl, ?_⟩; have dZ := aj.mk (bE (by repeat (first | (with_reducible first | exact HB.out | apply ak | apply ah | apply au) | exact HB.out)) hb); clear HB; have HB := dZ; clear dZ; (try clear hb); (try clear hb2); (try clear hk); (try clear hi)))
    go_ret
    exact ⟨_, by first | rfl | (simp [aJ, aK] <;> rfl) | (simp [*, aJ, aK] <;> rfl), by first | exact Kd.jA _ _ _ _ _ | exact Kd.kS _ _ _ _ _ | exact Kd.kT _ _ _ _ _ | exact Kd.kQ _ _ _ _ _ | exact Kd.kR _ _ _ _ _, by repeat (first | (with_reducible first | exact HB.out | apply ak | apply ah | apply au) | exact HB.out)⟩
def bG.l0 : Nat → ByteArray → List ByteArray → ByteArray → Int → Int → Option (ByteArray)
  | 0, _, _, _, _, _ => none
  | k + 1, x1, x5, x7, x8, x9 => if x9 < (x5.length : Int) then (if 0 ≤ x9 then ((fu.f k (oL ByteArray.empty x5 x9)).bind fun y8 => (if x7.size + y8.size ≤ 9223372036854775807 then (bG.l0 k x1 x5 (x7 ++ y8) (wrap64 (x8 + ((oL ByteArray.empty x5 x9).size : Int))) (wrap64 (x9 + 1))) else (none))) else (none)) else (if 0 ≤ x8 then (if x8 ≤ (x1.size : Int) then (if x7.size + (x1.extract (x8 : Int).toNat x1.size).size ≤ 9223372036854775807 then (some (x7 ++ (x1.extract (x8 : Int).toNat x1.size))) else (none)) else (none)) else (none))
def bG.f (k : Nat) (a0 : Int) (a1 : ByteArray) : Option (ByteArray) := (bR.f k a0 a1).bind fun t183 => (if t183 = true then ((bg.f k a0 a1).bind fun mg => ((aH.f k a0).bind fun iY => (if 0 ≤ iY.1 then (if iY.1 ≤ (a1.size : Int) then (bG.l0 k a1 mg (a1.extract 0 (iY.1 : Int).toNat) iY.1 0) else (none)) else (none)))) else (some (⟨#[]⟩ : ByteArray)))
set_option maxHeartbeats 8000000 in
set_option maxRecDepth 100000 in
theorem bG.calls (k : Nat) (a0 : Int) (a1 : ByteArray) (r : ByteArray) (w : World) (h : bG.f k a0 a1 = some r) :
    Calls Try.prog 84 #[.int .i64 a0, .string a1] w fun e w' => e = .returned (.string r) ∧ Below w.heap.size w w' := by
  have LD := Try.underlying142
  have HB := aj.mk (Below.refl w.heap.size w)
  have H : ((bR.f k a0 a1).bind fun t183 => (if t183 = true then ((bg.f k a0 a1).bind fun mg => ((aH.f k a0).bind fun iY => (if 0 ≤ iY.1 then (if iY.1 ≤ (a1.size : Int) then (bG.l0 k a1 mg (a1.extract 0 (iY.1 : Int).toNat) iY.1 0) else (none)) else (none)))) else (some (⟨#[]⟩ : ByteArray)))) = some r := h
  clear h
  replace H := zbm H
  obtain ⟨t183, QK, H⟩ := H
  replace H : (if t183 = true then ((bg.f k a0 a1).bind fun mg => ((aH.f k a0).bind fun iY => (if 0 ≤ iY.1 then (if iY.1 ≤ (a1.size : Int) then (bG.l0 k a1 mg (a1.extract 0 (iY.1 : Int).toNat) iY.1 0) else (none)) else (none)))) else (some (⟨#[]⟩ : ByteArray))) = some r := H
  have A3 := aj.mk QK
  clear QK
  by_cases c4 : t183 = true
  · subst c4
    have H1 : ((bg.f k a0 a1).bind fun mg => ((aH.f k a0).bind fun iY => (if 0 ≤ iY.1 then (if iY.1 ≤ (a1.size : Int) then (bG.l0 k a1 mg (a1.extract 0 (iY.1 : Int).toNat) iY.1 0) else (none)) else (none)))) = some r := by rw [if_pos rfl] at H; exact H
    clear H
    have H := H1
    clear H1
    replace H := zbm H
    obtain ⟨mg, QU, H⟩ := H
    replace H : ((aH.f k a0).bind fun iY => (if 0 ≤ iY.1 then (if iY.1 ≤ (a1.size : Int) then (bG.l0 k a1 mg (a1.extract 0 (iY.1 : Int).toNat) iY.1 0) else (none)) else (none))) = some r := H
    have A5 := aj.mk QU
    clear QU
    replace H := zbm H
    obtain ⟨⟨qB, LX, Pp⟩, A60, H⟩ := H
    replace H : (if 0 ≤ qB then (if qB ≤ (a1.size : Int) then (bG.l0 k a1 mg (a1.extract 0 (qB : Int).toNat) qB 0) else (none)) else (none)) = some r := H
    have A6 := aj.mk A60
    clear A60
    by_cases c7 : 0 ≤ qB
    · rw [if_pos c7] at H
      have tK := eq_true c7
      have Iy : decide (0 ≤ qB) = true := decide_eq_true c7
      clear c7
      by_cases c8 : qB ≤ (a1.size : Int)
      · rw [if_pos c8] at H
        have qZ := eq_true c8
        have q8 : decide (qB ≤ (a1.size : Int)) = true := decide_eq_true c8
        clear c8
        have H' := aj.mk H
        clear H
        go_enter Try.func84, Try.ntmps84
        go_wp2_with (first | ((with_reducible refine aQ (f := 83) rfl ?_); refine bP (some 12) rfl rfl Try.func83 (by kernel_rfl) rfl #[.int .i64 a0, .string a1] rfl (by (try simp only [List.map_toArray, List.map_cons, List.map_nil]); first | done | rfl | (simp only [List.length_drop, List.length_take]; rfl) | (simp only [ByteArray.size_append, Int.natCast_add]; rfl) | (rw [B.dO] <;> first | rfl | omega | (simp only [decide_eq_false_iff_not, decide_eq_true_eq, Int.not_lt, Nat.not_lt, gt_iff_lt] at * <;> omega))) ?_; (with_reducible refine (bR.calls k a0 a1 true _ A3.out).mono ?_); rintro e w9 ⟨rfl, hb⟩; refine ⟨_, rfl, ?_⟩; have dZ := aj.mk (bE (by repeat (first | (with_reducible first | exact HB.out | apply ak | apply ah | apply au) | exact HB.out)) hb); clear HB; have HB := dZ; clear dZ; (try clear hb); (try clear hb2); (try clear hk); (try clear hi)) | ((with_reducible refine aQ (f := 105) rfl ?_); refine bP (some 16) rfl rfl Try.func105 (by kernel_rfl) rfl #[.int .i64 a0, .string a1] rfl (by (try simp only [List.map_toArray, List.map_cons, List.map_nil]); first | done | rfl | (simp only [List.length_drop, List.length_take]; rfl) | (simp only [ByteArray.size_append, Int.natCast_add]; rfl) | (rw [B.dO] <;> first | rfl | omega | (simp only [decide_eq_false_iff_not, decide_eq_true_eq, Int.not_lt, Nat.not_lt, gt_iff_lt] at * <;> omega))) ?_; (with_reducible refine (bg.calls k a0 a1 mg _ A5.out).mono ?_); rintro e w10 ⟨adY, rfl, ho0, hb⟩; refine ⟨_, rfl, ?_⟩; have dZ := aj.mk (Kd.sO ho0 (bL (by repeat (first | (with_reducible first | exact HB.out | apply ak | apply ah | apply au) | exact HB.out)))); have gW := aj.mk (bE (by repeat (first | (with_reducible first | exact HB.out | apply ak | apply ah | apply au) | exact HB.out)) hb); clear HB; have yt := dZ; have HB := gW; clear dZ gW; (try clear hb); (try clear hb2); (try clear hk); (try clear hi); (try clear ho0)) | ((with_reducible refine aQ (f := 106) rfl ?_); refine bP (some 18) rfl rfl Try.func106 (by kernel_rfl) rfl #[.int .i64 a0] rfl (by (try simp only [List.map_toArray, List.map_cons, List.map_nil]); first | done | rfl | (simp only [List.length_drop, List.length_take]; rfl) | (simp only [ByteArray.size_append, Int.natCast_add]; rfl) | (rw [B.dO] <;> first | rfl | omega | (simp only [decide_eq_false_iff_not, decide_eq_true_eq, Int.not_lt, Nat.not_lt, gt_iff_lt] at * <;> omega))) ?_; (with_reducible refine (aH.calls k a0 qB LX Pp _ A6.out).mono ?_); rintro e TY ⟨rfl, hb⟩; refine ⟨_, rfl, ?_⟩; have dZ := aj.mk (Kd.j3 (by (with_reducible repeat (first | apply Kd.eX | apply Kd.fG | apply Kd.fQ)); exact yt.out) hb); have gW := aj.mk (bE (by repeat (first | (with_reducible first | exact HB.out | apply ak | apply ah | apply au) | exact HB.out)) hb); clear yt; clear HB; have yt := dZ; have HB := gW; clear dZ gW; (try clear hb); (try clear hb2); (try clear hk); (try clear hi)) | ((with_reducible refine gF (N := 6) rfl ?_); refine fP ?hg (N := 6) ?hd (cs := #[.int .i64 0, .int .i64 0, .int .i64 0]) (t := 142) ?hr ?_; (case hd => rfl); (case hg => rfl); (case hr => first | (go_simp; done) | (go_simp; rfl)); intro qM hg w12 gT hb; have dZ := aj.mk (Kd.j3 (by (with_reducible repeat (first | apply Kd.eX | apply Kd.fG | apply Kd.fQ)); exact yt.out) hb); have gW := aj.mk (bE (by repeat (first | (with_reducible first | exact HB.out | apply ak | apply ah | apply au) | exact HB.out)) hb); have iZ := aj.mk (gT); have jF := aj.mk ((by rw [hg]; exact (bL (by repeat (first | (with_reducible first | exact HB.out | apply ak | apply ah | apply au) | exact HB.out))) : w.heap.size ≤ qM)); have qA := aj.mk ((by rw [hg]; exact (bL (by repeat (first | (with_reducible first | exact HB.out | apply ak | apply ah | apply au) | exact HB.out))) : w.heap.size ≤ qM)); clear yt; clear HB; have yt := dZ; have HB := gW; have nH := iZ; have afY := jF; have GX := qA; clear dZ gW iZ jF qA; clear hb gT hg; have Bv : w12.cell? ⟨qM, 0, none⟩ = some (.int .i64 0) := (aM nH.out 0).trans rfl; have Bw : w12.cell? ⟨qM, 1, none⟩ = some (.int .i64 0) := (aM nH.out 1).trans rfl; have Bz : w12.cell? ⟨qM, 2, none⟩ = some (.int .i64 0) := (aM nH.out 2).trans rfl; have BA := ay nH.out 0; have BD := ay nH.out 1; have BF := ay nH.out 2))
        go_loopg [7, 8, 9] k (fun kq v7 v8 v9 w' => ∃ (dJ : ByteArray) (gG : Int) (iH : Int), v7 = .string dJ ∧ v8 = .int .i64 gG ∧ v9 = .int .i64 iH ∧ aj (bG.l0 kq a1 mg dJ gG iH = some r) ∧ aj (kq ≤ k) ∧ aj (Kd.R Kd.string 9 w' w.heap.size (fun _ => True) adY mg) ∧ aj (w'.heap[qM]? = some (.cells #[.int .i64 qB, .int .i64 LX, .int .i64 Pp] 142 (0, 0))) ∧ aj (Below w.heap.size w w'))
        case atStart => exact ⟨(a1.extract 0 (qB : Int).toNat), (qB), (0), (by first | rfl | (simp; done) | (simp [*]; done) | (simp [B.aV]; done) | (simp [B.aW]; done)), (by first | rfl | (simp; done) | (simp [*]; done) | (simp [B.aV]; done) | (simp [B.aW]; done)), (by first | rfl | (simp; done) | (simp [*]; done) | (simp [B.aV]; done) | (simp [B.aW]; done)), H', ⟨Nat.le_refl _⟩, ⟨by (with_reducible repeat (first | apply Kd.eX | apply Kd.fG | apply Kd.fQ)); exact Kd.oN (Kd.sP (p := ⟨qM, 2, none⟩) (Kd.sP (p := ⟨qM, 1, none⟩) (Kd.sP (p := ⟨qM, 0, none⟩) (Kd.sQ yt.out nH.out (by decide)) (fun _ hk => hk.2) (.int .i64 qB)) (fun _ hk => hk.2) (.int .i64 LX)) (fun _ hk => hk.2) (.int .i64 Pp)) (fun _ hk => trivial)⟩, ⟨by (with_reducible repeat (first | refine aG ?_ _ | refine aI ?_ | refine aA ?_ _)); refine bU (cs := #[.int .i64 qB, .int .i64 LX, .int .i64 0]) ?_ 2 _ rfl; (with_reducible repeat (first | refine aG ?_ _ | refine aI ?_ | refine aA ?_ _)); refine bU (cs := #[.int .i64 qB, .int .i64 0, .int .i64 0]) ?_ 1 _ rfl; (with_reducible repeat (first | refine aG ?_ _ | refine aI ?_ | refine aA ?_ _)); refine bU (cs := #[.int .i64 0, .int .i64 0, .int .i64 0]) ?_ 0 _ rfl; (with_reducible repeat (first | refine aG ?_ _ | refine aI ?_ | refine aA ?_ _)); exact nH.out⟩, ⟨by repeat (first | (with_reducible first | exact HB.out | apply ak | apply ah | apply au | refine aR ?_ GX.out) | exact HB.out)⟩⟩
        case round =>
          clear H'
          try clear c1
          try clear p2
          try clear c4
          try clear c7
          try clear tK
          try clear Iy
          try clear c8
          try clear qZ
          try clear q8
          try clear c10
          try clear Bv
          try clear Bw
          try clear Bz
          try clear BA
          try clear BD
          try clear BF
          obtain ⟨dJ, gG, iH, rfl, rfl, rfl, HA, sZ, uM, nH, HB⟩ := hrel
          cases gk with
          | zero => exact absurd HA.out (by simp [bG.l0])
          | succ k1 =>
            have H := HA.out
            clear HA
            simp only [bG.l0] at H
            by_cases c14 : iH < (mg.length : Int)
            · rw [if_pos c14] at H
              have zQ : decide (iH < (mg.length : Int)) = true := decide_eq_true c14
              clear c14
              by_cases c15 : 0 ≤ iH
              · rw [if_pos c15] at H
                have X0 : decide (0 ≤ iH) = true := decide_eq_true c15
                clear c15
                replace H := zbm H
                obtain ⟨y8, Zp, H⟩ := H
                replace H : (if dJ.size + y8.size ≤ 9223372036854775807 then (bG.l0 k1 a1 mg (dJ ++ y8) (wrap64 (gG + ((oL ByteArray.empty mg iH).size : Int))) (wrap64 (iH + 1))) else (none)) = some r := H
                have A16 := aj.mk Zp
                clear Zp
                by_cases c17 : dJ.size + y8.size ≤ 9223372036854775807
                · rw [if_pos c17] at H
                  have QO := eq_true c17
                  have afZ : decide (dJ.size + y8.size ≤ 9223372036854775807) = true := decide_eq_true c17
                  try have af0 : (9223372036854775807 < dJ.size + y8.size) = False := eq_false (Nat.not_lt.2 c17)
                  have H' := aj.mk H
                  clear H
                  obtain ⟨agm, agn, adZ⟩ := Kd.vW uM.out
                  subst adZ
                  have Ue : 0 ≤ (iH : Int) := of_decide_eq_true (by first | (with_reducible assumption) | assumption)
                  have Uf : iH < (mg.length : Int) := of_decide_eq_true (by first | (with_reducible assumption) | assumption)
                  obtain ⟨Zq, ad1, acj⟩ := Kd.zI (Kd.oO uM.out).2.2 iH Ue Uf
                  cases ad1
                  replace Ue := eq_true Ue
                  replace Uf := eq_true Uf
                  go_wp2_with (first | ((with_reducible refine aQ (f := 101) rfl ?_); refine bP (some 36) rfl rfl Try.func101 (by kernel_rfl) rfl #[.string (oL ByteArray.empty mg iH)] rfl (by (try simp only [List.map_toArray, List.map_cons, List.map_nil]); first | done | rfl | (simp only [List.length_drop, List.length_take]; rfl) | (simp only [ByteArray.size_append, Int.natCast_add]; rfl) | (rw [B.dO] <;> first | rfl | omega | (simp only [decide_eq_false_iff_not, decide_eq_true_eq, Int.not_lt, Nat.not_lt, gt_iff_lt] at * <;> omega))) ?_; (with_reducible refine (fu.calls k1 (oL ByteArray.empty mg iH) y8 _ A16.out).mono ?_); rintro e w19 ⟨rfl, hb⟩; refine ⟨_, rfl, ?_⟩; have dZ := aj.mk (Kd.j3 (by (with_reducible repeat (first | apply Kd.eX | apply Kd.fG | apply Kd.fQ)); exact uM.out) hb); have gW := aj.mk (dM (g := qM) (o := .cells #[.int .i64 qB, .int .i64 LX, .int .i64 Pp] 142 (0, 0)) (by (with_reducible repeat (first | refine aG ?_ _ | refine aI ?_ | refine aA ?_ _)); exact nH.out) hb); have iZ := aj.mk (bE (by repeat (first | (with_reducible first | exact HB.out | apply ak | apply ah | apply au | refine aR ?_ GX.out) | exact HB.out)) hb); clear uM; clear nH; clear HB; have uM := dZ; have nH := gW; have HB := iZ; clear dZ gW iZ; (try clear hb); (try clear hb2); (try clear hk); (try clear hi); have Ug : 0 ≤ (iH : Int) := of_decide_eq_true (by first | (with_reducible assumption) | assumption); have Uh : iH < (mg.length : Int) := of_decide_eq_true (by first | (with_reducible assumption) | assumption); obtain ⟨Zr, ad2, acn⟩ := Kd.zI (Kd.oO uM.out).2.2 iH Ug Uh; obtain rfl : Zq = Zr := (by injection ad2); replace Ug := eq_true Ug; replace Uh := eq_true Uh))
                  go_roundg k1
                  case measure => have := sZ.out; omega
                  case rel => exact ⟨(dJ ++ y8), (wrap64 (gG + ((oL ByteArray.empty mg iH).size : Int))), (wrap64 (iH + 1)), (by first | rfl | (simp; done) | (simp [*]; done) | (simp [B.aV]; done) | (simp [B.aW]; done)), (by first | rfl | (simp; done) | (simp [*]; done) | (simp [B.aV]; done) | (simp [B.aW]; done)), (by first | rfl | (simp; done) | (simp [*]; done) | (simp [B.aV]; done) | (simp [B.aW]; done)), H', ⟨by have := sZ.out; omega⟩, ⟨by (with_reducible repeat (first | apply Kd.eX | apply Kd.fG | apply Kd.fQ)); exact uM.out⟩, ⟨by (with_reducible repeat (first | refine aG ?_ _ | refine aI ?_ | refine aA ?_ _)); exact nH.out⟩, ⟨by repeat (first | (with_reducible first | exact HB.out | apply ak | apply ah | apply au | refine aR ?_ GX.out) | exact HB.out)⟩⟩
                · rw [if_neg c17] at H
                  exact absurd H (by simp)
              · rw [if_neg c15] at H
                exact absurd H (by simp)
            · rw [if_neg c14] at H
              have zQ : decide (iH < (mg.length : Int)) = false := decide_eq_false c14
              clear c14
              by_cases c20 : 0 ≤ gG
              · rw [if_pos c20] at H
                have Lv := eq_true c20
                have Yt : decide (0 ≤ gG) = true := decide_eq_true c20
                clear c20
                by_cases c21 : gG ≤ (a1.size : Int)
                · rw [if_pos c21] at H
                  have QM := eq_true c21
                  have QN : decide (gG ≤ (a1.size : Int)) = true := decide_eq_true c21
                  clear c21
                  by_cases BU : dJ.size + (a1.extract (gG : Int).toNat a1.size).size ≤ 9223372036854775807
                  · rw [if_pos BU] at H
                    have LQ := eq_true BU
                    have LU : decide (dJ.size + (a1.extract (gG : Int).toNat a1.size).size ≤ 9223372036854775807) = true := decide_eq_true BU
                    try have af2 : (9223372036854775807 < dJ.size + (a1.extract (gG : Int).toNat a1.size).size) = False := eq_false (Nat.not_lt.2 BU)
                    obtain rfl := Option.some.inj H
                    obtain ⟨agp, agq, ad3⟩ := Kd.vW uM.out
                    subst ad3
                    go_wp2
                    go_ret
                    exact ⟨by first | rfl | (simp [aJ, aK] <;> rfl) | (simp [*, aJ, aK] <;> rfl), by repeat (first | (with_reducible first | exact HB.out | apply ak | apply ah | apply au | refine aR ?_ GX.out) | exact HB.out)⟩
                  · rw [if_neg BU] at H
                    exact absurd H (by simp)
                · rw [if_neg c21] at H
                  exact absurd H (by simp)
              · rw [if_neg c20] at H
                exact absurd H (by simp)
      · rw [if_neg c8] at H
        exact absurd H (by simp)
    · rw [if_neg c7] at H
      exact absurd H (by simp)
  · replace c4 := Bool.eq_false_iff.mpr c4
    subst c4
    have H1 : (some (⟨#[]⟩ : ByteArray)) = some r := by rw [if_neg (show ¬ (false = true) by decide)] at H; exact H
    clear H
    have H := H1
    clear H1
    obtain rfl := Option.some.inj H
    go_enter Try.func84, Try.ntmps84
    go_wp2_with (first | ((with_reducible refine aQ (f := 83) rfl ?_); refine bP (some 12) rfl rfl Try.func83 (by kernel_rfl) rfl #[.int .i64 a0, .string a1] rfl (by (try simp only [List.map_toArray, List.map_cons, List.map_nil]); first | done | rfl | (simp only [List.length_drop, List.length_take]; rfl) | (simp only [ByteArray.size_append, Int.natCast_add]; rfl) | (rw [B.dO] <;> first | rfl | omega | (simp only [decide_eq_false_iff_not, decide_eq_true_eq, Int.not_lt, Nat.not_lt, gt_iff_lt] at * <;> omega))) ?_; (with_reducible refine (bR.calls k a0 a1 false _ A3.out).mono ?_); rintro e w24 ⟨rfl, hb⟩; refine ⟨_, rfl, ?_⟩; have dZ := aj.mk (bE (by repeat (first | (with_reducible first | exact HB.out | apply ak | apply ah | apply au) | exact HB.out)) hb); clear HB; have HB := dZ; clear dZ; (try clear hb); (try clear hb2); (try clear hk); (try clear hi)))
    go_ret
    exact ⟨by first | rfl | (simp [aJ, aK] <;> rfl) | (simp [*, aJ, aK] <;> rfl), by repeat (first | (with_reducible first | exact HB.out | apply ak | apply ah | apply au) | exact HB.out)⟩
end Go.Proofs.Ytdkkgecdhapfhaa.ZQ
namespace Go.Proofs.Ytdkkgecdhapfhaa.ZQ
open Go.RowKit Go.Proofs.YtdkkgecdhapfhaaW.bD Go.Proofs.YtdkkgecdhapfhaaW.dW Go.Proofs.YtdkkgecdhapfhaaW.eG Go.Proofs.Ytdkkgecdhapfhaa.B
def vC (msg : ByteArray) (i : Int) : ByteArray × Int × Int := (bF.f (rounds i) msg i).getD (⟨#[]⟩, 0, 0)
theorem QX (msg : ByteArray) (i : Int) (hm : msg.size ≤ 100000) : bF.f (rounds i) msg i = some (vC msg i) := by
  obtain ⟨R, h1, _⟩ := zS (rounds i) msg i hm (Nat.le_refl _)
  unfold vC; rw [h1]; rfl
theorem QY (k : Nat) (msg : ByteArray) (i : Int) (hm : msg.size ≤ 100000) (hk : rounds i ≤ k) : bF.f k msg i = some (vC msg i) := DN hk (QX msg i hm)
theorem uN (k : Nat) (msg : ByteArray) (i : Int) (hm : msg.size ≤ 100000) (hk : rounds i ≤ k) : aU.f k msg i = some (vC msg i) := by
  obtain ⟨R, h1, h2⟩ := zS k msg i hm hk
  rw [QY k msg i hm hk] at h1
  rw [h2, h1]
theorem tO (msg : ByteArray) (i : Int) (hm : msg.size ≤ 100000) :
    ((vC msg i).2.2 = 0 ∧ jB (vC msg i).1 = true ∧ 0 ≤ i ∧ i < (vC msg i).2.1 ∧ (vC msg i).2.1 ≤ (msg.size : Int)) ∨ (((vC msg i).2.2 = 2 ∨ (vC msg i).2.2 = 3) ∧ (vC msg i).1 = ⟨#[]⟩ ∧ (vC msg i).2.1 = 0) := E8 hm (QX msg i hm)
def D5 (msg : ByteArray) (e : Int) : Nat → Int → List ByteArray → Option (List ByteArray × Int)
  | 0, i, l => some (l, i)
  | n + 1, i, l => if (vC msg i).2.2 = 0 then (if (vC msg i).2.1 > e then none else D5 msg e n (vC msg i).2.1 (l ++ [(vC msg i).1])) else none
theorem qg (msg : ByteArray) (e : Int) (hm : msg.size ≤ 100000) : ∀ (n : Nat) (i : Int) (l : List ByteArray) (R : List ByteArray × Int), D5 msg e n i l = some R → i ≤ e → i ≤ R.2 ∧ R.2 ≤ e ∧ R.1.length = l.length + n ∧ (∃ l', R.1 = l ++ l' ∧ ∀ x ∈ l', jB x = true)
  | 0, i, l, R, h, hi => by cases h; exact ⟨Int.le_refl _, hi, rfl, [], by simp, by simp⟩
  | n + 1, i, l, R, h, hi => by
    rw [D5] at h
    by_cases h0 : (vC msg i).2.2 = 0
    · rw [if_pos h0] at h
      by_cases h1 : (vC msg i).2.1 > e
      · rw [if_pos h1] at h; cases h
      · rw [if_neg h1] at h
        obtain ⟨a1, a2, a3, l', a4, a5⟩ := qg msg e hm n _ _ R h (by omega)
        rcases tO msg i hm with ⟨_, b2, _, b4, _⟩ | ⟨b1, _⟩
        · refine ⟨by omega, a2, by rw [a3, List.length_append, List.length_singleton]; omega, (vC msg i).1 :: l', by rw [a4]; simp, ?_⟩
          intro x hx
          rcases List.mem_cons.mp hx with rfl | hx
          · exact b2
          · exact a5 x hx
        · omega
    · rw [if_neg h0] at h; cases h
def K0 : Nat := 101000
theorem qh {msg : ByteArray} {i : Int} {k : Nat} (hm : msg.size ≤ 100000) (hi : i ≤ (msg.size : Int)) (hk : K0 ≤ k) : rounds i ≤ k := by unfold rounds; unfold K0 at hk; omega
theorem BM (msg : ByteArray) (e s0 s1 s2 : Int) (a b : ByteArray) (hm : msg.size ≤ 100000) (he : e ≤ (msg.size : Int)) (h2 : 0 ≤ s2 ∧ s2 ≤ 1000) (c : Int) (hc : c ≤ 100) : ∀ (n k : Nat) (i x : Int) (l : List ByteArray), K0 + n ≤ k → x + n = c → 0 ≤ x → 0 ≤ i → i ≤ e → l.length + n ≤ 1000 →
    bV.l0 (k + 1) msg i e c x s0 s1 s2 a b l = (match D5 msg e n i l with
      | some R => some (a, msg.extract R.2.toNat e.toNat, R.1, (((msg.extract R.2.toNat e.toNat).size : Int) == s2))
      | none => some (⟨#[]⟩, ⟨#[]⟩, [], false))
  | 0, k, i, x, l, hk, hx, hx0, hi, hie, hl => by
    rw [bV.l0, if_neg (by omega), if_pos hi, if_pos hie, if_pos he, D5]
  | n + 1, k, i, x, l, hk, hx, hx0, hi, hie, hl => by
    obtain ⟨k, rfl⟩ : ∃ m, k = m + 1 := ⟨k - 1, by omega⟩
    rw [bV.l0, if_pos (by omega), QY (k + 1) msg i hm (qh hm (by omega) (by omega)), D5]
    simp only [Option.bind_some]
    by_cases h0 : (vC msg i).2.2 = 0
    · rw [if_pos h0, if_pos h0]
      by_cases h1 : (vC msg i).2.1 > e
      · rw [if_pos h1, if_pos h1]
      · rcases tO msg i hm with ⟨_, _, _, b4, _⟩ | ⟨b1, _⟩
        · rw [if_neg h1, if_neg h1, if_pos (by omega), dO (by omega) (by omega)]
          exact BM msg e s0 s1 s2 a b hm he h2 c hc n k _ (x + 1) _ (by omega) (by omega) (by omega) (by omega) (by omega) (by rw [List.length_append, List.length_singleton]; omega)
        · omega
    · rw [if_neg h0, if_neg h0]
def LY (s : ByteArray) : Nat → Int → Bool
  | 0, _ => false
  | k + 1, i => if i < (s.size : Int) then LY s k (i + 1 + bt s i) else decide (i = s.size)
def Fb (s : ByteArray) : Bool := decide (0 < s.size) && LY s (s.size + 1) 0
theorem Ui (s : ByteArray) {k : Nat} {i : Int} (h : (s.size : Int) < i) : LY s k i = false := by
  cases k with
  | zero => rfl
  | succ k => rw [LY, if_neg (by omega)]; simp; omega
theorem LZ (s : ByteArray) (hs : s.size ≤ 100000) (d : Nat) : ∀ (k m : Nat) (i : Int), 0 ≤ i → i ≤ (s.size : Int) → s.size - i.toNat ≤ d → d + 1 ≤ k → d + 1 ≤ m → dK.l0 k (s.extract i.toNat s.size) = some (LY s m i) := by
  induction d with
  | zero =>
    intro k m i h0 h1 h2 hk hm
    obtain ⟨k, rfl⟩ : ∃ j, k = j + 1 := ⟨k - 1, by omega⟩
    obtain ⟨m, rfl⟩ : ∃ j, m = j + 1 := ⟨m - 1, by omega⟩
    rw [dK.l0, if_pos (toList_nil.mpr (by rw [ByteArray.size_extract]; omega)), LY, if_neg (by omega), decide_eq_true (by omega)]
  | succ d ih =>
    intro k m i h0 h1 h2 hk hm
    obtain ⟨k, rfl⟩ : ∃ j, k = j + 1 := ⟨k - 1, by omega⟩
    obtain ⟨m, rfl⟩ : ∃ j, m = j + 1 := ⟨m - 1, by omega⟩
    have hz : (s.extract i.toNat s.size).size = s.size - i.toNat := by rw [ByteArray.size_extract]; omega
    by_cases hi : i < (s.size : Int)
    · have hb : bt (s.extract i.toNat s.size) 0 = bt s i := by
        rw [l5 (by omega) (by omega)]; congr 1; omega
      have hr := gq s i
      rw [dK.l0, if_neg (by rw [toList_nil]; omega), if_pos (by omega), hb, dO (n := bt s i) (by omega) (by omega), dO (n := 1 + bt s i) (by omega) (by omega), LY, if_pos hi]
      by_cases h3 : 1 + bt s i > ((s.extract i.toNat s.size).size : Int)
      · rw [if_pos h3, Ui s (by omega)]
      · rw [if_neg h3, if_pos (by omega), if_pos (by omega)]
        have e : (s.extract i.toNat s.size).extract (1 + bt s i).toNat (s.extract i.toNat s.size).size = s.extract (i + 1 + bt s i).toNat s.size := by
          rw [ByteArray.extract_extract, hz]
          congr 1 <;> omega
        rw [e]
        exact ih k m _ (by omega) (by omega) (by omega) (by omega) (by omega)
    · rw [dK.l0, if_pos (toList_nil.mpr (by omega)), LY, if_neg hi, decide_eq_true (by omega)]
theorem L6 (k : Nat) (hk : K0 ≤ k) (s : ByteArray) (hs : s.size ≤ 100000) : dK.f k s = some (Fb s) := by
  unfold dK.f Fb
  by_cases h : s.toList = ([] : List UInt8)
  · rw [if_pos h]; rw [toList_nil] at h; rw [h]; rfl
  · rw [if_neg h]
    rw [toList_nil] at h
    unfold K0 at hk
    have := LZ s hs s.size k (s.size + 1) 0 (by omega) (by omega) (by omega) (by omega) (by omega)
    rw [show (0 : Int).toNat = 0 from rfl, ByteArray.extract_zero_size] at this
    rw [this, decide_eq_true (by omega), Bool.true_and]
theorem BN (s : ByteArray) (hs : s.size ≤ 100000) (d : Nat) : ∀ (k m : Nat) (i : Int), 0 ≤ i → (i : Int) ≤ s.size + 300 → 0 < i ∨ 0 < s.size → s.size - i.toNat ≤ d → d + 1 ≤ k → d + 1 ≤ m → bn.l0 k s i = some (LY s m i) := by
  induction d with
  | zero =>
    intro k m i h0 h1 hp h2 hk hm
    obtain ⟨k, rfl⟩ : ∃ j, k = j + 1 := ⟨k - 1, by omega⟩
    obtain ⟨m, rfl⟩ : ∃ j, m = j + 1 := ⟨m - 1, by omega⟩
    have hlt : ¬ i < (s.size : Int) := by omega
    rw [bn.l0, if_neg hlt, LY, if_neg hlt]
    by_cases h : i = (s.size : Int)
    · rw [if_pos h, decide_eq_true (by omega), decide_eq_true h]
    · rw [if_neg h, decide_eq_false h]
  | succ d ih =>
    intro k m i h0 h1 hp h2 hk hm
    obtain ⟨k, rfl⟩ : ∃ j, k = j + 1 := ⟨k - 1, by omega⟩
    obtain ⟨m, rfl⟩ : ∃ j, m = j + 1 := ⟨m - 1, by omega⟩
    have hr := gq s i
    rw [bn.l0, LY]
    by_cases hi : i < (s.size : Int)
    · rw [if_pos hi, if_pos hi, if_pos h0, dO (n := bt s i) (by omega) (by omega), dO (n := i + 1) (by omega) (by omega), dO (by omega) (by omega)]
      exact ih k m _ (by omega) (by omega) (by omega) (by omega) (by omega) (by omega)
    · rw [if_neg hi, if_neg hi]
      by_cases h : i = (s.size : Int)
      · rw [if_pos h, decide_eq_true (by omega), decide_eq_true h]
      · rw [if_neg h, decide_eq_false h]
theorem BO (k : Nat) (hk : K0 ≤ k) (s : ByteArray) (hs : s.size ≤ 100000) : bn.f k s = some (Fb s) := by
  unfold bn.f Fb
  unfold K0 at hk
  by_cases h : 0 < s.size
  · rw [BN s hs s.size k (s.size + 1) 0 (by omega) (by omega) (by omega) (by omega) (by omega) (by omega), decide_eq_true h, Bool.true_and]
  · obtain ⟨k, rfl⟩ : ∃ j, k = j + 1 := ⟨k - 1, by omega⟩
    rw [bn.l0, if_neg (by omega), if_pos (by omega), decide_eq_false h]; rfl
end Go.Proofs.Ytdkkgecdhapfhaa.ZQ
namespace Go.Proofs.Ytdkkgecdhapfhaa.ZQ
open Go.RowKit Go.Proofs.YtdkkgecdhapfhaaW.bD Go.Proofs.YtdkkgecdhapfhaaW.dW Go.Proofs.YtdkkgecdhapfhaaW.eG Go.Proofs.Ytdkkgecdhapfhaa.B
theorem Fe (l m : List ByteArray) : strings_Join.cat (l ++ m) = strings_Join.cat l ++ strings_Join.cat m := by
  induction l with
  | nil => exact (empty_append _).symm
  | cons x l ih => rw [List.cons_append, strings_Join.cat, ih, strings_Join.cat, ByteArray.append_assoc]
theorem Pq (x : ByteArray) : strings_Join.cat [x] = x := append_empty x
theorem pq {n : ByteArray} (h : jB n = true) : n.size ≤ 255 := by
  obtain ⟨l, _, _, hz⟩ := Gf.mp h; exact hz
theorem tQ : ∀ {l : List ByteArray}, (∀ x ∈ l, jB x = true) → (strings_Join.cat l).size ≤ 255 * l.length
  | [], _ => Nat.zero_le _
  | x :: l, h => by
    have h1 := pq (h x (by simp))
    have h2 := tQ (l := l) (fun y hy => h y (by simp [hy]))
    rw [strings_Join.cat, ByteArray.size_append, List.length_cons]
    omega
def yu (d : ByteArray) : ByteArray × Int := if (d.size : Int) > 65535 then (⟨#[]⟩, 4) else (d, 0)
theorem uO (d : ByteArray) : (if (d.size : Int) > 65535 then some ((⟨#[]⟩ : ByteArray), (4 : Int)) else some (d, 0)) = some (yu d) := by
  unfold yu; split <;> rfl
def IL (msg : ByteArray) (i size : Int) (s : Int × Int × Int) : ByteArray × Int :=
  if s.1 ≤ size then (match D5 msg (i + size) s.2.1.toNat (i + s.1) [] with
    | some R => if R.2 + s.2.2 = i + size then yu (msg.extract i.toNat (i + s.1).toNat ++ strings_Join.cat R.1 ++ msg.extract R.2.toNat (i + size).toNat) else (⟨#[]⟩, 4)
    | none => (⟨#[]⟩, 4)) else (⟨#[]⟩, 4)
def y9 (msg : ByteArray) (i size kind : Int) : ByteArray × Int :=
  if gQ msg i size then (match aD.yh kind with
    | some s => IL msg i size s
    | none => if kind = 16 then (if Fb (msg.extract i.toNat (i + size).toNat) = true then yu (msg.extract i.toNat (i + size).toNat) else (⟨#[]⟩, 4)) else yu (msg.extract i.toNat (i + size).toNat))
  else (⟨#[]⟩, 2)
theorem kL {kind : Int} {s : Int × Int × Int} (h : aD.yh kind = some s) : 0 ≤ s.1 ∧ s.1 ≤ 16 ∧ 0 ≤ s.2.1 ∧ s.2.1 ≤ 2 ∧ 0 ≤ s.2.2 ∧ s.2.2 ≤ 20 ∧ kind ≠ 16 ∧ (s.1 = 0 → s.2.1 = 0 → False) := by
  unfold aD.yh at h
  repeat' split at h
  all_goals (first | (cases h; subst_vars; decide) | cases h)
theorem Uj (k : Nat) (hk : K0 ≤ k) (kind : Int) (hkind : kind ≠ 16) (d : ByteArray) : aD.fin k kind d true = some (yu d) := by
  unfold aD.fin
  rw [if_pos rfl, if_neg hkind, uO]
theorem uP (k : Nat) (kind : Int) (d : ByteArray) : aD.fin k kind d false = some (⟨#[]⟩, 4) := by
  unfold aD.fin; rw [if_neg Bool.false_ne_true]
theorem zX (msg : ByteArray) (i size kind : Int) (k : Nat) (hk : K0 ≤ k) (hm : msg.size ≤ 100000) (f : ByteArray → Option Bool) (hf : ∀ s, s.size ≤ 100000 → f s = some (Fb s)) (t : ByteArray) (ht : t.size ≤ 100000) :
    (if kind = 16 then ((f t).bind fun b => if b = true then (if (t.size : Int) > 65535 then some ((⟨#[]⟩ : ByteArray), (4 : Int)) else some (t, 0)) else some (⟨#[]⟩, 4)) else (if (t.size : Int) > 65535 then some (⟨#[]⟩, 4) else some (t, 0))) =
      some (if kind = 16 then (if Fb t = true then yu t else (⟨#[]⟩, 4)) else yu t) := by
  rw [hf t ht, uO]
  simp only [Option.bind_some]
  split
  · split <;> rfl
  · rfl
theorem IQ (k : Nat) (hk : K0 + 10 ≤ k) (msg : ByteArray) (i size kind : Int) (hm : msg.size ≤ 100000) (ht : gQ msg i size) (s : Int × Int × Int) (hs : aD.yh kind = some s) : aD.g k msg i size kind s = some (IL msg i size s) := by
  obtain ⟨h0, h1, h2⟩ := ht
  obtain ⟨a1, a2, a3, a4, a5, a6, a7, a8⟩ := kL hs
  obtain ⟨s0, s1, s2⟩ := s
  simp only at a1 a2 a3 a4 a5 a6 a8
  have e1 : wrap64 (i + size) = i + size := dO (by omega) (by omega)
  have e2 : wrap64 (i + size - i) = size := by rw [dO (by omega) (by omega)]; omega
  have e3 : wrap64 (i + s0) = i + s0 := dO (by omega) (by omega)
  unfold aD.g bV.f IL
  simp only [e1, e2, e3]
  by_cases c : s0 ≤ size
  · rw [if_pos c, if_pos c, if_pos h0, if_pos (by omega), if_pos (by omega)]
    obtain ⟨k, rfl⟩ : ∃ j, k = j + 1 := ⟨k - 1, by omega⟩
    rw [BM msg (i + size) s0 s1 s2 _ _ hm h2 ⟨a5, by omega⟩ s1 (by omega) s1.toNat k (i + s0) 0 [] (by omega) (by omega) (Int.le_refl _) (by omega) (by omega) (by simp only [List.length_nil]; omega)]
    have hz : (msg.extract i.toNat (i + s0).toNat).size ≤ 16 := by rw [ByteArray.size_extract]; omega
    cases hr : D5 msg (i + size) s1.toNat (i + s0) [] with
    | none =>
      simp only [Option.bind_some]
      rw [if_pos (by decide), if_pos (by decide), uP]
    | some R =>
      obtain ⟨b1, b2, b3, l', b4, b5⟩ := qg msg _ hm _ _ _ R hr (by omega)
      have hcz := tQ b5
      rw [List.nil_append] at b4
      rw [← b4] at hcz
      rw [List.length_nil, Nat.zero_add] at b3
      have hbz : (msg.extract R.2.toNat (i + size).toNat).size = (i + size - R.2).toNat := by rw [ByteArray.size_extract]; omega
      simp only [Option.bind_some]
      rw [if_pos (by omega), if_pos (by omega)]
      by_cases d : R.2 + s2 = i + size
      · rw [if_pos d, show (((msg.extract R.2.toNat (i + size).toNat).size : Int) == s2) = true from beq_iff_eq.mpr (by omega), Uj k.succ (by omega) kind a7]
      · rw [if_neg d, show (((msg.extract R.2.toNat (i + size).toNat).size : Int) == s2) = false from beq_eq_false_iff_ne.mpr (by omega), uP]
  · rw [if_neg c, if_neg c]
    simp only [Option.bind_some]
    rw [if_pos (by decide), if_pos (by decide), uP]
theorem Uk (k : Nat) (hk : K0 + 10 ≤ k) (msg : ByteArray) (i size kind : Int) (hm : msg.size ≤ 100000) : aD.f k msg i size kind = some (y9 msg i size kind) := by
  unfold aD.f y9
  rw [tJ msg i size (by omega)]
  simp only [Option.bind_some]
  by_cases ht : gQ msg i size
  · rw [if_pos ht, if_pos ht]
    simp only [if_true]
    cases hs : aD.yh kind with
    | some s => exact IQ k hk msg i size kind hm ht s hs
    | none =>
      have hz : (msg.extract i.toNat (i + size).toNat).size ≤ 100000 := by rw [ByteArray.size_extract]; omega
      have := zX msg i size kind k (by omega) hm (dK.f k) (fun s h => L6 k (by omega) s h) _ hz
      unfold aD.fin
      rw [if_pos rfl]
      exact this
  · rw [if_neg ht, if_neg ht]; rfl
theorem nU (k : Nat) (hk : 1 ≤ k) (kind : Int) : aH.f k kind = some ((aD.yh kind).getD (0, 0, 0)) := by
  obtain ⟨k, rfl⟩ : ∃ j, k = j + 1 := ⟨k - 1, by omega⟩
  unfold aH.f aD.yh
  simp only [aH.j0]
  by_cases h1 : kind = 1
  · subst h1; rfl
  by_cases h2 : kind = 28
  · subst h2; rfl
  by_cases h3 : kind = 2
  · subst h3; rfl
  by_cases h4 : kind = 5
  · subst h4; rfl
  by_cases h5 : kind = 12
  · subst h5; rfl
  by_cases h6 : kind = 6
  · subst h6; rfl
  by_cases h7 : kind = 15
  · subst h7; rfl
  by_cases h8 : kind = 33
  · subst h8; rfl
  simp [h1, h2, h3, h4, h5, h6, h7, h8]
theorem D6 (msg : ByteArray) (i size s0 s1 s2 : Int) (hm : msg.size ≤ 100000) (ht : gQ msg i size) (h2 : 0 ≤ s2 ∧ s2 ≤ 1000) (hs : s1 ≤ 100) : ∀ (n k : Nat) (j x : Int) (out : ByteArray), K0 + n ≤ k → x + n = s1 → 0 ≤ x → i + size < j → j ≤ (msg.size : Int) → out.size + 300 * n ≤ 1000000 →
    aX.l0 (k + 1) msg i size out j x s0 s1 s2 = some (⟨#[]⟩, 4)
  | 0, k, j, x, out, hk, hx, hx0, hj, hjm, ho => by
    obtain ⟨t0, t1, t2⟩ := ht
    rw [aX.l0, if_neg (by omega), dO (n := j + s2) (by omega) (by omega), dO (n := i + size) (by omega) (by omega), if_neg (by omega)]
  | n + 1, k, j, x, out, hk, hx, hx0, hj, hjm, ho => by
    obtain ⟨k, rfl⟩ : ∃ m, k = m + 1 := ⟨k - 1, by omega⟩
    rw [aX.l0, if_pos (by omega), uN (k + 1) msg j hm (qh hm (by omega) (by omega))]
    simp only [Option.bind_some]
    rcases tO msg j hm with ⟨b1, b2, _, b4, b5⟩ | ⟨b1, _⟩
    · have hz := pq b2
      rw [if_pos b1, if_pos (by omega), dO (n := x + 1) (by omega) (by omega)]
      exact D6 msg i size s0 s1 s2 hm ht h2 hs n k _ _ _ (by omega) (by omega) (by omega) (by omega) b5 (by rw [ByteArray.size_append]; omega)
    · rw [if_neg (by omega)]
theorem L8 (msg : ByteArray) (i size s0 s1 s2 : Int) (a : ByteArray) (hm : msg.size ≤ 100000) (ht : gQ msg i size) (h2 : 0 ≤ s2 ∧ s2 ≤ 1000) (hs : s1 ≤ 100) : ∀ (n k : Nat) (j x : Int) (l : List ByteArray), K0 + n ≤ k → x + n = s1 → 0 ≤ x → 0 ≤ j → j ≤ i + size → (a ++ strings_Join.cat l).size + 300 * n ≤ 800000 →
    aX.l0 (k + 1) msg i size (a ++ strings_Join.cat l) j x s0 s1 s2 = some (match D5 msg (i + size) n j l with
      | some R => if R.2 + s2 = i + size then yu (a ++ strings_Join.cat R.1 ++ msg.extract R.2.toNat (i + size).toNat) else (⟨#[]⟩, 4)
      | none => (⟨#[]⟩, 4))
  | 0, k, j, x, l, hk, hx, hx0, hj0, hj, ho => by
    obtain ⟨t0, t1, t2⟩ := ht
    rw [aX.l0, if_neg (by omega), dO (n := j + s2) (by omega) (by omega), dO (n := i + size) (by omega) (by omega), D5]
    simp only
    by_cases c : j + s2 = i + size
    · have hz : (msg.extract j.toNat (i + size).toNat).size ≤ 100000 := by rw [ByteArray.size_extract]; omega
      rw [if_pos c, if_pos c, if_pos hj0, if_pos hj, if_pos t2, if_pos (by omega), uO]
    · rw [if_neg c, if_neg c]
  | n + 1, k, j, x, l, hk, hx, hx0, hj0, hj, ho => by
    have ht0 := ht
    obtain ⟨t0, t1, t2⟩ := ht
    obtain ⟨k, rfl⟩ : ∃ m, k = m + 1 := ⟨k - 1, by omega⟩
    rw [aX.l0, if_pos (by omega), uN (k + 1) msg j hm (qh hm (by omega) (by omega)), D5]
    simp only [Option.bind_some]
    rcases tO msg j hm with ⟨b1, b2, _, b4, b5⟩ | ⟨b1, _⟩
    · have hz := pq b2
      rw [if_pos b1, if_pos b1, if_pos (by omega), dO (n := x + 1) (by omega) (by omega)]
      by_cases c : (vC msg j).2.1 > i + size
      · rw [if_pos c]
        exact D6 msg i size s0 s1 s2 hm ht0 h2 hs n k _ _ _ (by omega) (by omega) (by omega) (by omega) b5 (by rw [ByteArray.size_append]; omega)
      · rw [if_neg c]
        have e : a ++ strings_Join.cat l ++ (vC msg j).1 = a ++ strings_Join.cat (l ++ [(vC msg j).1]) := by rw [Fe, Pq, ByteArray.append_assoc]
        rw [e]
        exact L8 msg i size s0 s1 s2 a hm ht0 h2 hs n k _ _ _ (by omega) (by omega) (by omega) (by omega) (by omega) (by rw [← e, ByteArray.size_append]; omega)
    · rw [if_neg (by omega), if_neg (by omega)]
theorem Fg (k : Nat) (hk : K0 + 10 ≤ k) (msg : ByteArray) (i size kind : Int) (hm : msg.size ≤ 100000) : aX.f k msg i size kind = some (y9 msg i size kind) := by
  unfold aX.f y9
  rw [oV msg i size (by omega), nU k (by omega)]
  simp only [Option.bind_some]
  by_cases ht : gQ msg i size
  · rw [if_pos ht, if_pos ht]
    simp only [if_true]
    obtain ⟨t0, t1, t2⟩ := ht
    have hz : (msg.extract i.toNat (i + size).toNat).size = size.toNat := by rw [ByteArray.size_extract]; omega
    cases hs : aD.yh kind with
    | none =>
      simp only [Option.getD_none]
      rw [if_pos (by decide)]
      exact zX msg i size kind k (by omega) hm (bn.f k) (fun s h => BO k (by omega) s h) _ (by omega)
    | some s =>
      obtain ⟨a1, a2, a3, a4, a5, a6, a7, a8⟩ := kL hs
      obtain ⟨s0, s1, s2⟩ := s
      simp only at a1 a2 a3 a4 a5 a6 a8
      simp only [Option.getD_some]
      have main : (if s0 > size then some ((⟨#[]⟩ : ByteArray), (4 : Int)) else (if 0 ≤ s0 then (if s0 ≤ ((msg.extract i.toNat (i + size).toNat).size : Int) then (aX.l0 k msg i size ((msg.extract i.toNat (i + size).toNat).extract 0 (s0 : Int).toNat) (wrap64 (i + s0)) 0 s0 s1 s2) else none) else none)) = some (IL msg i size (s0, s1, s2)) := by
        unfold IL
        simp only
        by_cases c : s0 > size
        · rw [if_pos c, if_neg (by omega)]
        · rw [if_neg c, if_pos a1, if_pos (by omega), if_pos (by omega), dO (by omega) (by omega)]
          obtain ⟨k, rfl⟩ : ∃ j, k = j + 1 := ⟨k - 1, by omega⟩
          have e : (msg.extract i.toNat (i + size).toNat).extract 0 s0.toNat = msg.extract i.toNat (i + s0).toNat := by
            rw [ByteArray.extract_extract]; congr 1 <;> omega
          have hz2 : (msg.extract i.toNat (i + s0).toNat).size ≤ 16 := by rw [ByteArray.size_extract]; omega
          have h := L8 msg i size s0 s1 s2 (msg.extract i.toNat (i + s0).toNat) hm ⟨t0, t1, t2⟩ ⟨a5, by omega⟩ (by omega) s1.toNat k (i + s0) 0 [] (by omega) (by omega) (Int.le_refl _) (by omega) (by omega) (by simp only [strings_Join.cat, append_empty]; omega)
          simp only [strings_Join.cat, append_empty] at h
          rw [e, h]
      have hne : ¬ ((s0 == 0 && (s1 == 0 && (s2 == 0))) = true) := by
        intro h
        simp only [Bool.and_eq_true, beq_iff_eq] at h
        exact a8 h.1 h.2.1
      rw [if_neg hne]
      exact main
  · rw [if_neg ht, if_neg ht]; rfl
end Go.Proofs.Ytdkkgecdhapfhaa.ZQ
namespace Go.Proofs.Ytdkkgecdhapfhaa.ZQ
open Go.RowKit Go.Proofs.YtdkkgecdhapfhaaW.bD Go.Proofs.YtdkkgecdhapfhaaW.dW Go.Proofs.YtdkkgecdhapfhaaW.eG Go.Proofs.Ytdkkgecdhapfhaa.B
def vU (kind : Int) (d : ByteArray) : Bool := decide (d.size ≤ 65535) && (decide ((y9 d 0 d.size kind).2 = 0) && decide ((y9 d 0 d.size kind).1 = d))
theorem tT {kind : Int} {d : ByteArray} : vU kind d = true ↔ d.size ≤ 65535 ∧ y9 d 0 d.size kind = (d, 0) := by
  unfold vU
  simp only [Bool.and_eq_true, decide_eq_true_eq]
  constructor
  · rintro ⟨h1, h2, h3⟩; exact ⟨h1, Prod.ext h3 h2⟩
  · rintro ⟨h1, h2⟩; rw [h2]; exact ⟨h1, rfl, rfl⟩
theorem zY (k : Nat) (hk : K0 + 10 ≤ k) (kind : Int) (d : ByteArray) : iO.f k kind d = some (vU kind d) := by
  unfold iO.f vU
  by_cases h : (d.size : Int) > 65535
  · rw [if_pos h, decide_eq_false (by omega)]; rfl
  · rw [if_neg h, Uk k hk d 0 _ kind (by omega), decide_eq_true (by omega), Bool.true_and]
    simp only [Option.bind_some]
    by_cases h0 : (y9 d 0 d.size kind).2 = 0
    · rw [if_pos h0, decide_eq_true h0, xV, Bool.true_and]
    · rw [if_neg h0, decide_eq_false h0, Bool.false_and]
theorem mR (k : Nat) (hk : K0 + 10 ≤ k) (kind : Int) (d : ByteArray) : bR.f k kind d = some (vU kind d) := by
  unfold bR.f vU
  by_cases h : (d.size : Int) > 65535
  · rw [if_pos h, decide_eq_false (by omega)]; rfl
  · rw [if_neg h, Fg k hk d 0 _ kind (by omega), decide_eq_true (by omega), Bool.true_and]
    simp only [Option.bind_some]
    by_cases h0 : (y9 d 0 d.size kind).2 = 0
    · rw [if_pos h0, decide_eq_true h0, xV, Bool.true_and]
    · rw [if_neg h0, decide_eq_false h0, Bool.false_and]
theorem Fh (d : ByteArray) : gQ d 0 d.size := ⟨Int.le_refl _, by omega, by omega⟩
theorem IU {x d : ByteArray} (h : yu x = (d, 0)) : x = d ∧ x.size ≤ 65535 := by
  unfold yu at h
  split at h
  · have := congrArg Prod.snd h; cases this
  · exact ⟨congrArg Prod.fst h, by omega⟩
theorem pz {kind : Int} {d : ByteArray} {s : Int × Int × Int} (h : vU kind d = true) (hs : aD.yh kind = some s) :
    ∃ R, s.1 ≤ (d.size : Int) ∧ D5 d d.size s.2.1.toNat s.1 [] = some R ∧ R.2 + s.2.2 = d.size ∧ d = d.extract 0 s.1.toNat ++ strings_Join.cat R.1 ++ d.extract R.2.toNat d.size ∧ s.1 ≤ R.2 ∧ R.2 ≤ (d.size : Int) ∧ R.1.length = s.2.1.toNat ∧ (∀ x ∈ R.1, jB x = true) ∧ R.2 = s.1 + (strings_Join.cat R.1).size := by
  obtain ⟨h0, h1⟩ := tT.mp h
  unfold y9 IL at h1
  rw [if_pos (Fh d), hs] at h1
  simp only [Int.zero_add, Int.toNat_natCast] at h1
  obtain ⟨a1, a2, a3, a4, a5, a6, a7, a8⟩ := kL hs
  by_cases c : s.1 ≤ (d.size : Int)
  · rw [if_pos c] at h1
    cases hr : D5 d d.size s.2.1.toNat s.1 [] with
    | none => rw [hr] at h1; have := congrArg Prod.snd h1; cases this
    | some R =>
      rw [hr] at h1
      simp only at h1
      by_cases e : R.2 + s.2.2 = d.size
      · rw [if_pos e] at h1
        obtain ⟨h2, _⟩ := IU h1
        obtain ⟨b1, b2, b3, l', b4, b5⟩ := qg d _ (by omega) _ _ _ R hr c
        rw [List.nil_append] at b4
        rw [← b4] at b5
        have hz := congrArg ByteArray.size h2
        simp only [ByteArray.size_append, ByteArray.size_extract] at hz
        refine ⟨R, c, rfl, e, h2.symm, b1, b2, by rw [b3]; simp, b5, ?_⟩
        simp only [show (0 : Int).toNat = 0 from rfl] at hz
        omega
      · rw [if_neg e] at h1; have := congrArg Prod.snd h1; cases this
  · rw [if_neg c] at h1; have := congrArg Prod.snd h1; cases this
def prt (kind : Int) (d : ByteArray) : ByteArray × ByteArray × List ByteArray × Bool :=
  if vU kind d = true then (match aD.yh kind with
    | some s => (match D5 d d.size s.2.1.toNat s.1 [] with
      | some R => (d.extract 0 s.1.toNat, d.extract R.2.toNat d.size, R.1, true)
      | none => (⟨#[]⟩, ⟨#[]⟩, [], false))
    | none => (d, ⟨#[]⟩, [], true)) else (⟨#[]⟩, ⟨#[]⟩, [], false)
theorem uQ : (⟨#[]⟩ : ByteArray).size = 0 := rfl
theorem vO (k : Nat) (hk : K0 + 20 ≤ k) (d : ByteArray) (hd : d.size ≤ 65535) (s0 s1 s2 : Int) (a1 : 0 ≤ s0) (a3 : 0 ≤ s1) (a4 : s1 ≤ 2) (a5 : 0 ≤ s2) (a6 : s2 ≤ 20) (R : List ByteArray × Int) (c1 : s0 ≤ (d.size : Int)) (c2 : D5 d d.size s1.toNat s0 [] = some R) (c3 : R.2 + s2 = d.size) :
    bV.f k d 0 (d.size : Int) s0 s1 s2 = some (d.extract 0 s0.toNat, d.extract R.2.toNat d.size, R.1, true) := by
  unfold bV.f
  have e2 : wrap64 ((d.size : Int) - 0) = d.size := by rw [dO (by omega) (by omega)]; omega
  have e3 : wrap64 (0 + s0) = s0 := by rw [dO (by omega) (by omega)]; omega
  obtain ⟨b1, b2, _⟩ := qg d _ (by omega) _ _ _ R c2 c1
  have hz : ((d.extract R.2.toNat d.size).size : Int) = s2 := by rw [ByteArray.size_extract]; omega
  obtain ⟨k, rfl⟩ : ∃ j, k = j + 1 := ⟨k - 1, by omega⟩
  have h := BM d d.size s0 s1 s2 (d.extract 0 s0.toNat) ⟨#[]⟩ (by omega) (Int.le_refl _) ⟨a5, by omega⟩ s1 (by omega) s1.toNat k s0 0 [] (by omega) (by omega) (Int.le_refl _) a1 c1 (by simp only [List.length_nil]; omega)
  rw [c2] at h
  simp only [Int.toNat_natCast] at h
  rw [show (((d.extract R.2.toNat d.size).size : Int) == s2) = true from beq_iff_eq.mpr hz] at h
  rw [e2, if_pos c1, if_pos (Int.le_refl _), e3, if_pos a1, if_pos c1]
  exact h
theorem IV (k : Nat) (hk : K0 + 20 ≤ k) (kind : Int) (d : ByteArray) : dn.f k kind d = some (prt kind d) := by
  unfold dn.f prt
  rw [zY k (by omega)]
  simp only [Option.bind_some]
  by_cases h : vU kind d = true
  · rw [if_pos h, if_pos h]
    cases hs : aD.yh kind with
    | none => rfl
    | some s =>
      obtain ⟨R, c1, c2, c3, c4, c5, c6, c7, c8, c9⟩ := pz h hs
      obtain ⟨a1, a2, a3, a4, a5, a6, a7, a8⟩ := kL hs
      obtain ⟨h0, _⟩ := tT.mp h
      obtain ⟨s0, s1, s2⟩ := s
      simp only at a1 a2 a3 a4 a5 a6 c1 c2 c3 c5
      simp only [c2]
      exact vO k hk d h0 s0 s1 s2 a1 a3 a4 a5 a6 R c1 c2 c3
  · rw [if_neg h, if_neg h]
theorem zZ {kind : Int} {d : ByteArray} : (∀ x ∈ (prt kind d).2.2.1, jB x = true) ∧ (prt kind d).2.2.1.length ≤ 2 := by
  unfold prt
  by_cases h : vU kind d = true
  · rw [if_pos h]
    cases hs : aD.yh kind with
    | none => exact ⟨by simp, by simp⟩
    | some s =>
      obtain ⟨R, c1, c2, c3, c4, c5, c6, c7, c8, c9⟩ := pz h hs
      obtain ⟨a1, a2, a3, a4, a5, a6, a7, a8⟩ := kL hs
      simp only [c2]
      exact ⟨c8, by omega⟩
  · rw [if_neg h]; exact ⟨by simp, by simp⟩
theorem vD (k : Nat) (hk : 600 ≤ k) (n : ByteArray) (hs : n.size ≤ 1000000000) : l7.f k n = some (if jB n = true then oh n else ⟨#[]⟩) := by
  unfold l7.f
  rw [DK k hk n hs, TL n hs]
  simp only [Option.bind_some]
  split <;> rfl
theorem yw (k : Nat) (hk : 600 ≤ k) (n : ByteArray) (hs : n.size ≤ 1000000000) : fu.f k n = some (if jB n = true then oh n else ⟨#[]⟩) := by
  unfold fu.f
  rw [tF k hk n hs, Lm n hs]
  simp only [Option.bind_some]
  split <;> rfl
theorem all_eq (k : Nat) (hk : 600 ≤ k) : ∀ l : List ByteArray, (∀ x ∈ l, jB x = true) → eF.all k l = some (l.map oh)
  | [], _ => rfl
  | x :: l, h => by
    have hx := h x (by simp)
    have hz := pq hx
    rw [eF.all, vD k hk x (by omega), if_pos hx]
    simp only [Option.bind_some]
    rw [all_eq k hk l (fun y hy => h y (by simp [hy]))]
    rfl
theorem tV : ∀ l : List ByteArray, (strings_Join.cat (l.map oh)).size = (strings_Join.cat l).size
  | [] => rfl
  | x :: l => by rw [List.map_cons, strings_Join.cat, strings_Join.cat, ByteArray.size_append, ByteArray.size_append, zT, tV l]
def lw (kind : Int) (d : ByteArray) : ByteArray := (prt kind d).1 ++ strings_Join.cat ((prt kind d).2.2.1.map oh) ++ (prt kind d).2.1
theorem IW {kind : Int} {d : ByteArray} : (prt kind d).1.size ≤ 65535 ∧ (prt kind d).2.1.size ≤ 65535 := by
  unfold prt
  by_cases h : vU kind d = true
  · obtain ⟨h0, _⟩ := tT.mp h
    rw [if_pos h]
    cases hs : aD.yh kind with
    | none => exact ⟨h0, by show (⟨#[]⟩ : ByteArray).size ≤ 65535; decide⟩
    | some s =>
      obtain ⟨R, c1, c2, _⟩ := pz h hs
      simp only [c2]
      simp only [ByteArray.size_extract]
      omega
  · rw [if_neg h]; exact ⟨by decide, by decide⟩
theorem Pt (k : Nat) (hk : K0 + 20 ≤ k) (kind : Int) (d : ByteArray) : eF.f k kind d = some (lw kind d) := by
  obtain ⟨p1, p2⟩ := @zZ kind d
  obtain ⟨p3, p4⟩ := @IW kind d
  have hcz := tQ p1
  unfold eF.f
  rw [IV k hk]
  simp only [Option.bind_some]
  rw [all_eq k (by unfold K0 at hk; omega) _ p1]
  simp only [Option.bind_some]
  unfold eF.fin lw
  rw [if_pos (by rw [tV]; omega), if_pos (by rw [List.length_map]; omega)]
theorem tX (d : ByteArray) (e s0 s1 s2 : Int) (hm : d.size ≤ 100000) (he : e ≤ (d.size : Int)) (hs : s1 ≤ 100) : ∀ (n k : Nat) (l : List ByteArray) (i x : Int) (R : List ByteArray × Int), K0 + n ≤ k → x + n = s1 → 0 ≤ x → i ≤ e → l.length + n ≤ 1000 → D5 d e n i l = some R →
    bg.l0 (k + 1) d l i x s0 s1 s2 = some R.1
  | 0, k, l, i, x, R, hk, hx, hx0, hi, hl, h => by
    cases h
    rw [bg.l0, if_neg (by omega)]
  | n + 1, k, l, i, x, R, hk, hx, hx0, hi, hl, h => by
    obtain ⟨k, rfl⟩ : ∃ m, k = m + 1 := ⟨k - 1, by omega⟩
    rw [D5] at h
    rw [bg.l0, if_pos (by omega), uN (k + 1) d i hm (qh hm (by omega) (by omega))]
    simp only [Option.bind_some]
    by_cases h0 : (vC d i).2.2 = 0
    · rw [if_pos h0] at h
      by_cases h1 : (vC d i).2.1 > e
      · rw [if_pos h1] at h; cases h
      · rw [if_neg h1] at h
        rw [if_pos (by omega), dO (by omega) (by omega)]
        exact tX d e s0 s1 s2 hm he hs n k _ _ _ R (by omega) (by omega) (by omega) (by omega) (by rw [List.length_append, List.length_singleton]; omega) h
    · rw [if_neg h0] at h; cases h
theorem BP (k : Nat) (hk : K0 + 20 ≤ k) (kind : Int) (d : ByteArray) : bg.f k kind d = some (prt kind d).2.2.1 := by
  unfold bg.f prt
  rw [mR k (by omega), nU k (by omega)]
  simp only [Option.bind_some]
  obtain ⟨k, rfl⟩ : ∃ j, k = j + 1 := ⟨k - 1, by omega⟩
  by_cases h : vU kind d = true
  · rw [if_pos h, if_pos h]
    obtain ⟨h0, _⟩ := tT.mp h
    cases hs : aD.yh kind with
    | none =>
      rw [Option.getD_none, bg.l0, if_neg (by decide)]
    | some s =>
      obtain ⟨R, c1, c2, c3, c4, c5, c6, c7, c8, c9⟩ := pz h hs
      obtain ⟨a1, a2, a3, a4, a5, a6, a7, a8⟩ := kL hs
      simp only [c2, Option.getD_some]
      exact tX d d.size _ _ _ (by omega) (Int.le_refl _) (by omega) s.2.1.toNat k [] s.1 0 R (by omega) (by omega) (Int.le_refl _) c1 (by simp only [List.length_nil]; omega) c2
  · rw [if_neg h, if_neg h]
theorem Pv {α} (d : α) (p : List α) (x : α) (s : List α) : oL d (p ++ x :: s) (p.length : Int) = x := by
  unfold oL; simp
theorem rz (d : ByteArray) (hd : d.size ≤ 65535) (xs : List ByteArray) (hxs : xs.length ≤ 1000) : ∀ (suf pre : List ByteArray) (k : Nat) (out : ByteArray) (i : Int), xs = pre ++ suf → (∀ x ∈ suf, jB x = true) → 700 + suf.length ≤ k → 0 ≤ i → i + (strings_Join.cat suf).size ≤ d.size → out.size + (strings_Join.cat suf).size ≤ 1000000 →
    bG.l0 (k + 1) d xs out i (pre.length : Int) = some (out ++ strings_Join.cat (suf.map oh) ++ d.extract (i + (strings_Join.cat suf).size).toNat d.size)
  | [], pre, k, out, i, hx, hn, hk, hi, hs, ho => by
    rw [List.append_nil] at hx
    subst hx
    have hz : (d.extract i.toNat d.size).size ≤ 65535 := by rw [ByteArray.size_extract]; omega
    simp only [strings_Join.cat, List.map_nil, Dt, append_empty] at hs ho ⊢
    rw [bG.l0, if_neg (by omega), if_pos hi, if_pos (by omega), if_pos (by omega)]
    congr 3
    omega
  | x :: suf, pre, k, out, i, hx, hn, hk, hi, hs, ho => by
    obtain ⟨k, rfl⟩ : ∃ j, k = j + 1 := ⟨k - 1, by simp only [List.length_cons] at hk; omega⟩
    have hxn := hn x (by simp)
    have hz := pq hxn
    have hrd : oL ByteArray.empty xs (pre.length : Int) = x := by rw [hx]; exact Pv _ _ _ _
    have hl : (xs.length : Int) = pre.length + suf.length + 1 := by rw [hx]; simp; omega
    simp only [List.length_cons, strings_Join.cat, ByteArray.size_append] at hk hs ho
    have hlz := zT x
    rw [bG.l0, if_pos (by omega), if_pos (by omega), hrd, yw (k + 1) (by omega) x (by omega), if_pos hxn]
    simp only [Option.bind_some]
    rw [if_pos (by omega), dO (n := i + (x.size : Int)) (by omega) (by omega), dO (by omega) (by omega), show ((pre.length : Int) + 1) = ((pre ++ [x]).length : Int) from by simp]
    have := rz d hd xs hxs suf (pre ++ [x]) k (out ++ oh x) (i + x.size) (by rw [hx]; simp) (fun y hy => hn y (by simp [hy])) (by omega) (by omega) (by omega) (by rw [ByteArray.size_append]; omega)
    rw [this]
    have e : i + (x.size : Int) + ((strings_Join.cat suf).size : Int) = i + ((x.size + (strings_Join.cat suf).size : Nat) : Int) := by omega
    rw [e]
    simp only [List.map_cons, strings_Join.cat, ByteArray.size_append, ByteArray.append_assoc]
theorem Fj (k : Nat) (hk : K0 + 20 ≤ k) (kind : Int) (d : ByteArray) : bG.f k kind d = some (lw kind d) := by
  obtain ⟨p1, p2⟩ := @zZ kind d
  unfold bG.f
  rw [mR k (by omega), BP k hk, nU k (by omega)]
  simp only [Option.bind_some]
  unfold lw prt
  unfold prt at p1 p2
  unfold K0 at hk
  obtain ⟨k, rfl⟩ : ∃ j, k = j + 1 := ⟨k - 1, by omega⟩
  by_cases h : vU kind d = true
  · simp only [if_pos h] at p1 p2 ⊢
    obtain ⟨h0, _⟩ := tT.mp h
    cases hs : aD.yh kind with
    | none =>
      simp only [Option.getD_none]
      rw [if_pos (Int.le_refl _), if_pos (by omega)]
      have := rz d h0 [] (by simp) [] [] k (d.extract 0 0) 0 rfl (by simp) (by simp only [List.length_nil]; omega) (Int.le_refl _) (by simp only [strings_Join.cat, uQ]; omega) (by simp only [strings_Join.cat, uQ, ByteArray.size_extract]; omega)
      simp only [List.length_nil] at this
      rw [show ((0 : Int).toNat) = 0 from rfl, show ((0 : Nat) : Int) = 0 from rfl] at *
      rw [this]
      have e0 : d.extract 0 0 = ⟨#[]⟩ := eq_empty (by rw [ByteArray.size_extract]; omega)
      simp [strings_Join.cat, e0, empty_append, append_empty, uQ, ByteArray.extract_zero_size]
    | some s =>
      obtain ⟨R, c1, c2, c3, c4, c5, c6, c7, c8, c9⟩ := pz h hs
      obtain ⟨a1, a2, a3, a4, a5, a6, a7, a8⟩ := kL hs
      simp only [hs, c2, Option.getD_some] at p1 p2 ⊢
      have hcz := tQ p1
      rw [if_pos a1, if_pos c1]
      have := rz d h0 R.1 (by omega) R.1 [] k (d.extract 0 s.1.toNat) s.1 rfl p1 (by omega) a1 (by omega) (by rw [ByteArray.size_extract]; omega)
      rw [show ((([] : List ByteArray).length : Nat) : Int) = 0 from rfl] at this
      rw [this, c9]
  · simp only [if_neg h]
    rfl
end Go.Proofs.Ytdkkgecdhapfhaa.ZQ
set_option maxRecDepth 100000
namespace Go.Proofs.Ytdkkgecdhapfhaa.Ka
open Go Go.RowKit Ev
abbrev AG := List AV → Option (List AV × List AV)
def Ul (g : ByteArray → SV) : AG := fun gH => match gH with
  | [.one (.f (.str q))] => if q.size ≤ 1000000 then some (Mf [g q], Mf [.str q]) else none
  | _ => none
def Um (g : Int → ByteArray → SV) : AG := fun gH => match gH with
  | [.one (.f (.int .i64 k)), .one (.f (.str q))] => if q.size ≤ 1000000 then some (Mf [g k q], Mf [.int .i64 k, .str q]) else none
  | _ => none
theorem vZ {f : FuncId} {g : ByteArray → SV} (h : ∀ q w, q.size ≤ 1000000 → Calls Try.prog f #[.string q] w fun e w' => e = .returned (encS (g q)) ∧ Below w.heap.size w w') : Sat Try.prog f (Ul g) := by
  refine Sat.wu fun gH r he => ?_
  unfold Ul at he
  split at he
  · split at he
    · cases he; rename_i q hq; exact ⟨[.str q], [g q], rfl, rfl, fun w => h q w hq⟩
    · cases he
  · cases he
theorem wh {f : FuncId} {g : Int → ByteArray → SV} (h : ∀ k q w, q.size ≤ 1000000 → Calls Try.prog f #[.int .i64 k, .string q] w fun e w' => e = .returned (encS (g k q)) ∧ Below w.heap.size w w') : Sat Try.prog f (Um g) := by
  refine Sat.wu fun gH r he => ?_
  unfold Um at he
  split at he
  · split at he
    · cases he; rename_i k q hq; exact ⟨[.int .i64 k, .str q], [g k q], rfl, rfl, fun w => h k q w hq⟩
    · cases he
  · cases he
def Un (q : ByteArray) : ByteArray := if B.jB q = true then B.oh q else ⟨#[]⟩
def GY : Th := ⟨B.jB, Un, ZQ.vU, ZQ.lw⟩
def leafs : List (FuncId × AG) := [
  (91, Ul fun q => .bool (B.jB q)), (92, Ul fun q => .str (Un q)),
  (100, Ul fun q => .bool (B.jB q)), (101, Ul fun q => .str (Un q)),
  (94, Um fun k q => .bool (ZQ.vU k q)), (95, Um fun k q => .str (ZQ.lw k q)),
  (83, Um fun k q => .bool (ZQ.vU k q)), (84, Um fun k q => .str (ZQ.lw k q)),
  (88, NM 1 false), (70, NM 3 true)]
theorem D7 : ∀ p ∈ leafs, Sat Try.prog p.1 p.2 := by
  have hk : ∀ q : ByteArray, q.size ≤ 1000000 → q.size ≤ 1000000000 := fun q h => by omega
  intro p hp
  simp only [leafs, List.mem_cons, List.not_mem_nil, or_false] at hp
  rcases hp with rfl | rfl | rfl | rfl | rfl | rfl | rfl | rfl | rfl | rfl
  · exact vZ fun q w hq => ZQ.iL.calls 600 q _ w (ZQ.DK 600 (Nat.le_refl _) q (hk q hq))
  · exact vZ fun q w hq => ZQ.l7.calls 600 q _ w (ZQ.vD 600 (Nat.le_refl _) q (hk q hq))
  · exact vZ fun q w hq => ZQ.dA.calls 600 q _ w (ZQ.tF 600 (Nat.le_refl _) q (hk q hq))
  · exact vZ fun q w hq => ZQ.fu.calls 600 q _ w (ZQ.yw 600 (Nat.le_refl _) q (hk q hq))
  · exact wh fun k q w hq => ZQ.iO.calls _ k q _ w (ZQ.zY (ZQ.K0 + 20) (by omega) k q)
  · exact wh fun k q w hq => ZQ.eF.calls _ k q _ w (ZQ.Pt (ZQ.K0 + 20) (by omega) k q)
  · exact wh fun k q w hq => ZQ.bR.calls _ k q _ w (ZQ.mR (ZQ.K0 + 20) (by omega) k q)
  · exact wh fun k q w hq => ZQ.bG.calls _ k q _ w (ZQ.Fj (ZQ.K0 + 20) (by omega) k q)
  · exact NP
  · exact NQ
theorem yx : ∀ p ∈ leafs, ∃ fn, Try.prog.funcs[p.1]? = some fn ∧ (fn.name == "runtime.NumGoroutine") = false ∧ fn.body.isSome = true := by
  intro p hp
  simp only [leafs, List.mem_cons, List.not_mem_nil, or_false] at hp
  rcases hp with rfl | rfl | rfl | rfl | rfl | rfl | rfl | rfl | rfl | rfl
  · exact ⟨Try.f91, by kernel_rfl, by kernel_rfl, by kernel_rfl⟩
  · exact ⟨Try.f92, by kernel_rfl, by kernel_rfl, by kernel_rfl⟩
  · exact ⟨Try.f100, by kernel_rfl, by kernel_rfl, by kernel_rfl⟩
  · exact ⟨Try.f101, by kernel_rfl, by kernel_rfl, by kernel_rfl⟩
  · exact ⟨Try.f94, by kernel_rfl, by kernel_rfl, by kernel_rfl⟩
  · exact ⟨Try.f95, by kernel_rfl, by kernel_rfl, by kernel_rfl⟩
  · exact ⟨Try.f83, by kernel_rfl, by kernel_rfl, by kernel_rfl⟩
  · exact ⟨Try.f84, by kernel_rfl, by kernel_rfl, by kernel_rfl⟩
  · exact ⟨Try.f88, by kernel_rfl, by kernel_rfl, by kernel_rfl⟩
  · exact ⟨Try.f70, by kernel_rfl, by kernel_rfl, by kernel_rfl⟩
def Fp : Env := sI leafs
theorem Pw : iP Try.prog Fp := xB D7
theorem IX : eP Try.prog Fp := qX yx
noncomputable def ins : List (FuncId × AG) := (19, uY Fp 200000000000001 9) :: leafs
theorem Uo : ∀ p ∈ ins, Sat Try.prog p.1 p.2 := by
  intro p hp
  rcases List.mem_cons.mp hp with rfl | hp
  · exact NR Pw IX _ _
  · exact D7 p hp
theorem L9 : ∀ p ∈ ins, ∃ fn, Try.prog.funcs[p.1]? = some fn ∧ (fn.name == "runtime.NumGoroutine") = false ∧ fn.body.isSome = true := by
  intro p hp
  rcases List.mem_cons.mp hp with rfl | hp
  · exact ⟨Try.f19, by kernel_rfl, by kernel_rfl, by kernel_rfl⟩
  · exact yx p hp
noncomputable def ext1 : Env := sI ins
theorem Px : iP Try.prog ext1 := xB Uo
theorem IY : eP Try.prog ext1 := qX L9
theorem Zt : GY.Ok Fp := by
  constructor <;> intros <;> simp_all [Fp, leafs, sI, Ul, Um, Mf, tvS, GY, vs, vb, vi]
theorem GZ {α : Type} (sz : Nat) (own : Bool) (l : List α) (f : α → List FV) (hf : ∀ x, (f x).length = sz) (h : l.length ≤ 1000000) : NM sz own [vl (l.map f)] = some ([.one (if own then .own sz (l.map f) else .f (.sl (l.map f)))], [vl (l.map f)]) := by
  have h1 : ((l.map f).all fun r => r.length == sz) = true := by
    rw [List.all_eq_true]; intro r hr; obtain ⟨x, -, rfl⟩ := List.mem_map.mp hr; exact beq_iff_eq.mpr (hf x)
  show (if (l.map f).length ≤ 1000000 ∧ _ then _ else _) = _
  rw [if_pos ⟨by rw [List.length_map]; exact h, h1⟩]
theorem Zu (l : List ByteArray) (h : l.length ≤ 1000000) : NM 1 false [vl (l.map gJ)] = some ([vl (l.map gJ)], [vl (l.map gJ)]) := GZ 1 false l gJ (fun _ => rfl) h
theorem Zv (l : List Qn) (h : l.length ≤ 1000000) : NM 3 true [vl (l.map rQ)] = some ([.one (.own 3 (l.map rQ))], [vl (l.map rQ)]) := GZ 3 true l rQ (fun _ => rfl) h
theorem Zw : qW Fp := ⟨fun l h => Zv l h, fun l h => Zu l h⟩
theorem Uq : qW ext1 := ⟨fun l h => Zv l h, fun l h => Zu l h⟩
theorem D8 (gH : List AV) : ext1 19 gH = uY Fp 200000000000001 (0 + 9) gH := by
  unfold ext1 ins sI; rw [if_pos rfl]
theorem Py : F6 GY ext1 where
  p0 now x r := by rw [D8]; exact KG now x r
  p1 s now x r h1 h2 h3 _ h4 h5 h6 := by rw [D8]; exact KH Zt Zw s now x r (Nat.le_refl _) h1 h2 h3 h4 h5 h6
theorem Pz : GY.Live := by constructor <;> decide +kernel
end Go.Proofs.Ytdkkgecdhapfhaa.Ka

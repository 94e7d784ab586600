/- A part of the proof of StoreUsed: cut, joined and given short names by a program of this session (wip/tools/pack.py); Lean checks it. No condition. -/
import Derived.Test.YtdkkgecdhapfhaaPSUedj
import Derived.Test.YtdkkgecdhapfhaaPSUedl
import Derived.Test.YtdkkgecdhapfhaaPSUedk
import Derived.Test.YtdkkgecdhapfhaaPSUedi
import Derived.Test.YtdkkgecdhapfhaaPSUedh
import Derived.Test.YtdkkgecdhapfhaaPSUedd
set_option linter.unusedSectionVars false
set_option linter.unusedSimpArgs false
set_option linter.unusedVariables false
namespace Go.Proofs.Ytdkkgecdhapfhaa.ZQ
open Go.RowKit Go.Proofs.YtdkkgecdhapfhaaW.bD Go.Proofs.YtdkkgecdhapfhaaW.dV Go.Proofs.YtdkkgecdhapfhaaW.eD
attribute [local go_sem] ji jk j4 j5 iA iB jl jm
attribute [local go_sem high] TL
def aH.j0 : Nat → Int → Bool → Option (Int × Int × Int)
  | 0, _, _ => none
  | k + 1, x3, x4 => if x4 = true then (some (0, 1, 0)) else (if x3 = 6 then (some (0, 2, 20)) else (if x3 = 15 then (some (2, 1, 0)) else (if x3 = 33 then (some (6, 1, 0)) else (if x3 = 1 then (some (4, 0, 0)) else (if x3 = 28 then (some (16, 0, 0)) else (some (0, 0, 0)))))))
def aH.f (k : Nat) (a0 : Int) : Option (Int × Int × Int) := if a0 = 2 then (aH.j0 k a0 (a0 == 2)) else (if a0 = 5 then (aH.j0 k a0 (a0 == 5)) else (aH.j0 k a0 (a0 == 12)))
set_option maxHeartbeats 8000000 in
set_option maxRecDepth 100000 in
theorem aH.calls (k : Nat) (a0 : Int) (r1 : Int) (r2 : Int) (r3 : Int) (w : World) (h : aH.f k a0 = some (r1, r2, r3)) :
    Calls Try.prog 106 #[.int .i64 a0] w fun e w' => e = .returned (.agg #[.int .i64 r1, .int .i64 r2, .int .i64 r3]) ∧ Below w.heap.size w w' := by
  have Lf := Try.underlying142
  have HB := aj.mk (Below.refl w.heap.size w)
  have H : (if a0 = 2 then (aH.j0 k a0 (a0 == 2)) else (if a0 = 5 then (aH.j0 k a0 (a0 == 5)) else (aH.j0 k a0 (a0 == 12)))) = some (r1, r2, r3) := h
  clear h
  have Tq := aj.mk H
  clear H
  go_enter Try.func106, Try.ntmps106
  go_upto_if 4 with (first | ((with_reducible refine gF (N := 2) rfl ?_); refine fP ?hg (N := 2) ?hd (cs := #[.int .i64 0, .int .i64 0, .int .i64 0]) (t := 142) ?hr ?_; (case hd => rfl); (case hg => rfl); (case hr => first | (go_simp; done) | (go_simp; rfl)); intro gT hg w3 gQ hb; have dX := aj.mk (bE (by repeat (first | (with_reducible first | exact HB.out | apply ak | apply ah | apply au) | exact HB.out)) hb); have gV := aj.mk (gQ); have iZ := aj.mk ((by rw [hg]; exact (bL (by repeat (first | (with_reducible first | exact HB.out | apply ak | apply ah | apply au) | exact HB.out))) : w.heap.size ≤ gT)); have jG := aj.mk ((by rw [hg]; exact (bL (by repeat (first | (with_reducible first | exact HB.out | apply ak | apply ah | apply au) | exact HB.out))) : w.heap.size ≤ gT)); clear HB; have HB := dX; have dU := gV; have afA := iZ; have qH := jG; clear dX gV iZ jG; clear hb gQ hg))
  (try simp only [Act.put, List.setIfInBounds_toArray, List.set_cons_zero, List.set_cons_succ])
  go_cut [4] (fun v4 wc => ∃ (kq : Nat) (qj : Bool), v4 = .bool qj ∧ aj (aH.j0 kq a0 qj = some (r1, r2, r3)) ∧ aj (kq ≤ k) ∧ aj (wc.heap[gT]? = some (.cells #[.int .i64 0, .int .i64 0, .int .i64 0] 142 (0, 0))) ∧ aj (Below w.heap.size w wc))
  case first =>
    have H := Tq.out
    clear Tq
    by_cases c4 : a0 = 2
    · rw [if_pos c4] at H
      have qm : (a0 == 2) = true := beq_iff_eq.mpr c4
      have Ij : (a0 != 2) = false := bne_eq_false_iff_eq.mpr c4
      clear c4
      (first | rw [qm] | rw [KR] | (simp only [gM, gZ]; rw [qm]) | skip)
      have H' := aj.mk H
      clear H
      go_wp2
      go_meet
      case rel => exact ⟨_, ((a0 == 2)), (by first | rfl | (simp; done) | (simp [*]; done) | (simp [B.aV]; done) | (simp [B.aW]; done)), H', ⟨by first | omega | exact Nat.le_refl _⟩, ⟨by (with_reducible repeat (first | refine aG ?_ _ | refine aI ?_ | refine aA ?_ _)); exact dU.out⟩, ⟨by repeat (first | (with_reducible first | exact HB.out | apply ak | apply ah | apply au | refine aR ?_ qH.out) | exact HB.out)⟩⟩
    · rw [if_neg c4] at H
      have qm : (a0 == 2) = false := beq_eq_false_iff_ne.mpr c4
      have Ij : (a0 != 2) = true := bne_iff_ne.mpr c4
      (first | rw [qm] | rw [KR] | (simp only [gM, gZ]; rw [qm]) | skip)
      by_cases c5 : a0 = 5
      · rw [if_pos c5] at H
        have oN : (a0 == 5) = true := beq_iff_eq.mpr c5
        have uF : (a0 != 5) = false := bne_eq_false_iff_eq.mpr c5
        clear c5
        have H' := aj.mk H
        clear H
        go_wp2
        go_meet
        case rel => exact ⟨_, ((a0 == 5)), (by first | rfl | (simp; done) | (simp [*]; done) | (simp [B.aV]; done) | (simp [B.aW]; done)), H', ⟨by first | omega | exact Nat.le_refl _⟩, ⟨by (with_reducible repeat (first | refine aG ?_ _ | refine aI ?_ | refine aA ?_ _)); exact dU.out⟩, ⟨by repeat (first | (with_reducible first | exact HB.out | apply ak | apply ah | apply au | refine aR ?_ qH.out) | exact HB.out)⟩⟩
      · rw [if_neg c5] at H
        have oN : (a0 == 5) = false := beq_eq_false_iff_ne.mpr c5
        have uF : (a0 != 5) = true := bne_iff_ne.mpr c5
        have H' := aj.mk H
        clear H
        go_wp2
        go_meet
        case rel => exact ⟨_, ((a0 == 12)), (by first | rfl | (simp; done) | (simp [*]; done) | (simp [B.aV]; done) | (simp [B.aW]; done)), H', ⟨by first | omega | exact Nat.le_refl _⟩, ⟨by (with_reducible repeat (first | refine aG ?_ _ | refine aI ?_ | refine aA ?_ _)); exact dU.out⟩, ⟨by repeat (first | (with_reducible first | exact HB.out | apply ak | apply ah | apply au | refine aR ?_ qH.out) | exact HB.out)⟩⟩
  case rest =>
    clear Tq
    try clear c1
    try clear p2
    try clear c4
    try clear qm
    try clear Ij
    try clear KR
    try clear c5
    try clear oN
    try clear uF
    obtain ⟨kq, qj, rfl, HA, HJ1, dU, HB⟩ := hcut
    cases kq with
    | zero => exact absurd HA.out (by simp [aH.j0])
    | succ kj1 =>
      have H := HA.out
      clear HA
      simp only [aH.j0] at H
      by_cases c6 : qj = true
      · subst c6
        have H1 : (some (0, 1, 0)) = some (r1, r2, r3) := by rw [if_pos rfl] at H; exact H
        clear H
        have H := H1
        clear H1
        simp only [Option.some.injEq, Prod.mk.injEq] at H
        obtain ⟨rfl, rfl, rfl⟩ := H
        have adG : wc.cell? ⟨gT, 0, none⟩ = some (.int .i64 0) := (aM dU.out 0).trans rfl
        have adH : wc.cell? ⟨gT, 1, none⟩ = some (.int .i64 0) := (aM dU.out 1).trans rfl
        have adI : wc.cell? ⟨gT, 2, none⟩ = some (.int .i64 0) := (aM dU.out 2).trans rfl
        have adJ := ay dU.out 0
        have adK := ay dU.out 1
        have adL := ay dU.out 2
        go_wp2
        refine bodyPost_ret (results_cell_row rfl _ _ gT 142 #[.int .i64 0, .int .i64 1, .int .i64 0] (0, 0) _ rfl (by (with_reducible repeat (first | refine aG ?_ _ | refine aI ?_ | refine aA ?_ _)); refine bU (cs := #[.int .i64 0, .int .i64 1, .int .i64 0]) ?_ 2 _ rfl; (with_reducible repeat (first | refine aG ?_ _ | refine aI ?_ | refine aA ?_ _)); refine bU (cs := #[.int .i64 0, .int .i64 0, .int .i64 0]) ?_ 1 _ rfl; (with_reducible repeat (first | refine aG ?_ _ | refine aI ?_ | refine aA ?_ _)); refine bU (cs := #[.int .i64 0, .int .i64 0, .int .i64 0]) ?_ 0 _ rfl; (with_reducible repeat (first | refine aG ?_ _ | refine aI ?_ | refine aA ?_ _)); exact dU.out) Try.underlying142 rfl (by kernel_rfl)) rfl ?_
        exact ⟨by first | rfl | (simp [aJ, aK] <;> rfl) | (simp [*, aJ, aK] <;> rfl), by repeat (first | (with_reducible first | exact HB.out | apply ak | apply ah | apply au | refine aR ?_ qH.out) | exact HB.out)⟩
      · replace c6 := Bool.eq_false_iff.mpr c6
        subst c6
        have H1 : (if a0 = 6 then (some (0, 2, 20)) else (if a0 = 15 then (some (2, 1, 0)) else (if a0 = 33 then (some (6, 1, 0)) else (if a0 = 1 then (some (4, 0, 0)) else (if a0 = 28 then (some (16, 0, 0)) else (some (0, 0, 0))))))) = some (r1, r2, r3) := by rw [if_neg (show ¬ (false = true) by decide)] at H; exact H
        clear H
        have H := H1
        clear H1
        by_cases c8 : a0 = 6
        · rw [if_pos c8] at H
          have qV : (a0 == 6) = true := beq_iff_eq.mpr c8
          have qW : (a0 != 6) = false := bne_eq_false_iff_eq.mpr c8
          clear c8
          simp only [Option.some.injEq, Prod.mk.injEq] at H
          obtain ⟨rfl, rfl, rfl⟩ := H
          have Lg : wc.cell? ⟨gT, 0, none⟩ = some (.int .i64 0) := (aM dU.out 0).trans rfl
          have Lh : wc.cell? ⟨gT, 1, none⟩ = some (.int .i64 0) := (aM dU.out 1).trans rfl
          have Li : wc.cell? ⟨gT, 2, none⟩ = some (.int .i64 0) := (aM dU.out 2).trans rfl
          have Lj := ay dU.out 0
          have Ll := ay dU.out 1
          have Lm := ay dU.out 2
          go_wp2
          refine bodyPost_ret (results_cell_row rfl _ _ gT 142 #[.int .i64 0, .int .i64 2, .int .i64 20] (0, 0) _ rfl (by (with_reducible repeat (first | refine aG ?_ _ | refine aI ?_ | refine aA ?_ _)); refine bU (cs := #[.int .i64 0, .int .i64 2, .int .i64 0]) ?_ 2 _ rfl; (with_reducible repeat (first | refine aG ?_ _ | refine aI ?_ | refine aA ?_ _)); refine bU (cs := #[.int .i64 0, .int .i64 0, .int .i64 0]) ?_ 1 _ rfl; (with_reducible repeat (first | refine aG ?_ _ | refine aI ?_ | refine aA ?_ _)); refine bU (cs := #[.int .i64 0, .int .i64 0, .int .i64 0]) ?_ 0 _ rfl; (with_reducible repeat (first | refine aG ?_ _ | refine aI ?_ | refine aA ?_ _)); exact dU.out) Try.underlying142 rfl (by kernel_rfl)) rfl ?_
          exact ⟨by first | rfl | (simp [aJ, aK] <;> rfl) | (simp [*, aJ, aK] <;> rfl), by repeat (first | (with_reducible first | exact HB.out | apply ak | apply ah | apply au | refine aR ?_ qH.out) | exact HB.out)⟩
        · rw [if_neg c8] at H
          have qV : (a0 == 6) = false := beq_eq_false_iff_ne.mpr c8
          have qW : (a0 != 6) = true := bne_iff_ne.mpr c8
          by_cases c10 : a0 = 15
          · rw [if_pos c10] at H
            have qG : (a0 == 15) = true := beq_iff_eq.mpr c10
            have zD : (a0 != 15) = false := bne_eq_false_iff_eq.mpr c10
            clear c10
            simp only [Option.some.injEq, Prod.mk.injEq] at H
            obtain ⟨rfl, rfl, rfl⟩ := H
            have abv : wc.cell? ⟨gT, 0, none⟩ = some (.int .i64 0) := (aM dU.out 0).trans rfl
            have abw : wc.cell? ⟨gT, 1, none⟩ = some (.int .i64 0) := (aM dU.out 1).trans rfl
            have abx : wc.cell? ⟨gT, 2, none⟩ = some (.int .i64 0) := (aM dU.out 2).trans rfl
            have aby := ay dU.out 0
            have abz := ay dU.out 1
            have abA := ay dU.out 2
            go_wp2
            refine bodyPost_ret (results_cell_row rfl _ _ gT 142 #[.int .i64 2, .int .i64 1, .int .i64 0] (0, 0) _ rfl (by (with_reducible repeat (first | refine aG ?_ _ | refine aI ?_ | refine aA ?_ _)); refine bU (cs := #[.int .i64 2, .int .i64 1, .int .i64 0]) ?_ 2 _ rfl; (with_reducible repeat (first | refine aG ?_ _ | refine aI ?_ | refine aA ?_ _)); refine bU (cs := #[.int .i64 2, .int .i64 0, .int .i64 0]) ?_ 1 _ rfl; (with_reducible repeat (first | refine aG ?_ _ | refine aI ?_ | refine aA ?_ _)); refine bU (cs := #[.int .i64 0, .int .i64 0, .int .i64 0]) ?_ 0 _ rfl; (with_reducible repeat (first | refine aG ?_ _ | refine aI ?_ | refine aA ?_ _)); exact dU.out) Try.underlying142 rfl (by kernel_rfl)) rfl ?_
            exact ⟨by first | rfl | (simp [aJ, aK] <;> rfl) | (simp [*, aJ, aK] <;> rfl), by repeat (first | (with_reducible first | exact HB.out | apply ak | apply ah | apply au | refine aR ?_ qH.out) | exact HB.out)⟩
          · rw [if_neg c10] at H
            have qG : (a0 == 15) = false := beq_eq_false_iff_ne.mpr c10
            have zD : (a0 != 15) = true := bne_iff_ne.mpr c10
            by_cases c12 : a0 = 33
            · rw [if_pos c12] at H
              have sU : (a0 == 33) = true := beq_iff_eq.mpr c12
              have sV : (a0 != 33) = false := bne_eq_false_iff_eq.mpr c12
              clear c12
              simp only [Option.some.injEq, Prod.mk.injEq] at H
              obtain ⟨rfl, rfl, rfl⟩ := H
              have Bf : wc.cell? ⟨gT, 0, none⟩ = some (.int .i64 0) := (aM dU.out 0).trans rfl
              have Bg : wc.cell? ⟨gT, 1, none⟩ = some (.int .i64 0) := (aM dU.out 1).trans rfl
              have Bh : wc.cell? ⟨gT, 2, none⟩ = some (.int .i64 0) := (aM dU.out 2).trans rfl
              have Bj := ay dU.out 0
              have Bl := ay dU.out 1
              have Bn := ay dU.out 2
              go_wp2
              refine bodyPost_ret (results_cell_row rfl _ _ gT 142 #[.int .i64 6, .int .i64 1, .int .i64 0] (0, 0) _ rfl (by (with_reducible repeat (first | refine aG ?_ _ | refine aI ?_ | refine aA ?_ _)); refine bU (cs := #[.int .i64 6, .int .i64 1, .int .i64 0]) ?_ 2 _ rfl; (with_reducible repeat (first | refine aG ?_ _ | refine aI ?_ | refine aA ?_ _)); refine bU (cs := #[.int .i64 6, .int .i64 0, .int .i64 0]) ?_ 1 _ rfl; (with_reducible repeat (first | refine aG ?_ _ | refine aI ?_ | refine aA ?_ _)); refine bU (cs := #[.int .i64 0, .int .i64 0, .int .i64 0]) ?_ 0 _ rfl; (with_reducible repeat (first | refine aG ?_ _ | refine aI ?_ | refine aA ?_ _)); exact dU.out) Try.underlying142 rfl (by kernel_rfl)) rfl ?_
              exact ⟨by first | rfl | (simp [aJ, aK] <;> rfl) | (simp [*, aJ, aK] <;> rfl), by repeat (first | (with_reducible first | exact HB.out | apply ak | apply ah | apply au | refine aR ?_ qH.out) | exact HB.out)⟩
            · rw [if_neg c12] at H
              have sU : (a0 == 33) = false := beq_eq_false_iff_ne.mpr c12
              have sV : (a0 != 33) = true := bne_iff_ne.mpr c12
              by_cases c14 : a0 = 1
              · rw [if_pos c14] at H
                have zF : (a0 == 1) = true := beq_iff_eq.mpr c14
                have Qx : (a0 != 1) = false := bne_eq_false_iff_eq.mpr c14
                clear c14
                simp only [Option.some.injEq, Prod.mk.injEq] at H
                obtain ⟨rfl, rfl, rfl⟩ := H
                have Bo : wc.cell? ⟨gT, 0, none⟩ = some (.int .i64 0) := (aM dU.out 0).trans rfl
                have Bp : wc.cell? ⟨gT, 1, none⟩ = some (.int .i64 0) := (aM dU.out 1).trans rfl
                have Bq : wc.cell? ⟨gT, 2, none⟩ = some (.int .i64 0) := (aM dU.out 2).trans rfl
                have Bt := ay dU.out 0
                have Bu := ay dU.out 1
                have Bv := ay dU.out 2
                go_wp2
                refine bodyPost_ret (results_cell_row rfl _ _ gT 142 #[.int .i64 4, .int .i64 0, .int .i64 0] (0, 0) _ rfl (by (with_reducible repeat (first | refine aG ?_ _ | refine aI ?_ | refine aA ?_ _)); refine bU (cs := #[.int .i64 4, .int .i64 0, .int .i64 0]) ?_ 2 _ rfl; (with_reducible repeat (first | refine aG ?_ _ | refine aI ?_ | refine aA ?_ _)); refine bU (cs := #[.int .i64 4, .int .i64 0, .int .i64 0]) ?_ 1 _ rfl; (with_reducible repeat (first | refine aG ?_ _ | refine aI ?_ | refine aA ?_ _)); refine bU (cs := #[.int .i64 0, .int .i64 0, .int .i64 0]) ?_ 0 _ rfl; (with_reducible repeat (first | refine aG ?_ _ | refine aI ?_ | refine aA ?_ _)); exact dU.out) Try.underlying142 rfl (by kernel_rfl)) rfl ?_
                exact ⟨by first | rfl | (simp [aJ, aK] <;> rfl) | (simp [*, aJ, aK] <;> rfl), by repeat (first | (with_reducible first | exact HB.out | apply ak | apply ah | apply au | refine aR ?_ qH.out) | exact HB.out)⟩
              · rw [if_neg c14] at H
                have zF : (a0 == 1) = false := beq_eq_false_iff_ne.mpr c14
                have Qx : (a0 != 1) = true := bne_iff_ne.mpr c14
                by_cases c16 : a0 = 28
                · rw [if_pos c16] at H
                  have Gd : (a0 == 28) = true := beq_iff_eq.mpr c16
                  have YH : (a0 != 28) = false := bne_eq_false_iff_eq.mpr c16
                  clear c16
                  simp only [Option.some.injEq, Prod.mk.injEq] at H
                  obtain ⟨rfl, rfl, rfl⟩ := H
                  have abB : wc.cell? ⟨gT, 0, none⟩ = some (.int .i64 0) := (aM dU.out 0).trans rfl
                  have abC : wc.cell? ⟨gT, 1, none⟩ = some (.int .i64 0) := (aM dU.out 1).trans rfl
                  have abD : wc.cell? ⟨gT, 2, none⟩ = some (.int .i64 0) := (aM dU.out 2).trans rfl
                  have abE := ay dU.out 0
                  have abF := ay dU.out 1
                  have abG := ay dU.out 2
                  go_wp2
                  refine bodyPost_ret (results_cell_row rfl _ _ gT 142 #[.int .i64 16, .int .i64 0, .int .i64 0] (0, 0) _ rfl (by (with_reducible repeat (first | refine aG ?_ _ | refine aI ?_ | refine aA ?_ _)); refine bU (cs := #[.int .i64 16, .int .i64 0, .int .i64 0]) ?_ 2 _ rfl; (with_reducible repeat (first | refine aG ?_ _ | refine aI ?_ | refine aA ?_ _)); refine bU (cs := #[.int .i64 16, .int .i64 0, .int .i64 0]) ?_ 1 _ rfl; (with_reducible repeat (first | refine aG ?_ _ | refine aI ?_ | refine aA ?_ _)); refine bU (cs := #[.int .i64 0, .int .i64 0, .int .i64 0]) ?_ 0 _ rfl; (with_reducible repeat (first | refine aG ?_ _ | refine aI ?_ | refine aA ?_ _)); exact dU.out) Try.underlying142 rfl (by kernel_rfl)) rfl ?_
                  exact ⟨by first | rfl | (simp [aJ, aK] <;> rfl) | (simp [*, aJ, aK] <;> rfl), by repeat (first | (with_reducible first | exact HB.out | apply ak | apply ah | apply au | refine aR ?_ qH.out) | exact HB.out)⟩
                · rw [if_neg c16] at H
                  have Gd : (a0 == 28) = false := beq_eq_false_iff_ne.mpr c16
                  have YH : (a0 != 28) = true := bne_iff_ne.mpr c16
                  simp only [Option.some.injEq, Prod.mk.injEq] at H
                  obtain ⟨rfl, rfl, rfl⟩ := H
                  have Gw : wc.cell? ⟨gT, 0, none⟩ = some (.int .i64 0) := (aM dU.out 0).trans rfl
                  have Gx : wc.cell? ⟨gT, 1, none⟩ = some (.int .i64 0) := (aM dU.out 1).trans rfl
                  have Gy : wc.cell? ⟨gT, 2, none⟩ = some (.int .i64 0) := (aM dU.out 2).trans rfl
                  have Gz := ay dU.out 0
                  have GA := ay dU.out 1
                  have GD := ay dU.out 2
                  go_wp2
                  refine bodyPost_ret (results_cell_row rfl _ _ gT 142 #[.int .i64 0, .int .i64 0, .int .i64 0] (0, 0) _ rfl (by (with_reducible repeat (first | refine aG ?_ _ | refine aI ?_ | refine aA ?_ _)); refine bU (cs := #[.int .i64 0, .int .i64 0, .int .i64 0]) ?_ 2 _ rfl; (with_reducible repeat (first | refine aG ?_ _ | refine aI ?_ | refine aA ?_ _)); refine bU (cs := #[.int .i64 0, .int .i64 0, .int .i64 0]) ?_ 1 _ rfl; (with_reducible repeat (first | refine aG ?_ _ | refine aI ?_ | refine aA ?_ _)); refine bU (cs := #[.int .i64 0, .int .i64 0, .int .i64 0]) ?_ 0 _ rfl; (with_reducible repeat (first | refine aG ?_ _ | refine aI ?_ | refine aA ?_ _)); exact dU.out) Try.underlying142 rfl (by kernel_rfl)) rfl ?_
                  exact ⟨by first | rfl | (simp [aJ, aK] <;> rfl) | (simp [*, aJ, aK] <;> rfl), by repeat (first | (with_reducible first | exact HB.out | apply ak | apply ah | apply au | refine aR ?_ qH.out) | exact HB.out)⟩
def bn.l0 : Nat → ByteArray → Int → Option (Bool)
  | 0, _, _ => none
  | k + 1, x0, x3 => if x3 < (x0.size : Int) then (if 0 ≤ x3 then (bn.l0 k x0 (wrap64 ((wrap64 (x3 + 1)) + (wrap64 (bt x0 x3))))) else (none)) else (if x3 = (x0.size : Int) then (some (decide (x3 > 0))) else (some false))
def bn.f (k : Nat) (a0 : ByteArray) : Option (Bool) := bn.l0 k a0 0
set_option maxHeartbeats 8000000 in
set_option maxRecDepth 100000 in
theorem bn.calls (k : Nat) (a0 : ByteArray) (r : Bool) (w : World) (h : bn.f k a0 = some r) :
    Calls Try.prog 117 #[.string a0] w fun e w' => e = .returned (.bool r) ∧ aY w w' := by
  have H : (bn.l0 k a0 0) = some r := h
  clear h
  have H' := aj.mk H
  clear H
  go_enter Try.func117, Try.ntmps117
  go_wp2
  go_loopg [3] k (fun kq v3 w' => ∃ (nY : Int), v3 = .int .i64 nY ∧ aj (bn.l0 kq a0 nY = some r) ∧ aj (kq ≤ k) ∧ aY w w')
  case atStart => exact ⟨(0), (by first | rfl | (simp; done) | (simp [*]; done) | (simp [B.aV]; done) | (simp [B.aW]; done)), H', ⟨Nat.le_refl _⟩, by repeat (first | exact aY.refl _ | apply aY.step)⟩
  case round =>
    clear H'
    try clear c1
    obtain ⟨nY, rfl, HA, sQ, ⟨m1, rfl⟩⟩ := hrel
    cases gk with
    | zero => exact absurd HA.out (by simp [bn.l0])
    | succ k1 =>
      have H := HA.out
      clear HA
      simp only [bn.l0] at H
      by_cases c2 : nY < (a0.size : Int)
      · rw [if_pos c2] at H
        have vD : decide (nY < (a0.size : Int)) = true := decide_eq_true c2
        clear c2
        by_cases c3 : 0 ≤ nY
        · rw [if_pos c3] at H
          have qo : decide (0 ≤ nY) = true := decide_eq_true c3
          clear c3
          have H' := aj.mk H
          clear H
          have p4 : 0 ≤ (nY : Int) := of_decide_eq_true (by first | (with_reducible assumption) | assumption)
          have q4 : nY < (a0.size : Int) := of_decide_eq_true (by first | (with_reducible assumption) | assumption)
          have hx4 := ny a0 nY
          replace p4 := eq_true p4
          replace q4 := eq_true q4
          go_wp2
          go_roundg k1
          case measure => have := sQ.out; omega
          case rel => exact ⟨(wrap64 ((wrap64 (nY + 1)) + (wrap64 (bt a0 nY)))), (by first | rfl | (simp; done) | (simp [*]; done) | (simp [B.aV]; done) | (simp [B.aW]; done)), H', ⟨by have := sQ.out; omega⟩, by repeat (first | exact aY.refl _ | apply aY.step)⟩
        · rw [if_neg c3] at H
          exact absurd H (by simp)
      · rw [if_neg c2] at H
        have vD : decide (nY < (a0.size : Int)) = false := decide_eq_false c2
        clear c2
        by_cases c5 : nY = (a0.size : Int)
        · rw [if_pos c5] at H
          have oN : (nY == (a0.size : Int)) = true := beq_iff_eq.mpr c5
          have uF : (nY != (a0.size : Int)) = false := bne_eq_false_iff_eq.mpr c5
          clear c5
          obtain rfl := Option.some.inj H
          go_wp2
          go_ret
          exact ⟨by first | rfl | (simp; done) | (simp [*]; done), by repeat (first | exact aY.refl _ | apply aY.step)⟩
        · rw [if_neg c5] at H
          have oN : (nY == (a0.size : Int)) = false := beq_eq_false_iff_ne.mpr c5
          have uF : (nY != (a0.size : Int)) = true := bne_iff_ne.mpr c5
          obtain rfl := Option.some.inj H
          go_wp2
          go_ret
          exact ⟨by first | rfl | (simp; done) | (simp [*]; done), by repeat (first | exact aY.refl _ | apply aY.step)⟩
def aX.l0 : Nat → ByteArray → Int → Int → ByteArray → Int → Int → Int → Int → Int → Option (ByteArray × Int)
  | 0, _, _, _, _, _, _, _, _, _ => none
  | k + 1, x0, x1, x2, YI, NH, x15, Oo, GH, GI => if x15 < GH then ((aU.f k x0 NH).bind fun GJ => (if GJ.2.2 = 0 then (if YI.size + GJ.1.size ≤ 9223372036854775807 then (aX.l0 k x0 x1 x2 (YI ++ GJ.1) GJ.2.1 (wrap64 (x15 + 1)) Oo GH GI) else (none)) else (some ((⟨#[]⟩ : ByteArray), 4)))) else (if (wrap64 (NH + GI)) = (wrap64 (x1 + x2)) then (if 0 ≤ NH then (if NH ≤ (wrap64 (x1 + x2)) then (if (wrap64 (x1 + x2)) ≤ (x0.size : Int) then (if YI.size + (x0.extract (NH : Int).toNat ((wrap64 (x1 + x2)) : Int).toNat).size ≤ 9223372036854775807 then (if ((YI ++ (x0.extract (NH : Int).toNat ((wrap64 (x1 + x2)) : Int).toNat)).size : Int) > 65535 then (some ((⟨#[]⟩ : ByteArray), 4)) else (some (YI ++ (x0.extract (NH : Int).toNat ((wrap64 (x1 + x2)) : Int).toNat), 0))) else (none)) else (none)) else (none)) else (none)) else (some ((⟨#[]⟩ : ByteArray), 4)))
def aX.f (k : Nat) (a0 : ByteArray) (a1 : Int) (a2 : Int) (a3 : Int) : Option (ByteArray × Int) := (bC.f a0 a1 a2).bind fun kW => (if kW.2 = true then ((aH.f k a3).bind fun eT => (if (eT.1 == 0 && (eT.2.1 == 0 && (eT.2.2 == 0))) = true then (if a3 = 16 then ((bn.f k kW.1).bind fun vG => (if vG = true then (if (kW.1.size : Int) > 65535 then (some ((⟨#[]⟩ : ByteArray), 4)) else (some (kW.1, 0))) else (some ((⟨#[]⟩ : ByteArray), 4)))) else (if (kW.1.size : Int) > 65535 then (some ((⟨#[]⟩ : ByteArray), 4)) else (some (kW.1, 0)))) else (if eT.1 > a2 then (some ((⟨#[]⟩ : ByteArray), 4)) else (if 0 ≤ eT.1 then (if eT.1 ≤ (kW.1.size : Int) then (aX.l0 k a0 a1 a2 (kW.1.extract 0 (eT.1 : Int).toNat) (wrap64 (a1 + eT.1)) 0 eT.1 eT.2.1 eT.2.2) else (none)) else (none))))) else (some ((⟨#[]⟩ : ByteArray), 2)))
set_option maxHeartbeats 8000000 in
set_option maxRecDepth 100000 in
theorem aX.calls (k : Nat) (a0 : ByteArray) (a1 : Int) (a2 : Int) (a3 : Int) (r1 : ByteArray) (r2 : Int) (w : World) (h : aX.f k a0 a1 a2 a3 = some (r1, r2)) :
    Calls Try.prog 104 #[.string a0, .int .i64 a1, .int .i64 a2, .int .i64 a3] w fun e w' => e = .returned (.tuple #[.string r1, .int .i64 r2]) ∧ Below w.heap.size w w' := by
  have Lf := Try.underlying142
  have HB := aj.mk (Below.refl w.heap.size w)
  have H : ((bC.f a0 a1 a2).bind fun kW => (if kW.2 = true then ((aH.f k a3).bind fun eT => (if (eT.1 == 0 && (eT.2.1 == 0 && (eT.2.2 == 0))) = true then (if a3 = 16 then ((bn.f k kW.1).bind fun vG => (if vG = true then (if (kW.1.size : Int) > 65535 then (some ((⟨#[]⟩ : ByteArray), 4)) else (some (kW.1, 0))) else (some ((⟨#[]⟩ : ByteArray), 4)))) else (if (kW.1.size : Int) > 65535 then (some ((⟨#[]⟩ : ByteArray), 4)) else (some (kW.1, 0)))) else (if eT.1 > a2 then (some ((⟨#[]⟩ : ByteArray), 4)) else (if 0 ≤ eT.1 then (if eT.1 ≤ (kW.1.size : Int) then (aX.l0 k a0 a1 a2 (kW.1.extract 0 (eT.1 : Int).toNat) (wrap64 (a1 + eT.1)) 0 eT.1 eT.2.1 eT.2.2) else (none)) else (none))))) else (some ((⟨#[]⟩ : ByteArray), 2)))) = some (r1, r2) := h
  clear h
  replace H := zbm H
  obtain ⟨⟨t160, YJ⟩, QF, H⟩ := H
  replace H : (if YJ = true then ((aH.f k a3).bind fun eT => (if (eT.1 == 0 && (eT.2.1 == 0 && (eT.2.2 == 0))) = true then (if a3 = 16 then ((bn.f k t160).bind fun vG => (if vG = true then (if (t160.size : Int) > 65535 then (some ((⟨#[]⟩ : ByteArray), 4)) else (some (t160, 0))) else (some ((⟨#[]⟩ : ByteArray), 4)))) else (if (t160.size : Int) > 65535 then (some ((⟨#[]⟩ : ByteArray), 4)) else (some (t160, 0)))) else (if eT.1 > a2 then (some ((⟨#[]⟩ : ByteArray), 4)) else (if 0 ≤ eT.1 then (if eT.1 ≤ (t160.size : Int) then (aX.l0 k a0 a1 a2 (t160.extract 0 (eT.1 : Int).toNat) (wrap64 (a1 + eT.1)) 0 eT.1 eT.2.1 eT.2.2) else (none)) else (none))))) else (some ((⟨#[]⟩ : ByteArray), 2))) = some (r1, r2) := H
  have A5 := aj.mk QF
  clear QF
  by_cases c6 : YJ = true
  · subst c6
    have H1 : ((aH.f k a3).bind fun eT => (if (eT.1 == 0 && (eT.2.1 == 0 && (eT.2.2 == 0))) = true then (if a3 = 16 then ((bn.f k t160).bind fun vG => (if vG = true then (if (t160.size : Int) > 65535 then (some ((⟨#[]⟩ : ByteArray), 4)) else (some (t160, 0))) else (some ((⟨#[]⟩ : ByteArray), 4)))) else (if (t160.size : Int) > 65535 then (some ((⟨#[]⟩ : ByteArray), 4)) else (some (t160, 0)))) else (if eT.1 > a2 then (some ((⟨#[]⟩ : ByteArray), 4)) else (if 0 ≤ eT.1 then (if eT.1 ≤ (t160.size : Int) then (aX.l0 k a0 a1 a2 (t160.extract 0 (eT.1 : Int).toNat) (wrap64 (a1 + eT.1)) 0 eT.1 eT.2.1 eT.2.2) else (none)) else (none))))) = some (r1, r2) := by rw [if_pos rfl] at H; exact H
    clear H
    have H := H1
    clear H1
    replace H := zbm H
    obtain ⟨⟨t162, kD, t164⟩, XU, H⟩ := H
    replace H : (if (t162 == 0 && (kD == 0 && (t164 == 0))) = true then (if a3 = 16 then ((bn.f k t160).bind fun vG => (if vG = true then (if (t160.size : Int) > 65535 then (some ((⟨#[]⟩ : ByteArray), 4)) else (some (t160, 0))) else (some ((⟨#[]⟩ : ByteArray), 4)))) else (if (t160.size : Int) > 65535 then (some ((⟨#[]⟩ : ByteArray), 4)) else (some (t160, 0)))) else (if t162 > a2 then (some ((⟨#[]⟩ : ByteArray), 4)) else (if 0 ≤ t162 then (if t162 ≤ (t160.size : Int) then (aX.l0 k a0 a1 a2 (t160.extract 0 (t162 : Int).toNat) (wrap64 (a1 + t162)) 0 t162 kD t164) else (none)) else (none)))) = some (r1, r2) := H
    have A7 := aj.mk XU
    clear XU
    by_cases c8 : (t162 == 0 && (kD == 0 && (t164 == 0))) = true
    · rw [if_pos c8] at H
      have qV : (t162 == 0 && (kD == 0 && (t164 == 0))) = true := c8
      (try (have qW : decide (t162 = 0 && (kD == 0 && (t164 == 0))) = true := by simpa using c8))
      (try (have KZ : (t162 == 0 && (kD == 0 && (t164 == 0))) = true := by simpa using c8))
      clear c8
      by_cases c9 : a3 = 16
      · rw [if_pos c9] at H
        have sS : (a3 == 16) = true := beq_iff_eq.mpr c9
        have Dq : (a3 != 16) = false := bne_eq_false_iff_eq.mpr c9
        clear c9
        replace H := zbm H
        obtain ⟨vG, K9, H⟩ := H
        replace H : (if vG = true then (if (t160.size : Int) > 65535 then (some ((⟨#[]⟩ : ByteArray), 4)) else (some (t160, 0))) else (some ((⟨#[]⟩ : ByteArray), 4))) = some (r1, r2) := H
        have Qz := aj.mk K9
        clear K9
        by_cases c11 : vG = true
        · subst c11
          have H1 : (if (t160.size : Int) > 65535 then (some ((⟨#[]⟩ : ByteArray), 4)) else (some (t160, 0))) = some (r1, r2) := by rw [if_pos rfl] at H; exact H
          clear H
          have H := H1
          clear H1
          by_cases c12 : (t160.size : Int) > 65535
          · rw [if_pos c12] at H
            have sU : decide (65535 < (t160.size : Int)) = true := decide_eq_true c12
            have sV : decide (65535 < t160.size) = true := decide_eq_true (by omega)
            clear c12
            simp only [Option.some.injEq, Prod.mk.injEq] at H
            obtain ⟨rfl, rfl⟩ := H
            go_enter Try.func104, Try.ntmps104
            go_wp2_with (first | ((with_reducible refine aQ (f := 99) rfl ?_); refine bP (some 23) rfl rfl Try.func99 (by kernel_rfl) rfl #[.string a0, .int .i64 a1, .int .i64 a2] rfl (by (try simp only [List.map_toArray, List.map_cons, List.map_nil]); first | done | rfl | (simp only [List.length_drop, List.length_take]; rfl) | (simp only [ByteArray.size_append, Int.natCast_add]; rfl) | (rw [B.dO] <;> first | rfl | omega | (simp only [decide_eq_false_iff_not, decide_eq_true_eq, Int.not_lt, Nat.not_lt, gt_iff_lt] at * <;> omega))) ?_; (with_reducible refine (bC.calls a0 a1 a2 t160 true _ A5.out).mono ?_); rintro e w' ⟨rfl, ⟨nd, rfl⟩⟩; refine ⟨_, rfl, ?_⟩) | ((with_reducible refine aQ (f := 106) rfl ?_); refine bP (some 29) rfl rfl Try.func106 (by kernel_rfl) rfl #[.int .i64 a3] rfl (by (try simp only [List.map_toArray, List.map_cons, List.map_nil]); first | done | rfl | (simp only [List.length_drop, List.length_take]; rfl) | (simp only [ByteArray.size_append, Int.natCast_add]; rfl) | (rw [B.dO] <;> first | rfl | omega | (simp only [decide_eq_false_iff_not, decide_eq_true_eq, Int.not_lt, Nat.not_lt, gt_iff_lt] at * <;> omega))) ?_; (with_reducible refine (aH.calls k a3 t162 kD t164 _ A7.out).mono ?_); rintro e w13 ⟨rfl, hb⟩; refine ⟨_, rfl, ?_⟩; have dX := aj.mk (bE (by repeat (first | (with_reducible first | exact HB.out | apply ak | apply ah | apply au) | exact HB.out)) hb); clear HB; have HB := dX; clear dX; (try clear hb); (try clear hb2); (try clear hk); (try clear hi)) | ((with_reducible refine gF (N := 12) rfl ?_); (try (refine jo (by rfl) ?_; dsimp only)); refine fP ?hg (N := 12) ?hd (cs := #[.int .i64 0, .int .i64 0, .int .i64 0]) (t := 142) ?hr ?_; (case hd => rfl); (case hg => rfl); (case hr => first | (go_simp; done) | (go_simp; rfl)); intro dL hg w14 gQ hb; have dX := aj.mk (bE (by repeat (first | (with_reducible first | exact HB.out | apply ak | apply ah | apply au) | exact HB.out)) hb); have gV := aj.mk (gQ); have iZ := aj.mk ((by rw [hg]; exact (bL (by repeat (first | (with_reducible first | exact HB.out | apply ak | apply ah | apply au) | exact HB.out))) : w.heap.size ≤ dL)); have jG := aj.mk ((by rw [hg]; exact (bL (by repeat (first | (with_reducible first | exact HB.out | apply ak | apply ah | apply au) | exact HB.out))) : w.heap.size ≤ dL)); clear HB; have HB := dX; have bT := gV; have zL := iZ; have kF := jG; clear dX gV iZ jG; clear hb gQ hg; have Bo : w14.cell? ⟨dL, 0, none⟩ = some (.int .i64 0) := (aM bT.out 0).trans rfl; have Bp : w14.cell? ⟨dL, 1, none⟩ = some (.int .i64 0) := (aM bT.out 1).trans rfl; have Bq : w14.cell? ⟨dL, 2, none⟩ = some (.int .i64 0) := (aM bT.out 2).trans rfl; have Bt := ay bT.out 0; have Bu := ay bT.out 1; have Bv := ay bT.out 2) | (go_at_call 117; (with_reducible refine (bn.calls k t160 true _ Qz.out).mono ?_); rintro e w' ⟨rfl, ⟨nd, rfl⟩⟩))
            go_ret2
            exact ⟨by first | rfl | (simp [aJ, aK] <;> rfl) | (simp [*, aJ, aK] <;> rfl), by repeat (first | (with_reducible first | exact HB.out | apply ak | apply ah | apply au | refine aR ?_ kF.out) | exact HB.out)⟩
          · rw [if_neg c12] at H
            have sU : decide (65535 < (t160.size : Int)) = false := decide_eq_false c12
            have sV : decide (65535 < t160.size) = false := decide_eq_false (by omega)
            clear c12
            simp only [Option.some.injEq, Prod.mk.injEq] at H
            obtain ⟨rfl, rfl⟩ := H
            go_enter Try.func104, Try.ntmps104
            go_wp2_with (first | ((with_reducible refine aQ (f := 99) rfl ?_); refine bP (some 23) rfl rfl Try.func99 (by kernel_rfl) rfl #[.string a0, .int .i64 a1, .int .i64 a2] rfl (by (try simp only [List.map_toArray, List.map_cons, List.map_nil]); first | done | rfl | (simp only [List.length_drop, List.length_take]; rfl) | (simp only [ByteArray.size_append, Int.natCast_add]; rfl) | (rw [B.dO] <;> first | rfl | omega | (simp only [decide_eq_false_iff_not, decide_eq_true_eq, Int.not_lt, Nat.not_lt, gt_iff_lt] at * <;> omega))) ?_; (with_reducible refine (bC.calls a0 a1 a2 t160 true _ A5.out).mono ?_); rintro e w' ⟨rfl, ⟨nd, rfl⟩⟩; refine ⟨_, rfl, ?_⟩) | ((with_reducible refine aQ (f := 106) rfl ?_); refine bP (some 29) rfl rfl Try.func106 (by kernel_rfl) rfl #[.int .i64 a3] rfl (by (try simp only [List.map_toArray, List.map_cons, List.map_nil]); first | done | rfl | (simp only [List.length_drop, List.length_take]; rfl) | (simp only [ByteArray.size_append, Int.natCast_add]; rfl) | (rw [B.dO] <;> first | rfl | omega | (simp only [decide_eq_false_iff_not, decide_eq_true_eq, Int.not_lt, Nat.not_lt, gt_iff_lt] at * <;> omega))) ?_; (with_reducible refine (aH.calls k a3 t162 kD t164 _ A7.out).mono ?_); rintro e w16 ⟨rfl, hb⟩; refine ⟨_, rfl, ?_⟩; have dX := aj.mk (bE (by repeat (first | (with_reducible first | exact HB.out | apply ak | apply ah | apply au) | exact HB.out)) hb); clear HB; have HB := dX; clear dX; (try clear hb); (try clear hb2); (try clear hk); (try clear hi)) | ((with_reducible refine gF (N := 12) rfl ?_); (try (refine jo (by rfl) ?_; dsimp only)); refine fP ?hg (N := 12) ?hd (cs := #[.int .i64 0, .int .i64 0, .int .i64 0]) (t := 142) ?hr ?_; (case hd => rfl); (case hg => rfl); (case hr => first | (go_simp; done) | (go_simp; rfl)); intro dL hg w17 gQ hb; have dX := aj.mk (bE (by repeat (first | (with_reducible first | exact HB.out | apply ak | apply ah | apply au) | exact HB.out)) hb); have gV := aj.mk (gQ); have iZ := aj.mk ((by rw [hg]; exact (bL (by repeat (first | (with_reducible first | exact HB.out | apply ak | apply ah | apply au) | exact HB.out))) : w.heap.size ≤ dL)); have jG := aj.mk ((by rw [hg]; exact (bL (by repeat (first | (with_reducible first | exact HB.out | apply ak | apply ah | apply au) | exact HB.out))) : w.heap.size ≤ dL)); clear HB; have HB := dX; have bT := gV; have zL := iZ; have kF := jG; clear dX gV iZ jG; clear hb gQ hg; have Gw : w17.cell? ⟨dL, 0, none⟩ = some (.int .i64 0) := (aM bT.out 0).trans rfl; have Gx : w17.cell? ⟨dL, 1, none⟩ = some (.int .i64 0) := (aM bT.out 1).trans rfl; have Gy : w17.cell? ⟨dL, 2, none⟩ = some (.int .i64 0) := (aM bT.out 2).trans rfl; have Gz := ay bT.out 0; have GA := ay bT.out 1; have GD := ay bT.out 2) | (go_at_call 117; (with_reducible refine (bn.calls k t160 true _ Qz.out).mono ?_); rintro e w' ⟨rfl, ⟨nd, rfl⟩⟩))
            go_ret2
            exact ⟨by first | rfl | (simp [aJ, aK] <;> rfl) | (simp [*, aJ, aK] <;> rfl), by repeat (first | (with_reducible first | exact HB.out | apply ak | apply ah | apply au | refine aR ?_ kF.out) | exact HB.out)⟩
        · replace c11 := Bool.eq_false_iff.mpr c11
          subst c11
          have H1 : (some ((⟨#[]⟩ : ByteArray), 4)) = some (r1, r2) := by rw [if_neg (show ¬ (false = true) by decide)] at H; exact H
          clear H
          have H := H1
          clear H1
          simp only [Option.some.injEq, Prod.mk.injEq] at H
          obtain ⟨rfl, rfl⟩ := H
          go_enter Try.func104, Try.ntmps104
          go_wp2_with (first | ((with_reducible refine aQ (f := 99) rfl ?_); refine bP (some 23) rfl rfl Try.func99 (by kernel_rfl) rfl #[.string a0, .int .i64 a1, .int .i64 a2] rfl (by (try simp only [List.map_toArray, List.map_cons, List.map_nil]); first | done | rfl | (simp only [List.length_drop, List.length_take]; rfl) | (simp only [ByteArray.size_append, Int.natCast_add]; rfl) | (rw [B.dO] <;> first | rfl | omega | (simp only [decide_eq_false_iff_not, decide_eq_true_eq, Int.not_lt, Nat.not_lt, gt_iff_lt] at * <;> omega))) ?_; (with_reducible refine (bC.calls a0 a1 a2 t160 true _ A5.out).mono ?_); rintro e w' ⟨rfl, ⟨nd, rfl⟩⟩; refine ⟨_, rfl, ?_⟩) | ((with_reducible refine aQ (f := 106) rfl ?_); refine bP (some 29) rfl rfl Try.func106 (by kernel_rfl) rfl #[.int .i64 a3] rfl (by (try simp only [List.map_toArray, List.map_cons, List.map_nil]); first | done | rfl | (simp only [List.length_drop, List.length_take]; rfl) | (simp only [ByteArray.size_append, Int.natCast_add]; rfl) | (rw [B.dO] <;> first | rfl | omega | (simp only [decide_eq_false_iff_not, decide_eq_true_eq, Int.not_lt, Nat.not_lt, gt_iff_lt] at * <;> omega))) ?_; (with_reducible refine (aH.calls k a3 t162 kD t164 _ A7.out).mono ?_); rintro e w19 ⟨rfl, hb⟩; refine ⟨_, rfl, ?_⟩; have dX := aj.mk (bE (by repeat (first | (with_reducible first | exact HB.out | apply ak | apply ah | apply au) | exact HB.out)) hb); clear HB; have HB := dX; clear dX; (try clear hb); (try clear hb2); (try clear hk); (try clear hi)) | ((with_reducible refine gF (N := 12) rfl ?_); (try (refine jo (by rfl) ?_; dsimp only)); refine fP ?hg (N := 12) ?hd (cs := #[.int .i64 0, .int .i64 0, .int .i64 0]) (t := 142) ?hr ?_; (case hd => rfl); (case hg => rfl); (case hr => first | (go_simp; done) | (go_simp; rfl)); intro dL hg w20 gQ hb; have dX := aj.mk (bE (by repeat (first | (with_reducible first | exact HB.out | apply ak | apply ah | apply au) | exact HB.out)) hb); have gV := aj.mk (gQ); have iZ := aj.mk ((by rw [hg]; exact (bL (by repeat (first | (with_reducible first | exact HB.out | apply ak | apply ah | apply au) | exact HB.out))) : w.heap.size ≤ dL)); have jG := aj.mk ((by rw [hg]; exact (bL (by repeat (first | (with_reducible first | exact HB.out | apply ak | apply ah | apply au) | exact HB.out))) : w.heap.size ≤ dL)); clear HB; have HB := dX; have bT := gV; have zL := iZ; have kF := jG; clear dX gV iZ jG; clear hb gQ hg; have Oq : w20.cell? ⟨dL, 0, none⟩ = some (.int .i64 0) := (aM bT.out 0).trans rfl; have Ot : w20.cell? ⟨dL, 1, none⟩ = some (.int .i64 0) := (aM bT.out 1).trans rfl; have Ou : w20.cell? ⟨dL, 2, none⟩ = some (.int .i64 0) := (aM bT.out 2).trans rfl; have Ov := ay bT.out 0; have Ow := ay bT.out 1; have Ox := ay bT.out 2) | (go_at_call 117; (with_reducible refine (bn.calls k t160 false _ Qz.out).mono ?_); rintro e w' ⟨rfl, ⟨nd, rfl⟩⟩))
          go_ret2
          exact ⟨by first | rfl | (simp [aJ, aK] <;> rfl) | (simp [*, aJ, aK] <;> rfl), by repeat (first | (with_reducible first | exact HB.out | apply ak | apply ah | apply au | refine aR ?_ kF.out) | exact HB.out)⟩
      · rw [if_neg c9] at H
        have sS : (a3 == 16) = false := beq_eq_false_iff_ne.mpr c9
        have Dq : (a3 != 16) = true := bne_iff_ne.mpr c9
        by_cases D6 : (t160.size : Int) > 65535
        · rw [if_pos D6] at H
          have Lp : decide (65535 < (t160.size : Int)) = true := decide_eq_true D6
          have Lr : decide (65535 < t160.size) = true := decide_eq_true (by omega)
          clear D6
          simp only [Option.some.injEq, Prod.mk.injEq] at H
          obtain ⟨rfl, rfl⟩ := H
          go_enter Try.func104, Try.ntmps104
          go_wp2_with (first | ((with_reducible refine aQ (f := 99) rfl ?_); refine bP (some 23) rfl rfl Try.func99 (by kernel_rfl) rfl #[.string a0, .int .i64 a1, .int .i64 a2] rfl (by (try simp only [List.map_toArray, List.map_cons, List.map_nil]); first | done | rfl | (simp only [List.length_drop, List.length_take]; rfl) | (simp only [ByteArray.size_append, Int.natCast_add]; rfl) | (rw [B.dO] <;> first | rfl | omega | (simp only [decide_eq_false_iff_not, decide_eq_true_eq, Int.not_lt, Nat.not_lt, gt_iff_lt] at * <;> omega))) ?_; (with_reducible refine (bC.calls a0 a1 a2 t160 true _ A5.out).mono ?_); rintro e w' ⟨rfl, ⟨nd, rfl⟩⟩; refine ⟨_, rfl, ?_⟩) | ((with_reducible refine aQ (f := 106) rfl ?_); refine bP (some 29) rfl rfl Try.func106 (by kernel_rfl) rfl #[.int .i64 a3] rfl (by (try simp only [List.map_toArray, List.map_cons, List.map_nil]); first | done | rfl | (simp only [List.length_drop, List.length_take]; rfl) | (simp only [ByteArray.size_append, Int.natCast_add]; rfl) | (rw [B.dO] <;> first | rfl | omega | (simp only [decide_eq_false_iff_not, decide_eq_true_eq, Int.not_lt, Nat.not_lt, gt_iff_lt] at * <;> omega))) ?_; (with_reducible refine (aH.calls k a3 t162 kD t164 _ A7.out).mono ?_); rintro e w23 ⟨rfl, hb⟩; refine ⟨_, rfl, ?_⟩; have dX := aj.mk (bE (by repeat (first | (with_reducible first | exact HB.out | apply ak | apply ah | apply au) | exact HB.out)) hb); clear HB; have HB := dX; clear dX; (try clear hb); (try clear hb2); (try clear hk); (try clear hi)) | ((with_reducible refine gF (N := 12) rfl ?_); (try (refine jo (by rfl) ?_; dsimp only)); refine fP ?hg (N := 12) ?hd (cs := #[.int .i64 0, .int .i64 0, .int .i64 0]) (t := 142) ?hr ?_; (case hd => rfl); (case hg => rfl); (case hr => first | (go_simp; done) | (go_simp; rfl)); intro dL hg w24 gQ hb; have dX := aj.mk (bE (by repeat (first | (with_reducible first | exact HB.out | apply ak | apply ah | apply au) | exact HB.out)) hb); have gV := aj.mk (gQ); have iZ := aj.mk ((by rw [hg]; exact (bL (by repeat (first | (with_reducible first | exact HB.out | apply ak | apply ah | apply au) | exact HB.out))) : w.heap.size ≤ dL)); have jG := aj.mk ((by rw [hg]; exact (bL (by repeat (first | (with_reducible first | exact HB.out | apply ak | apply ah | apply au) | exact HB.out))) : w.heap.size ≤ dL)); clear HB; have HB := dX; have bT := gV; have zL := iZ; have kF := jG; clear dX gV iZ jG; clear hb gQ hg; have Oy : w24.cell? ⟨dL, 0, none⟩ = some (.int .i64 0) := (aM bT.out 0).trans rfl; have Oz : w24.cell? ⟨dL, 1, none⟩ = some (.int .i64 0) := (aM bT.out 1).trans rfl; have OA : w24.cell? ⟨dL, 2, none⟩ = some (.int .i64 0) := (aM bT.out 2).trans rfl; have OB := ay bT.out 0; have OC := ay bT.out 1; have OD := ay bT.out 2))
          go_ret2
          exact ⟨by first | rfl | (simp [aJ, aK] <;> rfl) | (simp [*, aJ, aK] <;> rfl), by repeat (first | (with_reducible first | exact HB.out | apply ak | apply ah | apply au | refine aR ?_ kF.out) | exact HB.out)⟩
        · rw [if_neg D6] at H
          have Lp : decide (65535 < (t160.size : Int)) = false := decide_eq_false D6
          have Lr : decide (65535 < t160.size) = false := decide_eq_false (by omega)
          clear D6
          simp only [Option.some.injEq, Prod.mk.injEq] at H
          obtain ⟨rfl, rfl⟩ := H
          go_enter Try.func104, Try.ntmps104
          go_wp2_with (first | ((with_reducible refine aQ (f := 99) rfl ?_); refine bP (some 23) rfl rfl Try.func99 (by kernel_rfl) rfl #[.string a0, .int .i64 a1, .int .i64 a2] rfl (by (try simp only [List.map_toArray, List.map_cons, List.map_nil]); first | done | rfl | (simp only [List.length_drop, List.length_take]; rfl) | (simp only [ByteArray.size_append, Int.natCast_add]; rfl) | (rw [B.dO] <;> first | rfl | omega | (simp only [decide_eq_false_iff_not, decide_eq_true_eq, Int.not_lt, Nat.not_lt, gt_iff_lt] at * <;> omega))) ?_; (with_reducible refine (bC.calls a0 a1 a2 t160 true _ A5.out).mono ?_); rintro e w' ⟨rfl, ⟨nd, rfl⟩⟩; refine ⟨_, rfl, ?_⟩) | ((with_reducible refine aQ (f := 106) rfl ?_); refine bP (some 29) rfl rfl Try.func106 (by kernel_rfl) rfl #[.int .i64 a3] rfl (by (try simp only [List.map_toArray, List.map_cons, List.map_nil]); first | done | rfl | (simp only [List.length_drop, List.length_take]; rfl) | (simp only [ByteArray.size_append, Int.natCast_add]; rfl) | (rw [B.dO] <;> first | rfl | omega | (simp only [decide_eq_false_iff_not, decide_eq_true_eq, Int.not_lt, Nat.not_lt, gt_iff_lt] at * <;> omega))) ?_; (with_reducible refine (aH.calls k a3 t162 kD t164 _ A7.out).mono ?_); rintro e w26 ⟨rfl, hb⟩; refine ⟨_, rfl, ?_⟩; have dX := aj.mk (bE (by repeat (first | (with_reducible first | exact HB.out | apply ak | apply ah | apply au) | exact HB.out)) hb); clear HB; have HB := dX; clear dX; (try clear hb); (try clear hb2); (try clear hk); (try clear hi)) | ((with_reducible refine gF (N := 12) rfl ?_); (try (refine jo (by rfl) ?_; dsimp only)); refine fP ?hg (N := 12) ?hd (cs := #[.int .i64 0, .int .i64 0, .int .i64 0]) (t := 142) ?hr ?_; (case hd => rfl); (case hg => rfl); (case hr => first | (go_simp; done) | (go_simp; rfl)); intro dL hg w27 gQ hb; have dX := aj.mk (bE (by repeat (first | (with_reducible first | exact HB.out | apply ak | apply ah | apply au) | exact HB.out)) hb); have gV := aj.mk (gQ); have iZ := aj.mk ((by rw [hg]; exact (bL (by repeat (first | (with_reducible first | exact HB.out | apply ak | apply ah | apply au) | exact HB.out))) : w.heap.size ≤ dL)); have jG := aj.mk ((by rw [hg]; exact (bL (by repeat (first | (with_reducible first | exact HB.out | apply ak | apply ah | apply au) | exact HB.out))) : w.heap.size ≤ dL)); clear HB; have HB := dX; have bT := gV; have zL := iZ; have kF := jG; clear dX gV iZ jG; clear hb gQ hg; have OE : w27.cell? ⟨dL, 0, none⟩ = some (.int .i64 0) := (aM bT.out 0).trans rfl; have OG : w27.cell? ⟨dL, 1, none⟩ = some (.int .i64 0) := (aM bT.out 1).trans rfl; have OH : w27.cell? ⟨dL, 2, none⟩ = some (.int .i64 0) := (aM bT.out 2).trans rfl; have OI := ay bT.out 0; have OJ := ay bT.out 1; have OL := ay bT.out 2))
          go_ret2
          exact ⟨by first | rfl | (simp [aJ, aK] <;> rfl) | (simp [*, aJ, aK] <;> rfl), by repeat (first | (with_reducible first | exact HB.out | apply ak | apply ah | apply au | refine aR ?_ kF.out) | exact HB.out)⟩
    · rw [if_neg c8] at H
      have qV : (t162 == 0 && (kD == 0 && (t164 == 0))) = false := by simpa using c8
      (try (have qW : decide (t162 = 0 && (kD == 0 && (t164 == 0))) = false := by simpa using c8))
      (try (have KZ : (t162 == 0 && (kD == 0 && (t164 == 0))) = false := by simpa using c8))
      (try (have XM : ¬ (t162 = 0 && (kD == 0 && (t164 == 0))) := by simpa using c8))
      clear c8
      by_cases Ht : t162 > a2
      · rw [if_pos Ht] at H
        have QG : decide (a2 < t162) = true := decide_eq_true Ht
        clear Ht
        simp only [Option.some.injEq, Prod.mk.injEq] at H
        obtain ⟨rfl, rfl⟩ := H
        go_enter Try.func104, Try.ntmps104
        go_wp2_with (first | ((with_reducible refine aQ (f := 99) rfl ?_); refine bP (some 23) rfl rfl Try.func99 (by kernel_rfl) rfl #[.string a0, .int .i64 a1, .int .i64 a2] rfl (by (try simp only [List.map_toArray, List.map_cons, List.map_nil]); first | done | rfl | (simp only [List.length_drop, List.length_take]; rfl) | (simp only [ByteArray.size_append, Int.natCast_add]; rfl) | (rw [B.dO] <;> first | rfl | omega | (simp only [decide_eq_false_iff_not, decide_eq_true_eq, Int.not_lt, Nat.not_lt, gt_iff_lt] at * <;> omega))) ?_; (with_reducible refine (bC.calls a0 a1 a2 t160 true _ A5.out).mono ?_); rintro e w' ⟨rfl, ⟨nd, rfl⟩⟩; refine ⟨_, rfl, ?_⟩) | ((with_reducible refine aQ (f := 106) rfl ?_); refine bP (some 29) rfl rfl Try.func106 (by kernel_rfl) rfl #[.int .i64 a3] rfl (by (try simp only [List.map_toArray, List.map_cons, List.map_nil]); first | done | rfl | (simp only [List.length_drop, List.length_take]; rfl) | (simp only [ByteArray.size_append, Int.natCast_add]; rfl) | (rw [B.dO] <;> first | rfl | omega | (simp only [decide_eq_false_iff_not, decide_eq_true_eq, Int.not_lt, Nat.not_lt, gt_iff_lt] at * <;> omega))) ?_; (with_reducible refine (aH.calls k a3 t162 kD t164 _ A7.out).mono ?_); rintro e w30 ⟨rfl, hb⟩; refine ⟨_, rfl, ?_⟩; have dX := aj.mk (bE (by repeat (first | (with_reducible first | exact HB.out | apply ak | apply ah | apply au) | exact HB.out)) hb); clear HB; have HB := dX; clear dX; (try clear hb); (try clear hb2); (try clear hk); (try clear hi)) | ((with_reducible refine gF (N := 12) rfl ?_); (try (refine jo (by rfl) ?_; dsimp only)); refine fP ?hg (N := 12) ?hd (cs := #[.int .i64 0, .int .i64 0, .int .i64 0]) (t := 142) ?hr ?_; (case hd => rfl); (case hg => rfl); (case hr => first | (go_simp; done) | (go_simp; rfl)); intro dL hg w31 gQ hb; have dX := aj.mk (bE (by repeat (first | (with_reducible first | exact HB.out | apply ak | apply ah | apply au) | exact HB.out)) hb); have gV := aj.mk (gQ); have iZ := aj.mk ((by rw [hg]; exact (bL (by repeat (first | (with_reducible first | exact HB.out | apply ak | apply ah | apply au) | exact HB.out))) : w.heap.size ≤ dL)); have jG := aj.mk ((by rw [hg]; exact (bL (by repeat (first | (with_reducible first | exact HB.out | apply ak | apply ah | apply au) | exact HB.out))) : w.heap.size ≤ dL)); clear HB; have HB := dX; have bT := gV; have zL := iZ; have kF := jG; clear dX gV iZ jG; clear hb gQ hg; have Gq : w31.cell? ⟨dL, 0, none⟩ = some (.int .i64 0) := (aM bT.out 0).trans rfl; have Gr : w31.cell? ⟨dL, 1, none⟩ = some (.int .i64 0) := (aM bT.out 1).trans rfl; have Gs : w31.cell? ⟨dL, 2, none⟩ = some (.int .i64 0) := (aM bT.out 2).trans rfl; have Gt := ay bT.out 0; have Gu := ay bT.out 1; have Gv := ay bT.out 2))
        go_ret2
        exact ⟨by first | rfl | (simp [aJ, aK] <;> rfl) | (simp [*, aJ, aK] <;> rfl), by repeat (first | (with_reducible first | exact HB.out | apply ak | apply ah | apply au | refine aR ?_ kF.out) | exact HB.out)⟩
      · rw [if_neg Ht] at H
        have QG : decide (a2 < t162) = false := decide_eq_false Ht
        clear Ht
        by_cases MZ : 0 ≤ t162
        · rw [if_pos MZ] at H
          have YK := eq_true MZ
          have YL : decide (0 ≤ t162) = true := decide_eq_true MZ
          clear MZ
          by_cases c34 : t162 ≤ (t160.size : Int)
          · rw [if_pos c34] at H
            have YM := eq_true c34
            have YN : decide (t162 ≤ (t160.size : Int)) = true := decide_eq_true c34
            clear c34
            have H' := aj.mk H
            clear H
            go_enter Try.func104, Try.ntmps104
            go_wp2_with (first | ((with_reducible refine aQ (f := 99) rfl ?_); refine bP (some 23) rfl rfl Try.func99 (by kernel_rfl) rfl #[.string a0, .int .i64 a1, .int .i64 a2] rfl (by (try simp only [List.map_toArray, List.map_cons, List.map_nil]); first | done | rfl | (simp only [List.length_drop, List.length_take]; rfl) | (simp only [ByteArray.size_append, Int.natCast_add]; rfl) | (rw [B.dO] <;> first | rfl | omega | (simp only [decide_eq_false_iff_not, decide_eq_true_eq, Int.not_lt, Nat.not_lt, gt_iff_lt] at * <;> omega))) ?_; (with_reducible refine (bC.calls a0 a1 a2 t160 true _ A5.out).mono ?_); rintro e w' ⟨rfl, ⟨nd, rfl⟩⟩; refine ⟨_, rfl, ?_⟩) | ((with_reducible refine aQ (f := 106) rfl ?_); refine bP (some 29) rfl rfl Try.func106 (by kernel_rfl) rfl #[.int .i64 a3] rfl (by (try simp only [List.map_toArray, List.map_cons, List.map_nil]); first | done | rfl | (simp only [List.length_drop, List.length_take]; rfl) | (simp only [ByteArray.size_append, Int.natCast_add]; rfl) | (rw [B.dO] <;> first | rfl | omega | (simp only [decide_eq_false_iff_not, decide_eq_true_eq, Int.not_lt, Nat.not_lt, gt_iff_lt] at * <;> omega))) ?_; (with_reducible refine (aH.calls k a3 t162 kD t164 _ A7.out).mono ?_); rintro e w35 ⟨rfl, hb⟩; refine ⟨_, rfl, ?_⟩; have dX := aj.mk (bE (by repeat (first | (with_reducible first | exact HB.out | apply ak | apply ah | apply au) | exact HB.out)) hb); clear HB; have HB := dX; clear dX; (try clear hb); (try clear hb2); (try clear hk); (try clear hi)) | ((with_reducible refine gF (N := 12) rfl ?_); (try (refine jo (by rfl) ?_; dsimp only)); refine fP ?hg (N := 12) ?hd (cs := #[.int .i64 0, .int .i64 0, .int .i64 0]) (t := 142) ?hr ?_; (case hd => rfl); (case hg => rfl); (case hr => first | (go_simp; done) | (go_simp; rfl)); intro dL hg w36 gQ hb; have dX := aj.mk (bE (by repeat (first | (with_reducible first | exact HB.out | apply ak | apply ah | apply au) | exact HB.out)) hb); have gV := aj.mk (gQ); have iZ := aj.mk ((by rw [hg]; exact (bL (by repeat (first | (with_reducible first | exact HB.out | apply ak | apply ah | apply au) | exact HB.out))) : w.heap.size ≤ dL)); have jG := aj.mk ((by rw [hg]; exact (bL (by repeat (first | (with_reducible first | exact HB.out | apply ak | apply ah | apply au) | exact HB.out))) : w.heap.size ≤ dL)); clear HB; have HB := dX; have bT := gV; have zL := iZ; have kF := jG; clear dX gV iZ jG; clear hb gQ hg; have OM : w36.cell? ⟨dL, 0, none⟩ = some (.int .i64 0) := (aM bT.out 0).trans rfl; have OO : w36.cell? ⟨dL, 1, none⟩ = some (.int .i64 0) := (aM bT.out 1).trans rfl; have OP : w36.cell? ⟨dL, 2, none⟩ = some (.int .i64 0) := (aM bT.out 2).trans rfl; have OQ := ay bT.out 0; have OT := ay bT.out 1; have OU := ay bT.out 2))
            go_loopg [13, 14, 15] k (fun kq v13 v14 v15 w' => ∃ (dB : ByteArray) (bQ : Int) (uY : Int), v13 = .string dB ∧ v14 = .int .i64 bQ ∧ v15 = .int .i64 uY ∧ aj (aX.l0 kq a0 a1 a2 dB bQ uY t162 kD t164 = some (r1, r2)) ∧ aj (kq ≤ k) ∧ aj (w'.heap[dL]? = some (.cells #[.int .i64 t162, .int .i64 kD, .int .i64 t164] 142 (0, 0))) ∧ aj (Below w.heap.size w w'))
            case atStart => exact ⟨(t160.extract 0 (t162 : Int).toNat), (wrap64 (a1 + t162)), (0), (by first | rfl | (simp; done) | (simp [*]; done) | (simp [B.aV]; done) | (simp [B.aW]; done)), (by first | rfl | (simp; done) | (simp [*]; done) | (simp [B.aV]; done) | (simp [B.aW]; done)), (by first | rfl | (simp; done) | (simp [*]; done) | (simp [B.aV]; done) | (simp [B.aW]; done)), H', ⟨Nat.le_refl _⟩, ⟨by (with_reducible repeat (first | refine aG ?_ _ | refine aI ?_ | refine aA ?_ _)); refine bU (cs := #[.int .i64 t162, .int .i64 kD, .int .i64 0]) ?_ 2 _ rfl; (with_reducible repeat (first | refine aG ?_ _ | refine aI ?_ | refine aA ?_ _)); refine bU (cs := #[.int .i64 t162, .int .i64 0, .int .i64 0]) ?_ 1 _ rfl; (with_reducible repeat (first | refine aG ?_ _ | refine aI ?_ | refine aA ?_ _)); refine bU (cs := #[.int .i64 0, .int .i64 0, .int .i64 0]) ?_ 0 _ rfl; (with_reducible repeat (first | refine aG ?_ _ | refine aI ?_ | refine aA ?_ _)); exact bT.out⟩, ⟨by repeat (first | (with_reducible first | exact HB.out | apply ak | apply ah | apply au | refine aR ?_ kF.out) | exact HB.out)⟩⟩
            case round =>
              clear H'
              try clear c1
              try clear c2
              try clear p2
              try clear c3
              try clear c6
              try clear p6
              try clear c8
              try clear qV
              try clear qW
              try clear KZ
              try clear c9
              try clear sS
              try clear Dq
              try clear c10
              try clear c11
              try clear c12
              try clear sU
              try clear sV
              try clear D6
              try clear Lp
              try clear Lr
              try clear Ht
              try clear QG
              try clear MZ
              try clear YK
              try clear YL
              try clear c34
              try clear YM
              try clear YN
              try clear Bo
              try clear Bp
              try clear Bq
              try clear Gw
              try clear Gx
              try clear Gy
              try clear Oq
              try clear Ot
              try clear Ou
              try clear Oy
              try clear Oz
              try clear OA
              try clear OE
              try clear OG
              try clear OH
              try clear Gq
              try clear Gr
              try clear Gs
              try clear OM
              try clear OO
              try clear OP
              try clear Bt
              try clear Bu
              try clear Bv
              try clear Gz
              try clear GA
              try clear GD
              try clear Ov
              try clear Ow
              try clear Ox
              try clear OB
              try clear OC
              try clear OD
              try clear OI
              try clear OJ
              try clear OL
              try clear Gt
              try clear Gu
              try clear Gv
              try clear OQ
              try clear OT
              try clear OU
              obtain ⟨dB, bQ, uY, rfl, rfl, rfl, HA, sQ, bT, HB⟩ := hrel
              cases gk with
              | zero => exact absurd HA.out (by simp [aX.l0])
              | succ k1 =>
                have H := HA.out
                clear HA
                simp only [aX.l0] at H
                by_cases I8 : uY < kD
                · rw [if_pos I8] at H
                  have QE : decide (uY < kD) = true := decide_eq_true I8
                  clear I8
                  replace H := zbm H
                  obtain ⟨⟨t167, t168, DF⟩, YO, H⟩ := H
                  replace H : (if DF = 0 then (if dB.size + t167.size ≤ 9223372036854775807 then (aX.l0 k1 a0 a1 a2 (dB ++ t167) t168 (wrap64 (uY + 1)) t162 kD t164) else (none)) else (some ((⟨#[]⟩ : ByteArray), 4))) = some (r1, r2) := H
                  have A39 := aj.mk YO
                  clear YO
                  by_cases c40 : DF = 0
                  · rw [if_pos c40] at H
                    have YP : (DF == 0) = true := beq_iff_eq.mpr c40
                    have YQ : (DF != 0) = false := bne_eq_false_iff_eq.mpr c40
                    clear c40
                    by_cases YR : dB.size + t167.size ≤ 9223372036854775807
                    · rw [if_pos YR] at H
                      have afB := eq_true YR
                      have afC : decide (dB.size + t167.size ≤ 9223372036854775807) = true := decide_eq_true YR
                      try have afD : (9223372036854775807 < dB.size + t167.size) = False := eq_false (Nat.not_lt.2 YR)
                      have H' := aj.mk H
                      clear H
                      have Oe : wr.cell? ⟨dL, 0, none⟩ = some (.int .i64 t162) := (aM bT.out 0).trans rfl
                      have Og : wr.cell? ⟨dL, 1, none⟩ = some (.int .i64 kD) := (aM bT.out 1).trans rfl
                      have Oh : wr.cell? ⟨dL, 2, none⟩ = some (.int .i64 t164) := (aM bT.out 2).trans rfl
                      have Oi := ay bT.out 0
                      have Oj := ay bT.out 1
                      have Ol := ay bT.out 2
                      go_wp2_with (first | ((with_reducible refine aQ (f := 118) rfl ?_); refine bP (some 67) rfl rfl Try.func118 (by kernel_rfl) rfl #[.string a0, .int .i64 bQ] rfl (by (try simp only [List.map_toArray, List.map_cons, List.map_nil]); first | done | rfl | (simp only [List.length_drop, List.length_take]; rfl) | (simp only [ByteArray.size_append, Int.natCast_add]; rfl) | (rw [B.dO] <;> first | rfl | omega | (simp only [decide_eq_false_iff_not, decide_eq_true_eq, Int.not_lt, Nat.not_lt, gt_iff_lt] at * <;> omega))) ?_; (with_reducible refine (aU.calls k1 a0 bQ t167 t168 DF _ A39.out).mono ?_); rintro e w' ⟨rfl, ⟨nd, rfl⟩⟩; refine ⟨_, rfl, ?_⟩))
                      go_roundg k1
                      case measure => have := sQ.out; omega
                      case rel => exact ⟨(dB ++ t167), (t168), (wrap64 (uY + 1)), (by first | rfl | (simp; done) | (simp [*]; done) | (simp [B.aV]; done) | (simp [B.aW]; done)), (by first | rfl | (simp; done) | (simp [*]; done) | (simp [B.aV]; done) | (simp [B.aW]; done)), (by first | rfl | (simp; done) | (simp [*]; done) | (simp [B.aV]; done) | (simp [B.aW]; done)), H', ⟨by have := sQ.out; omega⟩, ⟨by (with_reducible repeat (first | refine aG ?_ _ | refine aI ?_ | refine aA ?_ _)); exact bT.out⟩, ⟨by repeat (first | (with_reducible first | exact HB.out | apply ak | apply ah | apply au | refine aR ?_ kF.out) | exact HB.out)⟩⟩
                    · rw [if_neg YR] at H
                      exact absurd H (by simp)
                  · rw [if_neg c40] at H
                    have YP : (DF == 0) = false := beq_eq_false_iff_ne.mpr c40
                    have YQ : (DF != 0) = true := bne_iff_ne.mpr c40
                    simp only [Option.some.injEq, Prod.mk.injEq] at H
                    obtain ⟨rfl, rfl⟩ := H
                    have abH : wr.cell? ⟨dL, 0, none⟩ = some (.int .i64 t162) := (aM bT.out 0).trans rfl
                    have abI : wr.cell? ⟨dL, 1, none⟩ = some (.int .i64 kD) := (aM bT.out 1).trans rfl
                    have abJ : wr.cell? ⟨dL, 2, none⟩ = some (.int .i64 t164) := (aM bT.out 2).trans rfl
                    have abK := ay bT.out 0
                    have abL := ay bT.out 1
                    have abM := ay bT.out 2
                    go_wp2_with (first | ((with_reducible refine aQ (f := 118) rfl ?_); refine bP (some 67) rfl rfl Try.func118 (by kernel_rfl) rfl #[.string a0, .int .i64 bQ] rfl (by (try simp only [List.map_toArray, List.map_cons, List.map_nil]); first | done | rfl | (simp only [List.length_drop, List.length_take]; rfl) | (simp only [ByteArray.size_append, Int.natCast_add]; rfl) | (rw [B.dO] <;> first | rfl | omega | (simp only [decide_eq_false_iff_not, decide_eq_true_eq, Int.not_lt, Nat.not_lt, gt_iff_lt] at * <;> omega))) ?_; (with_reducible refine (aU.calls k1 a0 bQ t167 t168 DF _ A39.out).mono ?_); rintro e w' ⟨rfl, ⟨nd, rfl⟩⟩; refine ⟨_, rfl, ?_⟩))
                    go_ret2
                    exact ⟨by first | rfl | (simp [aJ, aK] <;> rfl) | (simp [*, aJ, aK] <;> rfl), by repeat (first | (with_reducible first | exact HB.out | apply ak | apply ah | apply au | refine aR ?_ kF.out) | exact HB.out)⟩
                · rw [if_neg I8] at H
                  have QE : decide (uY < kD) = false := decide_eq_false I8
                  clear I8
                  by_cases Ls : (wrap64 (bQ + t164)) = (wrap64 (a1 + a2))
                  · rw [if_pos Ls] at H
                    have YS : ((wrap64 (bQ + t164)) == (wrap64 (a1 + a2))) = true := beq_iff_eq.mpr Ls
                    have YT : ((wrap64 (bQ + t164)) != (wrap64 (a1 + a2))) = false := bne_eq_false_iff_eq.mpr Ls
                    (try (have YU : (((bQ + t164)) == ((a1 + a2))) = true := by have h_ : ((wrap64 (bQ + t164)) == (wrap64 (a1 + a2))) = true := beq_iff_eq.mpr Ls; rw [B.dO (by omega) (by omega)] at h_; rw [B.dO (by omega) (by omega)] at h_; exact h_))
                    (try (have YV : (((bQ + t164)) != ((a1 + a2))) = false := by have h_ : ((wrap64 (bQ + t164)) != (wrap64 (a1 + a2))) = false := bne_eq_false_iff_eq.mpr Ls; rw [B.dO (by omega) (by omega)] at h_; rw [B.dO (by omega) (by omega)] at h_; exact h_))
                    clear Ls
                    by_cases YW : 0 ≤ bQ
                    · rw [if_pos YW] at H
                      have afE := eq_true YW
                      have afF : decide (0 ≤ bQ) = true := decide_eq_true YW
                      clear YW
                      by_cases c46 : bQ ≤ (wrap64 (a1 + a2))
                      · rw [if_pos c46] at H
                        have afG := eq_true c46
                        have afH : decide (bQ ≤ (wrap64 (a1 + a2))) = true := decide_eq_true c46
                        by_cases c47 : (wrap64 (a1 + a2)) ≤ (a0.size : Int)
                        · rw [if_pos c47] at H
                          have afI := eq_true c47
                          have afJ : decide ((wrap64 (a1 + a2)) ≤ (a0.size : Int)) = true := decide_eq_true c47
                          by_cases YX : dB.size + (a0.extract (bQ : Int).toNat ((wrap64 (a1 + a2)) : Int).toNat).size ≤ 9223372036854775807
                          · rw [if_pos YX] at H
                            have afK := eq_true YX
                            have afL : decide (dB.size + (a0.extract (bQ : Int).toNat ((wrap64 (a1 + a2)) : Int).toNat).size ≤ 9223372036854775807) = true := decide_eq_true YX
                            try have afM : (9223372036854775807 < dB.size + (a0.extract (bQ : Int).toNat ((wrap64 (a1 + a2)) : Int).toNat).size) = False := eq_false (Nat.not_lt.2 YX)
                            by_cases c49 : ((dB ++ (a0.extract (bQ : Int).toNat ((wrap64 (a1 + a2)) : Int).toNat)).size : Int) > 65535
                            · rw [if_pos c49] at H
                              have YZ : decide (65535 < ((dB ++ (a0.extract (bQ : Int).toNat ((wrap64 (a1 + a2)) : Int).toNat)).size : Int)) = true := decide_eq_true c49
                              have Y0 : decide (65535 < (dB ++ (a0.extract (bQ : Int).toNat ((wrap64 (a1 + a2)) : Int).toNat)).size) = true := decide_eq_true (by omega)
                              (try (have Y1 : decide (65535 < ((dB.size : Int) + ((a0.extract (bQ : Int).toNat ((wrap64 (a1 + a2)) : Int).toNat).size : Int))) = true := by have h_ : decide (65535 < ((dB ++ (a0.extract (bQ : Int).toNat ((wrap64 (a1 + a2)) : Int).toNat)).size : Int)) = true := decide_eq_true c49; rw [show ((dB ++ (a0.extract (bQ : Int).toNat ((wrap64 (a1 + a2)) : Int).toNat)).size : Int) = ((dB.size : Int) + ((a0.extract (bQ : Int).toNat ((wrap64 (a1 + a2)) : Int).toNat).size : Int)) from by (simp only [ByteArray.size_append, Int.natCast_add]; first | done | rfl)] at h_; (first | exact h_ | (simp only [Int.add_sub_cancel] at h_; exact h_))))
                              (try (have Y2 : decide (65535 < ((dB.size : Int) + ((((wrap64 (a1 + a2)) : Int).toNat - (bQ : Int).toNat : Nat) : Int))) = true := by have h_ : decide (65535 < ((dB ++ (a0.extract (bQ : Int).toNat ((wrap64 (a1 + a2)) : Int).toNat)).size : Int)) = true := decide_eq_true c49; rw [show ((dB ++ (a0.extract (bQ : Int).toNat ((wrap64 (a1 + a2)) : Int).toNat)).size : Int) = ((dB.size : Int) + ((a0.extract (bQ : Int).toNat ((wrap64 (a1 + a2)) : Int).toNat).size : Int)) from by (simp only [ByteArray.size_append, Int.natCast_add]; first | done | rfl)] at h_; rw [show ((a0.extract (bQ : Int).toNat ((wrap64 (a1 + a2)) : Int).toNat).size : Int) = ((((wrap64 (a1 + a2)) : Int).toNat - (bQ : Int).toNat : Nat) : Int) from by (have h1_ : (wrap64 (a1 + a2)) ≤ (a0.size : Int) := of_decide_eq_true (by assumption); rw [ByteArray.size_extract]; omega)] at h_; exact h_))
                              (try (have Y3 : decide (65535 < ((dB ++ (a0.extract (bQ : Int).toNat (((a1 + a2)) : Int).toNat)).size : Int)) = true := by have h_ : decide (65535 < ((dB ++ (a0.extract (bQ : Int).toNat ((wrap64 (a1 + a2)) : Int).toNat)).size : Int)) = true := decide_eq_true c49; rw [B.dO (by omega) (by omega)] at h_; exact h_))
                              (try (have Y4 : decide (65535 < (dB ++ (a0.extract (bQ : Int).toNat (((a1 + a2)) : Int).toNat)).size) = true := by have h_ : decide (65535 < (dB ++ (a0.extract (bQ : Int).toNat ((wrap64 (a1 + a2)) : Int).toNat)).size) = true := decide_eq_true (by omega); rw [B.dO (by omega) (by omega)] at h_; exact h_))
                              (try (have Y5 : decide (65535 < ((dB.size : Int) + ((a0.extract (bQ : Int).toNat (((a1 + a2)) : Int).toNat).size : Int))) = true := by have h_ : decide (65535 < ((dB.size : Int) + ((a0.extract (bQ : Int).toNat ((wrap64 (a1 + a2)) : Int).toNat).size : Int))) = true := by have h_ : decide (65535 < ((dB ++ (a0.extract (bQ : Int).toNat ((wrap64 (a1 + a2)) : Int).toNat)).size : Int)) = true := decide_eq_true c49; rw [show ((dB ++ (a0.extract (bQ : Int).toNat ((wrap64 (a1 + a2)) : Int).toNat)).size : Int) = ((dB.size : Int) + ((a0.extract (bQ : Int).toNat ((wrap64 (a1 + a2)) : Int).toNat).size : Int)) from by (simp only [ByteArray.size_append, Int.natCast_add]; first | done | rfl)] at h_; (first | exact h_ | (simp only [Int.add_sub_cancel] at h_; exact h_)); rw [B.dO (by omega) (by omega)] at h_; exact h_))
                              (try (have Y6 : decide (65535 < ((dB.size : Int) + (((((a1 + a2)) : Int).toNat - (bQ : Int).toNat : Nat) : Int))) = true := by have h_ : decide (65535 < ((dB.size : Int) + ((((wrap64 (a1 + a2)) : Int).toNat - (bQ : Int).toNat : Nat) : Int))) = true := by have h_ : decide (65535 < ((dB ++ (a0.extract (bQ : Int).toNat ((wrap64 (a1 + a2)) : Int).toNat)).size : Int)) = true := decide_eq_true c49; rw [show ((dB ++ (a0.extract (bQ : Int).toNat ((wrap64 (a1 + a2)) : Int).toNat)).size : Int) = ((dB.size : Int) + ((a0.extract (bQ : Int).toNat ((wrap64 (a1 + a2)) : Int).toNat).size : Int)) from by (simp only [ByteArray.size_append, Int.natCast_add]; first | done | rfl)] at h_; rw [show ((a0.extract (bQ : Int).toNat ((wrap64 (a1 + a2)) : Int).toNat).size : Int) = ((((wrap64 (a1 + a2)) : Int).toNat - (bQ : Int).toNat : Nat) : Int) from by (have h1_ : (wrap64 (a1 + a2)) ≤ (a0.size : Int) := of_decide_eq_true (by assumption); rw [ByteArray.size_extract]; omega)] at h_; exact h_; rw [B.dO (by omega) (by omega)] at h_; exact h_))
                              clear c49
                              simp only [Option.some.injEq, Prod.mk.injEq] at H
                              obtain ⟨rfl, rfl⟩ := H
                              have abN : wr.cell? ⟨dL, 0, none⟩ = some (.int .i64 t162) := (aM bT.out 0).trans rfl
                              have abO : wr.cell? ⟨dL, 1, none⟩ = some (.int .i64 kD) := (aM bT.out 1).trans rfl
                              have abP : wr.cell? ⟨dL, 2, none⟩ = some (.int .i64 t164) := (aM bT.out 2).trans rfl
                              have abQ := ay bT.out 0
                              have abR := ay bT.out 1
                              have abS := ay bT.out 2
                              go_wp2
                              go_ret2
                              exact ⟨by first | rfl | (simp [aJ, aK] <;> rfl) | (simp [*, aJ, aK] <;> rfl), by repeat (first | (with_reducible first | exact HB.out | apply ak | apply ah | apply au | refine aR ?_ kF.out) | exact HB.out)⟩
                            · rw [if_neg c49] at H
                              have YZ : decide (65535 < ((dB ++ (a0.extract (bQ : Int).toNat ((wrap64 (a1 + a2)) : Int).toNat)).size : Int)) = false := decide_eq_false c49
                              have Y0 : decide (65535 < (dB ++ (a0.extract (bQ : Int).toNat ((wrap64 (a1 + a2)) : Int).toNat)).size) = false := decide_eq_false (by omega)
                              (try (have Y1 : decide (65535 < ((dB.size : Int) + ((a0.extract (bQ : Int).toNat ((wrap64 (a1 + a2)) : Int).toNat).size : Int))) = false := by have h_ : decide (65535 < ((dB ++ (a0.extract (bQ : Int).toNat ((wrap64 (a1 + a2)) : Int).toNat)).size : Int)) = false := decide_eq_false c49; rw [show ((dB ++ (a0.extract (bQ : Int).toNat ((wrap64 (a1 + a2)) : Int).toNat)).size : Int) = ((dB.size : Int) + ((a0.extract (bQ : Int).toNat ((wrap64 (a1 + a2)) : Int).toNat).size : Int)) from by (simp only [ByteArray.size_append, Int.natCast_add]; first | done | rfl)] at h_; (first | exact h_ | (simp only [Int.add_sub_cancel] at h_; exact h_))))
                              (try (have Y2 : decide (65535 < ((dB.size : Int) + ((((wrap64 (a1 + a2)) : Int).toNat - (bQ : Int).toNat : Nat) : Int))) = false := by have h_ : decide (65535 < ((dB ++ (a0.extract (bQ : Int).toNat ((wrap64 (a1 + a2)) : Int).toNat)).size : Int)) = false := decide_eq_false c49; rw [show ((dB ++ (a0.extract (bQ : Int).toNat ((wrap64 (a1 + a2)) : Int).toNat)).size : Int) = ((dB.size : Int) + ((a0.extract (bQ : Int).toNat ((wrap64 (a1 + a2)) : Int).toNat).size : Int)) from by (simp only [ByteArray.size_append, Int.natCast_add]; first | done | rfl)] at h_; rw [show ((a0.extract (bQ : Int).toNat ((wrap64 (a1 + a2)) : Int).toNat).size : Int) = ((((wrap64 (a1 + a2)) : Int).toNat - (bQ : Int).toNat : Nat) : Int) from by (have h1_ : (wrap64 (a1 + a2)) ≤ (a0.size : Int) := of_decide_eq_true (by assumption); rw [ByteArray.size_extract]; omega)] at h_; exact h_))
                              (try (have Y3 : decide (65535 < ((dB ++ (a0.extract (bQ : Int).toNat (((a1 + a2)) : Int).toNat)).size : Int)) = false := by have h_ : decide (65535 < ((dB ++ (a0.extract (bQ : Int).toNat ((wrap64 (a1 + a2)) : Int).toNat)).size : Int)) = false := decide_eq_false c49; rw [B.dO (by omega) (by omega)] at h_; exact h_))
                              (try (have Y4 : decide (65535 < (dB ++ (a0.extract (bQ : Int).toNat (((a1 + a2)) : Int).toNat)).size) = false := by have h_ : decide (65535 < (dB ++ (a0.extract (bQ : Int).toNat ((wrap64 (a1 + a2)) : Int).toNat)).size) = false := decide_eq_false (by omega); rw [B.dO (by omega) (by omega)] at h_; exact h_))
                              (try (have Y5 : decide (65535 < ((dB.size : Int) + ((a0.extract (bQ : Int).toNat (((a1 + a2)) : Int).toNat).size : Int))) = false := by have h_ : decide (65535 < ((dB.size : Int) + ((a0.extract (bQ : Int).toNat ((wrap64 (a1 + a2)) : Int).toNat).size : Int))) = false := by have h_ : decide (65535 < ((dB ++ (a0.extract (bQ : Int).toNat ((wrap64 (a1 + a2)) : Int).toNat)).size : Int)) = false := decide_eq_false c49; rw [show ((dB ++ (a0.extract (bQ : Int).toNat ((wrap64 (a1 + a2)) : Int).toNat)).size : Int) = ((dB.size : Int) + ((a0.extract (bQ : Int).toNat ((wrap64 (a1 + a2)) : Int).toNat).size : Int)) from by (simp only [ByteArray.size_append, Int.natCast_add]; first | done | rfl)] at h_; (first | exact h_ | (simp only [Int.add_sub_cancel] at h_; exact h_)); rw [B.dO (by omega) (by omega)] at h_; exact h_))
                              (try (have Y6 : decide (65535 < ((dB.size : Int) + (((((a1 + a2)) : Int).toNat - (bQ : Int).toNat : Nat) : Int))) = false := by have h_ : decide (65535 < ((dB.size : Int) + ((((wrap64 (a1 + a2)) : Int).toNat - (bQ : Int).toNat : Nat) : Int))) = false := by have h_ : decide (65535 < ((dB ++ (a0.extract (bQ : Int).toNat ((wrap64 (a1 + a2)) : Int).toNat)).size : Int)) = false := decide_eq_false c49; rw [show ((dB ++ (a0.extract (bQ : Int).toNat ((wrap64 (a1 + a2)) : Int).toNat)).size : Int) = ((dB.size : Int) + ((a0.extract (bQ : Int).toNat ((wrap64 (a1 + a2)) : Int).toNat).size : Int)) from by (simp only [ByteArray.size_append, Int.natCast_add]; first | done | rfl)] at h_; rw [show ((a0.extract (bQ : Int).toNat ((wrap64 (a1 + a2)) : Int).toNat).size : Int) = ((((wrap64 (a1 + a2)) : Int).toNat - (bQ : Int).toNat : Nat) : Int) from by (have h1_ : (wrap64 (a1 + a2)) ≤ (a0.size : Int) := of_decide_eq_true (by assumption); rw [ByteArray.size_extract]; omega)] at h_; exact h_; rw [B.dO (by omega) (by omega)] at h_; exact h_))
                              clear c49
                              simp only [Option.some.injEq, Prod.mk.injEq] at H
                              obtain ⟨rfl, rfl⟩ := H
                              have abT : wr.cell? ⟨dL, 0, none⟩ = some (.int .i64 t162) := (aM bT.out 0).trans rfl
                              have abU : wr.cell? ⟨dL, 1, none⟩ = some (.int .i64 kD) := (aM bT.out 1).trans rfl
                              have abV : wr.cell? ⟨dL, 2, none⟩ = some (.int .i64 t164) := (aM bT.out 2).trans rfl
                              have abW := ay bT.out 0
                              have abX := ay bT.out 1
                              have abY := ay bT.out 2
                              go_wp2
                              go_ret2
                              exact ⟨by first | rfl | (simp [aJ, aK] <;> rfl) | (simp [*, aJ, aK] <;> rfl), by repeat (first | (with_reducible first | exact HB.out | apply ak | apply ah | apply au | refine aR ?_ kF.out) | exact HB.out)⟩
                          · rw [if_neg YX] at H
                            exact absurd H (by simp)
                        · rw [if_neg c47] at H
                          exact absurd H (by simp)
                      · rw [if_neg c46] at H
                        exact absurd H (by simp)
                    · rw [if_neg YW] at H
                      exact absurd H (by simp)
                  · rw [if_neg Ls] at H
                    have YS : ((wrap64 (bQ + t164)) == (wrap64 (a1 + a2))) = false := beq_eq_false_iff_ne.mpr Ls
                    have YT : ((wrap64 (bQ + t164)) != (wrap64 (a1 + a2))) = true := bne_iff_ne.mpr Ls
                    (try (have YU : (((bQ + t164)) == ((a1 + a2))) = false := by have h_ : ((wrap64 (bQ + t164)) == (wrap64 (a1 + a2))) = false := beq_eq_false_iff_ne.mpr Ls; rw [B.dO (by omega) (by omega)] at h_; rw [B.dO (by omega) (by omega)] at h_; exact h_))
                    (try (have YV : (((bQ + t164)) != ((a1 + a2))) = true := by have h_ : ((wrap64 (bQ + t164)) != (wrap64 (a1 + a2))) = true := bne_iff_ne.mpr Ls; rw [B.dO (by omega) (by omega)] at h_; rw [B.dO (by omega) (by omega)] at h_; exact h_))
                    simp only [Option.some.injEq, Prod.mk.injEq] at H
                    obtain ⟨rfl, rfl⟩ := H
                    have abZ : wr.cell? ⟨dL, 0, none⟩ = some (.int .i64 t162) := (aM bT.out 0).trans rfl
                    have ab0 : wr.cell? ⟨dL, 1, none⟩ = some (.int .i64 kD) := (aM bT.out 1).trans rfl
                    have ab1 : wr.cell? ⟨dL, 2, none⟩ = some (.int .i64 t164) := (aM bT.out 2).trans rfl
                    have ab2 := ay bT.out 0
                    have ab3 := ay bT.out 1
                    have ab4 := ay bT.out 2
                    go_wp2
                    go_ret2
                    exact ⟨by first | rfl | (simp [aJ, aK] <;> rfl) | (simp [*, aJ, aK] <;> rfl), by repeat (first | (with_reducible first | exact HB.out | apply ak | apply ah | apply au | refine aR ?_ kF.out) | exact HB.out)⟩
          · rw [if_neg c34] at H
            exact absurd H (by simp)
        · rw [if_neg MZ] at H
          exact absurd H (by simp)
  · replace c6 := Bool.eq_false_iff.mpr c6
    subst c6
    have H1 : (some ((⟨#[]⟩ : ByteArray), 2)) = some (r1, r2) := by rw [if_neg (show ¬ (false = true) by decide)] at H; exact H
    clear H
    have H := H1
    clear H1
    simp only [Option.some.injEq, Prod.mk.injEq] at H
    obtain ⟨rfl, rfl⟩ := H
    go_enter Try.func104, Try.ntmps104
    go_wp2_with (first | ((with_reducible refine aQ (f := 99) rfl ?_); refine bP (some 23) rfl rfl Try.func99 (by kernel_rfl) rfl #[.string a0, .int .i64 a1, .int .i64 a2] rfl (by (try simp only [List.map_toArray, List.map_cons, List.map_nil]); first | done | rfl | (simp only [List.length_drop, List.length_take]; rfl) | (simp only [ByteArray.size_append, Int.natCast_add]; rfl) | (rw [B.dO] <;> first | rfl | omega | (simp only [decide_eq_false_iff_not, decide_eq_true_eq, Int.not_lt, Nat.not_lt, gt_iff_lt] at * <;> omega))) ?_; (with_reducible refine (bC.calls a0 a1 a2 t160 false _ A5.out).mono ?_); rintro e w' ⟨rfl, ⟨nd, rfl⟩⟩; refine ⟨_, rfl, ?_⟩))
    go_ret2
    exact ⟨by first | rfl | (simp [aJ, aK] <;> rfl) | (simp [*, aJ, aK] <;> rfl), by repeat (first | (with_reducible first | exact HB.out | apply ak | apply ah | apply au) | exact HB.out)⟩
def bR.f (k : Nat) (a0 : Int) (a1 : ByteArray) : Option (Bool) := if (a1.size : Int) > 65535 then (some false) else ((aX.f k a1 0 (a1.size : Int) a0).bind fun DI => (if DI.2 = 0 then (some (DI.1.toList == a1.toList)) else (some false)))
set_option maxHeartbeats 8000000 in
set_option maxRecDepth 100000 in
theorem bR.calls (k : Nat) (a0 : Int) (a1 : ByteArray) (r : Bool) (w : World) (h : bR.f k a0 a1 = some r) :
    Calls Try.prog 83 #[.int .i64 a0, .string a1] w fun e w' => e = .returned (.bool r) ∧ Below w.heap.size w w' := by
  have HB := aj.mk (Below.refl w.heap.size w)
  have H : (if (a1.size : Int) > 65535 then (some false) else ((aX.f k a1 0 (a1.size : Int) a0).bind fun DI => (if DI.2 = 0 then (some (DI.1.toList == a1.toList)) else (some false)))) = some r := h
  clear h
  by_cases c3 : (a1.size : Int) > 65535
  · rw [if_pos c3] at H
    have qo : decide (65535 < (a1.size : Int)) = true := decide_eq_true c3
    have A9 : decide (65535 < a1.size) = true := decide_eq_true (by omega)
    clear c3
    obtain rfl := Option.some.inj H
    go_enter Try.func83, Try.ntmps83
    go_wp2
    go_ret
    exact ⟨by first | rfl | (simp [aJ, aK] <;> rfl) | (simp [*, aJ, aK] <;> rfl), by repeat (first | (with_reducible first | exact HB.out | apply ak | apply ah | apply au) | exact HB.out)⟩
  · rw [if_neg c3] at H
    have qo : decide (65535 < (a1.size : Int)) = false := decide_eq_false c3
    have A9 : decide (65535 < a1.size) = false := decide_eq_false (by omega)
    clear c3
    replace H := zbm H
    obtain ⟨⟨TM, t171⟩, Dr, H⟩ := H
    replace H : (if t171 = 0 then (some (TM.toList == a1.toList)) else (some false)) = some r := H
    have A4 := aj.mk Dr
    clear Dr
    by_cases c5 : t171 = 0
    · rw [if_pos c5] at H
      have oN : (t171 == 0) = true := beq_iff_eq.mpr c5
      have uF : (t171 != 0) = false := bne_eq_false_iff_eq.mpr c5
      clear c5
      obtain rfl := Option.some.inj H
      go_enter Try.func83, Try.ntmps83
      go_wp2_with (first | ((with_reducible refine aQ (f := 104) rfl ?_); refine bP (some 15) rfl rfl Try.func104 (by kernel_rfl) rfl #[.string a1, .int .i64 0, .int .i64 (a1.size : Int), .int .i64 a0] rfl (by (try simp only [List.map_toArray, List.map_cons, List.map_nil]); first | done | rfl | (simp only [List.length_drop, List.length_take]; rfl) | (simp only [ByteArray.size_append, Int.natCast_add]; rfl) | (rw [B.dO] <;> first | rfl | omega | (simp only [decide_eq_false_iff_not, decide_eq_true_eq, Int.not_lt, Nat.not_lt, gt_iff_lt] at * <;> omega))) ?_; (with_reducible refine (aX.calls k a1 0 (a1.size : Int) a0 TM t171 _ A4.out).mono ?_); rintro e w6 ⟨rfl, hb⟩; refine ⟨_, rfl, ?_⟩; have dX := aj.mk (bE (by repeat (first | (with_reducible first | exact HB.out | apply ak | apply ah | apply au) | exact HB.out)) hb); clear HB; have HB := dX; clear dX; (try clear hb); (try clear hb2); (try clear hk); (try clear hi)))
      go_ret
      exact ⟨by first | rfl | (simp [aJ, aK] <;> rfl) | (simp [*, aJ, aK] <;> rfl), by repeat (first | (with_reducible first | exact HB.out | apply ak | apply ah | apply au) | exact HB.out)⟩
    · rw [if_neg c5] at H
      have oN : (t171 == 0) = false := beq_eq_false_iff_ne.mpr c5
      have uF : (t171 != 0) = true := bne_iff_ne.mpr c5
      obtain rfl := Option.some.inj H
      go_enter Try.func83, Try.ntmps83
      go_wp2_with (first | ((with_reducible refine aQ (f := 104) rfl ?_); refine bP (some 15) rfl rfl Try.func104 (by kernel_rfl) rfl #[.string a1, .int .i64 0, .int .i64 (a1.size : Int), .int .i64 a0] rfl (by (try simp only [List.map_toArray, List.map_cons, List.map_nil]); first | done | rfl | (simp only [List.length_drop, List.length_take]; rfl) | (simp only [ByteArray.size_append, Int.natCast_add]; rfl) | (rw [B.dO] <;> first | rfl | omega | (simp only [decide_eq_false_iff_not, decide_eq_true_eq, Int.not_lt, Nat.not_lt, gt_iff_lt] at * <;> omega))) ?_; (with_reducible refine (aX.calls k a1 0 (a1.size : Int) a0 TM t171 _ A4.out).mono ?_); rintro e w7 ⟨rfl, hb⟩; refine ⟨_, rfl, ?_⟩; have dX := aj.mk (bE (by repeat (first | (with_reducible first | exact HB.out | apply ak | apply ah | apply au) | exact HB.out)) hb); clear HB; have HB := dX; clear dX; (try clear hb); (try clear hb2); (try clear hk); (try clear hi)))
      go_ret
      exact ⟨by first | rfl | (simp [aJ, aK] <;> rfl) | (simp [*, aJ, aK] <;> rfl), by repeat (first | (with_reducible first | exact HB.out | apply ak | apply ah | apply au) | exact HB.out)⟩
def bg.l0 : Nat → ByteArray → List ByteArray → Int → Int → Int → Int → Int → Option (List ByteArray)
  | 0, _, _, _, _, _, _, _ => none
  | k + 1, x1, x5, x7, x8, OV, GK, OW => if x8 < GK then ((aU.f k x1 x7).bind fun QH => (if x5.length < 8796093022208 then (bg.l0 k x1 (x5 ++ [QH.1]) QH.2.1 (wrap64 (x8 + 1)) OV GK OW) else (none))) else (some x5)
def bg.f (k : Nat) (a0 : Int) (a1 : ByteArray) : Option (List ByteArray) := (bR.f k a0 a1).bind fun IB => (if IB = true then ((aH.f k a0).bind fun kE => (bg.l0 k a1 ([] : List ByteArray) kE.1 0 kE.1 kE.2.1 kE.2.2)) else (some ([] : List ByteArray)))
set_option maxHeartbeats 8000000 in
set_option maxRecDepth 100000 in
theorem bg.calls (k : Nat) (a0 : Int) (a1 : ByteArray) (r : List ByteArray) (w : World) (h : bg.f k a0 a1 = some r) :
    Calls Try.prog 105 #[.int .i64 a0, .string a1] w fun e w' => ∃ Qu : Value, e = .returned (Qu) ∧ Kd.R Kd.string 9 w' w.heap.size (fun _ => True) Qu r ∧ Below w.heap.size w w' := by
  have Lf := Try.underlying142
  have HB := aj.mk (Below.refl w.heap.size w)
  have H : ((bR.f k a0 a1).bind fun IB => (if IB = true then ((aH.f k a0).bind fun kE => (bg.l0 k a1 ([] : List ByteArray) kE.1 0 kE.1 kE.2.1 kE.2.2)) else (some ([] : List ByteArray)))) = some r := h
  clear h
  replace H := zbm H
  obtain ⟨IB, Qy, H⟩ := H
  replace H : (if IB = true then ((aH.f k a0).bind fun kE => (bg.l0 k a1 ([] : List ByteArray) kE.1 0 kE.1 kE.2.1 kE.2.2)) else (some ([] : List ByteArray))) = some r := H
  have A3 := aj.mk Qy
  clear Qy
  by_cases c4 : IB = true
  · subst c4
    have H1 : ((aH.f k a0).bind fun kE => (bg.l0 k a1 ([] : List ByteArray) kE.1 0 kE.1 kE.2.1 kE.2.2)) = some r := by rw [if_pos rfl] at H; exact H
    clear H
    have H := H1
    clear H1
    replace H := zbm H
    obtain ⟨⟨t173, uG, t175⟩, QF, H⟩ := H
    replace H : (bg.l0 k a1 ([] : List ByteArray) t173 0 t173 uG t175) = some r := H
    have A5 := aj.mk QF
    clear QF
    have H' := aj.mk H
    clear H
    go_enter Try.func105, Try.ntmps105
    go_wp2_with (first | ((with_reducible refine aQ (f := 83) rfl ?_); refine bP (some 14) rfl rfl Try.func83 (by kernel_rfl) rfl #[.int .i64 a0, .string a1] rfl (by (try simp only [List.map_toArray, List.map_cons, List.map_nil]); first | done | rfl | (simp only [List.length_drop, List.length_take]; rfl) | (simp only [ByteArray.size_append, Int.natCast_add]; rfl) | (rw [B.dO] <;> first | rfl | omega | (simp only [decide_eq_false_iff_not, decide_eq_true_eq, Int.not_lt, Nat.not_lt, gt_iff_lt] at * <;> omega))) ?_; (with_reducible refine (bR.calls k a0 a1 true _ A3.out).mono ?_); rintro e w6 ⟨rfl, hb⟩; refine ⟨_, rfl, ?_⟩; have dX := aj.mk (bE (by repeat (first | (with_reducible first | exact HB.out | apply ak | apply ah | apply au) | exact HB.out)) hb); clear HB; have HB := dX; clear dX; (try clear hb); (try clear hb2); (try clear hk); (try clear hi)) | ((with_reducible refine aQ (f := 106) rfl ?_); refine bP (some 17) rfl rfl Try.func106 (by kernel_rfl) rfl #[.int .i64 a0] rfl (by (try simp only [List.map_toArray, List.map_cons, List.map_nil]); first | done | rfl | (simp only [List.length_drop, List.length_take]; rfl) | (simp only [ByteArray.size_append, Int.natCast_add]; rfl) | (rw [B.dO] <;> first | rfl | omega | (simp only [decide_eq_false_iff_not, decide_eq_true_eq, Int.not_lt, Nat.not_lt, gt_iff_lt] at * <;> omega))) ?_; (with_reducible refine (aH.calls k a0 t173 uG t175 _ A5.out).mono ?_); rintro e w7 ⟨rfl, hb⟩; refine ⟨_, rfl, ?_⟩; have dX := aj.mk (bE (by repeat (first | (with_reducible first | exact HB.out | apply ak | apply ah | apply au) | exact HB.out)) hb); clear HB; have HB := dX; clear dX; (try clear hb); (try clear hb2); (try clear hk); (try clear hi)) | ((with_reducible refine gF (N := 6) rfl ?_); refine fP ?hg (N := 6) ?hd (cs := #[.int .i64 0, .int .i64 0, .int .i64 0]) (t := 142) ?hr ?_; (case hd => rfl); (case hg => rfl); (case hr => first | (go_simp; done) | (go_simp; rfl)); intro nD hg w8 gQ hb; have dX := aj.mk (bE (by repeat (first | (with_reducible first | exact HB.out | apply ak | apply ah | apply au) | exact HB.out)) hb); have gV := aj.mk (gQ); have iZ := aj.mk ((by rw [hg]; exact (bL (by repeat (first | (with_reducible first | exact HB.out | apply ak | apply ah | apply au) | exact HB.out))) : w.heap.size ≤ nD)); have jG := aj.mk ((by rw [hg]; exact (bL (by repeat (first | (with_reducible first | exact HB.out | apply ak | apply ah | apply au) | exact HB.out))) : w.heap.size ≤ nD)); clear HB; have HB := dX; have iR := gV; have afN := iZ; have DJ := jG; clear dX gV iZ jG; clear hb gQ hg; have Lg : w8.cell? ⟨nD, 0, none⟩ = some (.int .i64 0) := (aM iR.out 0).trans rfl; have Lh : w8.cell? ⟨nD, 1, none⟩ = some (.int .i64 0) := (aM iR.out 1).trans rfl; have Li : w8.cell? ⟨nD, 2, none⟩ = some (.int .i64 0) := (aM iR.out 2).trans rfl; have Lj := ay iR.out 0; have Ll := ay iR.out 1; have Lm := ay iR.out 2))
    go_loopg [5, 7, 8] k (fun kq v5 v7 v8 w' => ∃ (DK : List ByteArray) (dJ : Int) (gG : Int), v7 = .int .i64 dJ ∧ v8 = .int .i64 gG ∧ aj (bg.l0 kq a1 DK dJ gG t173 uG t175 = some r) ∧ aj (kq ≤ k) ∧ aj (Kd.R Kd.string 9 w' w.heap.size (fun _ => True) v5 DK) ∧ aj (w'.heap[nD]? = some (.cells #[.int .i64 t173, .int .i64 uG, .int .i64 t175] 142 (0, 0))) ∧ aj (Below w.heap.size w w'))
    case atStart => exact ⟨(([] : List ByteArray)), (t173), (0), (by first | rfl | (simp; done) | (simp [*]; done) | (simp [B.aV]; done) | (simp [B.aW]; done)), (by first | rfl | (simp; done) | (simp [*]; done) | (simp [B.aV]; done) | (simp [B.aW]; done)), H', ⟨Nat.le_refl _⟩, ⟨by first | exact Kd.jB _ _ _ _ _ | exact Kd.kS _ _ _ _ _ | exact Kd.kT _ _ _ _ _ | exact Kd.kQ _ _ _ _ _ | exact Kd.kR _ _ _ _ _⟩, ⟨by (with_reducible repeat (first | refine aG ?_ _ | refine aI ?_ | refine aA ?_ _)); refine bU (cs := #[.int .i64 t173, .int .i64 uG, .int .i64 0]) ?_ 2 _ rfl; (with_reducible repeat (first | refine aG ?_ _ | refine aI ?_ | refine aA ?_ _)); refine bU (cs := #[.int .i64 t173, .int .i64 0, .int .i64 0]) ?_ 1 _ rfl; (with_reducible repeat (first | refine aG ?_ _ | refine aI ?_ | refine aA ?_ _)); refine bU (cs := #[.int .i64 0, .int .i64 0, .int .i64 0]) ?_ 0 _ rfl; (with_reducible repeat (first | refine aG ?_ _ | refine aI ?_ | refine aA ?_ _)); exact iR.out⟩, ⟨by repeat (first | (with_reducible first | exact HB.out | apply ak | apply ah | apply au | refine aR ?_ DJ.out) | exact HB.out)⟩⟩
    case round =>
      clear H'
      try clear c1
      try clear p2
      try clear c4
      try clear c8
      try clear Lg
      try clear Lh
      try clear Li
      try clear Lj
      try clear Ll
      try clear Lm
      obtain ⟨DK, dJ, gG, rfl, rfl, HA, sQ, uH, iR, HB⟩ := hrel
      cases gk with
      | zero => exact absurd HA.out (by simp [bg.l0])
      | succ k1 =>
        have H := HA.out
        clear HA
        simp only [bg.l0] at H
        by_cases c10 : gG < uG
        · rw [if_pos c10] at H
          have qG : decide (gG < uG) = true := decide_eq_true c10
          clear c10
          replace H := zbm H
          obtain ⟨⟨Lu, OX, adM⟩, Y7, H⟩ := H
          replace H : (if DK.length < 8796093022208 then (bg.l0 k1 a1 (DK ++ [Lu]) OX (wrap64 (gG + 1)) t173 uG t175) else (none)) = some r := H
          have A11 := aj.mk Y7
          clear Y7
          by_cases c12 : DK.length < 8796093022208
          · rw [if_pos c12] at H
            have Y8 := aj.mk c12
            clear c12
            obtain ⟨Y9, DL⟩ : ∃ y_ : List ByteArray, y_ = (DK ++ [Lu]) := ⟨_, rfl⟩
            replace H : (bg.l0 k1 a1 Y9 OX (wrap64 (gG + 1)) t173 uG t175) = some r := by first | (rw [DL]; with_reducible exact H) | (have ES := (Option.bind_some _ _).symm.trans H; rw [DL]; with_reducible exact ES) | (have ES := (Option.bind_some _ _).symm.trans H; with_reducible exact ES) | with_reducible exact H | (rw [DL]; exact H) | exact H
            have Za := aj.mk DL
            clear DL
            have H' := aj.mk H
            clear H
            have Bf : wr.cell? ⟨nD, 0, none⟩ = some (.int .i64 t173) := (aM iR.out 0).trans rfl
            have Bg : wr.cell? ⟨nD, 1, none⟩ = some (.int .i64 uG) := (aM iR.out 1).trans rfl
            have Bh : wr.cell? ⟨nD, 2, none⟩ = some (.int .i64 t175) := (aM iR.out 2).trans rfl
            have Bj := ay iR.out 0
            have Bl := ay iR.out 1
            have Bn := ay iR.out 2
            go_wp2_with (first | ((with_reducible refine aQ (f := 118) rfl ?_); refine bP (some 29) rfl rfl Try.func118 (by kernel_rfl) rfl #[.string a1, .int .i64 dJ] rfl (by (try simp only [List.map_toArray, List.map_cons, List.map_nil]); first | done | rfl | (simp only [List.length_drop, List.length_take]; rfl) | (simp only [ByteArray.size_append, Int.natCast_add]; rfl) | (rw [B.dO] <;> first | rfl | omega | (simp only [decide_eq_false_iff_not, decide_eq_true_eq, Int.not_lt, Nat.not_lt, gt_iff_lt] at * <;> omega))) ?_; (with_reducible refine (aU.calls k1 a1 dJ Lu OX adM _ A11.out).mono ?_); rintro e w' ⟨rfl, ⟨nd, rfl⟩⟩; refine ⟨_, rfl, ?_⟩) | ((with_reducible refine nN (b := .append) (xs := #[.tmp 33, .tmp 35]) rfl ?_); at_builtin; refine Kd.xq Kd.string (w0 := w) w.heap.size rfl (.tmp 33) (.tmp 35) 33 9 (.string ⟨#[]⟩) 16 rfl Try.underlying33 Gb rfl (by decide) (by omega) u5 DK Lu [.string Lu] (fun _ => True) (fun _ => False) rfl rfl ?aP (fun _ hk => hk.elim) ?aF ?aO ?aB ?aS ?aL ?_; (case aP => exact rfl); (case aB => exact (by repeat (first | (with_reducible first | exact HB.out | apply ak | apply ah | apply au | refine aR ?_ DJ.out) | exact HB.out))); (case aF => exact (fun _ _ => trivial)); (case aO => exact (by (with_reducible repeat (first | apply Kd.eU | apply Kd.fG | apply Kd.fQ)); exact uH.out)); (case aS => exact (bL (by repeat (first | (with_reducible first | exact HB.out | apply ak | apply ah | apply au | refine aR ?_ DJ.out) | exact HB.out)))); (case aL => have := Y8.out; omega); intro af9 w14 ho hb hg hat; rw [← Za.out] at ho; have dX := aj.mk (pJ (g := nD) (o := .cells #[.int .i64 t173, .int .i64 uG, .int .i64 t175] 142 (0, 0)) (by (with_reducible repeat (first | refine aG ?_ _ | refine aI ?_ | refine aA ?_ _)); exact iR.out) hg (Kd.Nv uH.out iR.out (by decide))); have gV := aj.mk (hb); have iZ := aj.mk (ho); clear iR; clear HB; clear uH; have iR := dX; have HB := gV; have Zb := iZ; clear dX gV iZ; clear ho hb hg hat))
            go_roundg k1
            case measure => have := sQ.out; omega
            case rel => exact ⟨(Y9), (OX), (wrap64 (gG + 1)), (by first | rfl | (simp; done) | (simp [*]; done) | (simp [B.aV]; done) | (simp [B.aW]; done)), (by first | rfl | (simp; done) | (simp [*]; done) | (simp [B.aV]; done) | (simp [B.aW]; done)), H', ⟨by have := sQ.out; omega⟩, ⟨by (with_reducible repeat (first | apply Kd.eU | apply Kd.fG | apply Kd.fQ)); exact Zb.out⟩, ⟨by (with_reducible repeat (first | refine aG ?_ _ | refine aI ?_ | refine aA ?_ _)); exact iR.out⟩, ⟨by repeat (first | (with_reducible first | exact HB.out | apply ak | apply ah | apply au | refine aR ?_ DJ.out) | exact HB.out)⟩⟩
          · rw [if_neg c12] at H
            exact absurd H (by simp)
        · rw [if_neg c10] at H
          have qG : decide (gG < uG) = false := decide_eq_false c10
          clear c10
          obtain rfl := Option.some.inj H
          have Bo : wr.cell? ⟨nD, 0, none⟩ = some (.int .i64 t173) := (aM iR.out 0).trans rfl
          have Bp : wr.cell? ⟨nD, 1, none⟩ = some (.int .i64 uG) := (aM iR.out 1).trans rfl
          have Bq : wr.cell? ⟨nD, 2, none⟩ = some (.int .i64 t175) := (aM iR.out 2).trans rfl
          have Bt := ay iR.out 0
          have Bu := ay iR.out 1
          have Bv := ay iR.out 2
          go_wp2
          go_ret
          exact ⟨_, by first | rfl | (simp [aJ, aK] <;> rfl) | (simp [*, aJ, aK] <;> rfl), by (with_reducible repeat (first | apply Kd.eU | apply Kd.fG | apply Kd.fQ)); exact uH.out, by repeat (first | (with_reducible first | exact HB.out | apply ak | apply ah | apply au | refine aR ?_ DJ.out) | exact HB.out)⟩
  · replace c4 := Bool.eq_false_iff.mpr c4
    subst c4
    have H1 : (some ([] : List ByteArray)) = some r := by rw [if_neg (show ¬ (false = true) by decide)] at H; exact H
    clear H
    have H := H1
    clear H1
    obtain rfl := Option.some.inj H
    go_enter Try.func105, Try.ntmps105
    go_wp2_with (first | ((with_reducible refine aQ (f := 83) rfl ?_); refine bP (some 14) rfl rfl Try.func83 (by kernel_rfl) rfl #[.int .i64 a0, .string a1] rfl (by (try simp only [List.map_toArray, List.map_cons, List.map_nil]); first | done | rfl | (simp only [List.length_drop, List.length_take]; rfl) | (simp only [ByteArray.size_append, Int.natCast_add]; rfl) | (rw [B.dO] <;> first | rfl | omega | (simp only [decide_eq_false_iff_not, decide_eq_true_eq, Int.not_lt, Nat.not_lt, gt_iff_lt] at * <;> omega))) ?_; (with_reducible refine (bR.calls k a0 a1 false _ A3.out).mono ?_); rintro e w16 ⟨rfl, hb⟩; refine ⟨_, rfl, ?_⟩; have dX := aj.mk (bE (by repeat (first | (with_reducible first | exact HB.out | apply ak | apply ah | apply au) | exact HB.out)) hb); clear HB; have HB := dX; clear dX; (try clear hb); (try clear hb2); (try clear hk); (try clear hi)))
    go_ret
    exact ⟨_, by first | rfl | (simp [aJ, aK] <;> rfl) | (simp [*, aJ, aK] <;> rfl), by first | exact Kd.jB _ _ _ _ _ | exact Kd.kS _ _ _ _ _ | exact Kd.kT _ _ _ _ _ | exact Kd.kQ _ _ _ _ _ | exact Kd.kR _ _ _ _ _, by repeat (first | (with_reducible first | exact HB.out | apply ak | apply ah | apply au) | exact HB.out)⟩
def bG.l0 : Nat → ByteArray → List ByteArray → ByteArray → Int → Int → Option (ByteArray)
  | 0, _, _, _, _, _ => none
  | k + 1, x1, x5, x7, x8, x9 => if x9 < (x5.length : Int) then (if 0 ≤ x9 then ((fq.f k (oH ByteArray.empty x5 x9)).bind fun yR => (if x7.size + yR.size ≤ 9223372036854775807 then (bG.l0 k x1 x5 (x7 ++ yR) (wrap64 (x8 + ((oH ByteArray.empty x5 x9).size : Int))) (wrap64 (x9 + 1))) else (none))) else (none)) else (if 0 ≤ x8 then (if x8 ≤ (x1.size : Int) then (if x7.size + (x1.extract (x8 : Int).toNat x1.size).size ≤ 9223372036854775807 then (some (x7 ++ (x1.extract (x8 : Int).toNat x1.size))) else (none)) else (none)) else (none))
def bG.f (k : Nat) (a0 : Int) (a1 : ByteArray) : Option (ByteArray) := (bR.f k a0 a1).bind fun t183 => (if t183 = true then ((bg.f k a0 a1).bind fun l8 => ((aH.f k a0).bind fun iX => (if 0 ≤ iX.1 then (if iX.1 ≤ (a1.size : Int) then (bG.l0 k a1 l8 (a1.extract 0 (iX.1 : Int).toNat) iX.1 0) else (none)) else (none)))) else (some (⟨#[]⟩ : ByteArray)))
set_option maxHeartbeats 8000000 in
set_option maxRecDepth 100000 in
theorem bG.calls (k : Nat) (a0 : Int) (a1 : ByteArray) (r : ByteArray) (w : World) (h : bG.f k a0 a1 = some r) :
    Calls Try.prog 84 #[.int .i64 a0, .string a1] w fun e w' => e = .returned (.string r) ∧ Below w.heap.size w w' := by
  have Lf := Try.underlying142
  have HB := aj.mk (Below.refl w.heap.size w)
  have H : ((bR.f k a0 a1).bind fun t183 => (if t183 = true then ((bg.f k a0 a1).bind fun l8 => ((aH.f k a0).bind fun iX => (if 0 ≤ iX.1 then (if iX.1 ≤ (a1.size : Int) then (bG.l0 k a1 l8 (a1.extract 0 (iX.1 : Int).toNat) iX.1 0) else (none)) else (none)))) else (some (⟨#[]⟩ : ByteArray)))) = some r := h
  clear h
  replace H := zbm H
  obtain ⟨t183, Qy, H⟩ := H
  replace H : (if t183 = true then ((bg.f k a0 a1).bind fun l8 => ((aH.f k a0).bind fun iX => (if 0 ≤ iX.1 then (if iX.1 ≤ (a1.size : Int) then (bG.l0 k a1 l8 (a1.extract 0 (iX.1 : Int).toNat) iX.1 0) else (none)) else (none)))) else (some (⟨#[]⟩ : ByteArray))) = some r := H
  have A3 := aj.mk Qy
  clear Qy
  by_cases c4 : t183 = true
  · subst c4
    have H1 : ((bg.f k a0 a1).bind fun l8 => ((aH.f k a0).bind fun iX => (if 0 ≤ iX.1 then (if iX.1 ≤ (a1.size : Int) then (bG.l0 k a1 l8 (a1.extract 0 (iX.1 : Int).toNat) iX.1 0) else (none)) else (none)))) = some r := by rw [if_pos rfl] at H; exact H
    clear H
    have H := H1
    clear H1
    replace H := zbm H
    obtain ⟨l8, QF, H⟩ := H
    replace H : ((aH.f k a0).bind fun iX => (if 0 ≤ iX.1 then (if iX.1 ≤ (a1.size : Int) then (bG.l0 k a1 l8 (a1.extract 0 (iX.1 : Int).toNat) iX.1 0) else (none)) else (none))) = some r := H
    have A5 := aj.mk QF
    clear QF
    replace H := zbm H
    obtain ⟨⟨qx, Lv, OY⟩, A60, H⟩ := H
    replace H : (if 0 ≤ qx then (if qx ≤ (a1.size : Int) then (bG.l0 k a1 l8 (a1.extract 0 (qx : Int).toNat) qx 0) else (none)) else (none)) = some r := H
    have A6 := aj.mk A60
    clear A60
    by_cases c7 : 0 ≤ qx
    · rw [if_pos c7] at H
      have tu := eq_true c7
      have Io : decide (0 ≤ qx) = true := decide_eq_true c7
      clear c7
      by_cases c8 : qx ≤ (a1.size : Int)
      · rw [if_pos c8] at H
        have qV := eq_true c8
        have qW : decide (qx ≤ (a1.size : Int)) = true := decide_eq_true c8
        clear c8
        have H' := aj.mk H
        clear H
        go_enter Try.func84, Try.ntmps84
        go_wp2_with (first | ((with_reducible refine aQ (f := 83) rfl ?_); refine bP (some 12) rfl rfl Try.func83 (by kernel_rfl) rfl #[.int .i64 a0, .string a1] rfl (by (try simp only [List.map_toArray, List.map_cons, List.map_nil]); first | done | rfl | (simp only [List.length_drop, List.length_take]; rfl) | (simp only [ByteArray.size_append, Int.natCast_add]; rfl) | (rw [B.dO] <;> first | rfl | omega | (simp only [decide_eq_false_iff_not, decide_eq_true_eq, Int.not_lt, Nat.not_lt, gt_iff_lt] at * <;> omega))) ?_; (with_reducible refine (bR.calls k a0 a1 true _ A3.out).mono ?_); rintro e w9 ⟨rfl, hb⟩; refine ⟨_, rfl, ?_⟩; have dX := aj.mk (bE (by repeat (first | (with_reducible first | exact HB.out | apply ak | apply ah | apply au) | exact HB.out)) hb); clear HB; have HB := dX; clear dX; (try clear hb); (try clear hb2); (try clear hk); (try clear hi)) | ((with_reducible refine aQ (f := 105) rfl ?_); refine bP (some 16) rfl rfl Try.func105 (by kernel_rfl) rfl #[.int .i64 a0, .string a1] rfl (by (try simp only [List.map_toArray, List.map_cons, List.map_nil]); first | done | rfl | (simp only [List.length_drop, List.length_take]; rfl) | (simp only [ByteArray.size_append, Int.natCast_add]; rfl) | (rw [B.dO] <;> first | rfl | omega | (simp only [decide_eq_false_iff_not, decide_eq_true_eq, Int.not_lt, Nat.not_lt, gt_iff_lt] at * <;> omega))) ?_; (with_reducible refine (bg.calls k a0 a1 l8 _ A5.out).mono ?_); rintro e w10 ⟨adN, rfl, ho0, hb⟩; refine ⟨_, rfl, ?_⟩; have dX := aj.mk (Kd.sI ho0 (bL (by repeat (first | (with_reducible first | exact HB.out | apply ak | apply ah | apply au) | exact HB.out)))); have gV := aj.mk (bE (by repeat (first | (with_reducible first | exact HB.out | apply ak | apply ah | apply au) | exact HB.out)) hb); clear HB; have xX := dX; have HB := gV; clear dX gV; (try clear hb); (try clear hb2); (try clear hk); (try clear hi); (try clear ho0)) | ((with_reducible refine aQ (f := 106) rfl ?_); refine bP (some 18) rfl rfl Try.func106 (by kernel_rfl) rfl #[.int .i64 a0] rfl (by (try simp only [List.map_toArray, List.map_cons, List.map_nil]); first | done | rfl | (simp only [List.length_drop, List.length_take]; rfl) | (simp only [ByteArray.size_append, Int.natCast_add]; rfl) | (rw [B.dO] <;> first | rfl | omega | (simp only [decide_eq_false_iff_not, decide_eq_true_eq, Int.not_lt, Nat.not_lt, gt_iff_lt] at * <;> omega))) ?_; (with_reducible refine (aH.calls k a0 qx Lv OY _ A6.out).mono ?_); rintro e TH ⟨rfl, hb⟩; refine ⟨_, rfl, ?_⟩; have dX := aj.mk (Kd.j3 (by (with_reducible repeat (first | apply Kd.eU | apply Kd.fG | apply Kd.fQ)); exact xX.out) hb); have gV := aj.mk (bE (by repeat (first | (with_reducible first | exact HB.out | apply ak | apply ah | apply au) | exact HB.out)) hb); clear xX; clear HB; have xX := dX; have HB := gV; clear dX gV; (try clear hb); (try clear hb2); (try clear hk); (try clear hi)) | ((with_reducible refine gF (N := 6) rfl ?_); refine fP ?hg (N := 6) ?hd (cs := #[.int .i64 0, .int .i64 0, .int .i64 0]) (t := 142) ?hr ?_; (case hd => rfl); (case hg => rfl); (case hr => first | (go_simp; done) | (go_simp; rfl)); intro qI hg w12 gQ hb; have dX := aj.mk (Kd.j3 (by (with_reducible repeat (first | apply Kd.eU | apply Kd.fG | apply Kd.fQ)); exact xX.out) hb); have gV := aj.mk (bE (by repeat (first | (with_reducible first | exact HB.out | apply ak | apply ah | apply au) | exact HB.out)) hb); have iZ := aj.mk (gQ); have jG := aj.mk ((by rw [hg]; exact (bL (by repeat (first | (with_reducible first | exact HB.out | apply ak | apply ah | apply au) | exact HB.out))) : w.heap.size ≤ qI)); have qw := aj.mk ((by rw [hg]; exact (bL (by repeat (first | (with_reducible first | exact HB.out | apply ak | apply ah | apply au) | exact HB.out))) : w.heap.size ≤ qI)); clear xX; clear HB; have xX := dX; have HB := gV; have nE := iZ; have afO := jG; have GL := qw; clear dX gV iZ jG qw; clear hb gQ hg; have Bf : w12.cell? ⟨qI, 0, none⟩ = some (.int .i64 0) := (aM nE.out 0).trans rfl; have Bg : w12.cell? ⟨qI, 1, none⟩ = some (.int .i64 0) := (aM nE.out 1).trans rfl; have Bh : w12.cell? ⟨qI, 2, none⟩ = some (.int .i64 0) := (aM nE.out 2).trans rfl; have Bj := ay nE.out 0; have Bl := ay nE.out 1; have Bn := ay nE.out 2))
        go_loopg [7, 8, 9] k (fun kq v7 v8 v9 w' => ∃ (dJ : ByteArray) (gG : Int) (iE : Int), v7 = .string dJ ∧ v8 = .int .i64 gG ∧ v9 = .int .i64 iE ∧ aj (bG.l0 kq a1 l8 dJ gG iE = some r) ∧ aj (kq ≤ k) ∧ aj (Kd.R Kd.string 9 w' w.heap.size (fun _ => True) adN l8) ∧ aj (w'.heap[qI]? = some (.cells #[.int .i64 qx, .int .i64 Lv, .int .i64 OY] 142 (0, 0))) ∧ aj (Below w.heap.size w w'))
        case atStart => exact ⟨(a1.extract 0 (qx : Int).toNat), (qx), (0), (by first | rfl | (simp; done) | (simp [*]; done) | (simp [B.aV]; done) | (simp [B.aW]; done)), (by first | rfl | (simp; done) | (simp [*]; done) | (simp [B.aV]; done) | (simp [B.aW]; done)), (by first | rfl | (simp; done) | (simp [*]; done) | (simp [B.aV]; done) | (simp [B.aW]; done)), H', ⟨Nat.le_refl _⟩, ⟨by (with_reducible repeat (first | apply Kd.eU | apply Kd.fG | apply Kd.fQ)); exact Kd.oJ (Kd.sJ (p := ⟨qI, 2, none⟩) (Kd.sJ (p := ⟨qI, 1, none⟩) (Kd.sJ (p := ⟨qI, 0, none⟩) (Kd.sK xX.out nE.out (by decide)) (fun _ hk => hk.2) (.int .i64 qx)) (fun _ hk => hk.2) (.int .i64 Lv)) (fun _ hk => hk.2) (.int .i64 OY)) (fun _ hk => trivial)⟩, ⟨by (with_reducible repeat (first | refine aG ?_ _ | refine aI ?_ | refine aA ?_ _)); refine bU (cs := #[.int .i64 qx, .int .i64 Lv, .int .i64 0]) ?_ 2 _ rfl; (with_reducible repeat (first | refine aG ?_ _ | refine aI ?_ | refine aA ?_ _)); refine bU (cs := #[.int .i64 qx, .int .i64 0, .int .i64 0]) ?_ 1 _ rfl; (with_reducible repeat (first | refine aG ?_ _ | refine aI ?_ | refine aA ?_ _)); refine bU (cs := #[.int .i64 0, .int .i64 0, .int .i64 0]) ?_ 0 _ rfl; (with_reducible repeat (first | refine aG ?_ _ | refine aI ?_ | refine aA ?_ _)); exact nE.out⟩, ⟨by repeat (first | (with_reducible first | exact HB.out | apply ak | apply ah | apply au | refine aR ?_ GL.out) | exact HB.out)⟩⟩
        case round =>
          clear H'
          try clear c1
          try clear p2
          try clear c4
          try clear c7
          try clear tu
          try clear Io
          try clear c8
          try clear qV
          try clear qW
          try clear c10
          try clear Bf
          try clear Bg
          try clear Bh
          try clear Bj
          try clear Bl
          try clear Bn
          obtain ⟨dJ, gG, iE, rfl, rfl, rfl, HA, sQ, uH, nE, HB⟩ := hrel
          cases gk with
          | zero => exact absurd HA.out (by simp [bG.l0])
          | succ k1 =>
            have H := HA.out
            clear HA
            simp only [bG.l0] at H
            by_cases c14 : iE < (l8.length : Int)
            · rw [if_pos c14] at H
              have zF : decide (iE < (l8.length : Int)) = true := decide_eq_true c14
              clear c14
              by_cases c15 : 0 ≤ iE
              · rw [if_pos c15] at H
                have XK : decide (0 ≤ iE) = true := decide_eq_true c15
                clear c15
                replace H := zbm H
                obtain ⟨yR, Zc, H⟩ := H
                replace H : (if dJ.size + yR.size ≤ 9223372036854775807 then (bG.l0 k1 a1 l8 (dJ ++ yR) (wrap64 (gG + ((oH ByteArray.empty l8 iE).size : Int))) (wrap64 (iE + 1))) else (none)) = some r := H
                have A16 := aj.mk Zc
                clear Zc
                by_cases c17 : dJ.size + yR.size ≤ 9223372036854775807
                · rw [if_pos c17] at H
                  have QC := eq_true c17
                  have afP : decide (dJ.size + yR.size ≤ 9223372036854775807) = true := decide_eq_true c17
                  try have afQ : (9223372036854775807 < dJ.size + yR.size) = False := eq_false (Nat.not_lt.2 c17)
                  have H' := aj.mk H
                  clear H
                  obtain ⟨aga, agb, adO⟩ := Kd.vP uH.out
                  subst adO
                  have TN : 0 ≤ (iE : Int) := of_decide_eq_true (by first | (with_reducible assumption) | assumption)
                  have TP : iE < (l8.length : Int) := of_decide_eq_true (by first | (with_reducible assumption) | assumption)
                  obtain ⟨Zd, adP, ab5⟩ := Kd.zu (Kd.oK uH.out).2.2 iE TN TP
                  cases adP
                  replace TN := eq_true TN
                  replace TP := eq_true TP
                  go_wp2_with (first | ((with_reducible refine aQ (f := 101) rfl ?_); refine bP (some 36) rfl rfl Try.func101 (by kernel_rfl) rfl #[.string (oH ByteArray.empty l8 iE)] rfl (by (try simp only [List.map_toArray, List.map_cons, List.map_nil]); first | done | rfl | (simp only [List.length_drop, List.length_take]; rfl) | (simp only [ByteArray.size_append, Int.natCast_add]; rfl) | (rw [B.dO] <;> first | rfl | omega | (simp only [decide_eq_false_iff_not, decide_eq_true_eq, Int.not_lt, Nat.not_lt, gt_iff_lt] at * <;> omega))) ?_; (with_reducible refine (fq.calls k1 (oH ByteArray.empty l8 iE) yR _ A16.out).mono ?_); rintro e w19 ⟨rfl, hb⟩; refine ⟨_, rfl, ?_⟩; have dX := aj.mk (Kd.j3 (by (with_reducible repeat (first | apply Kd.eU | apply Kd.fG | apply Kd.fQ)); exact uH.out) hb); have gV := aj.mk (dM (g := qI) (o := .cells #[.int .i64 qx, .int .i64 Lv, .int .i64 OY] 142 (0, 0)) (by (with_reducible repeat (first | refine aG ?_ _ | refine aI ?_ | refine aA ?_ _)); exact nE.out) hb); have iZ := aj.mk (bE (by repeat (first | (with_reducible first | exact HB.out | apply ak | apply ah | apply au | refine aR ?_ GL.out) | exact HB.out)) hb); clear uH; clear nE; clear HB; have uH := dX; have nE := gV; have HB := iZ; clear dX gV iZ; (try clear hb); (try clear hb2); (try clear hk); (try clear hi); have TQ : 0 ≤ (iE : Int) := of_decide_eq_true (by first | (with_reducible assumption) | assumption); have TR : iE < (l8.length : Int) := of_decide_eq_true (by first | (with_reducible assumption) | assumption); obtain ⟨Ze, adQ, ab6⟩ := Kd.zu (Kd.oK uH.out).2.2 iE TQ TR; obtain rfl : Zd = Ze := (by injection adQ); replace TQ := eq_true TQ; replace TR := eq_true TR))
                  go_roundg k1
                  case measure => have := sQ.out; omega
                  case rel => exact ⟨(dJ ++ yR), (wrap64 (gG + ((oH ByteArray.empty l8 iE).size : Int))), (wrap64 (iE + 1)), (by first | rfl | (simp; done) | (simp [*]; done) | (simp [B.aV]; done) | (simp [B.aW]; done)), (by first | rfl | (simp; done) | (simp [*]; done) | (simp [B.aV]; done) | (simp [B.aW]; done)), (by first | rfl | (simp; done) | (simp [*]; done) | (simp [B.aV]; done) | (simp [B.aW]; done)), H', ⟨by have := sQ.out; omega⟩, ⟨by (with_reducible repeat (first | apply Kd.eU | apply Kd.fG | apply Kd.fQ)); exact uH.out⟩, ⟨by (with_reducible repeat (first | refine aG ?_ _ | refine aI ?_ | refine aA ?_ _)); exact nE.out⟩, ⟨by repeat (first | (with_reducible first | exact HB.out | apply ak | apply ah | apply au | refine aR ?_ GL.out) | exact HB.out)⟩⟩
                · rw [if_neg c17] at H
                  exact absurd H (by simp)
              · rw [if_neg c15] at H
                exact absurd H (by simp)
            · rw [if_neg c14] at H
              have zF : decide (iE < (l8.length : Int)) = false := decide_eq_false c14
              clear c14
              by_cases c20 : 0 ≤ gG
              · rw [if_pos c20] at H
                have Lb := eq_true c20
                have Yf : decide (0 ≤ gG) = true := decide_eq_true c20
                clear c20
                by_cases c21 : gG ≤ (a1.size : Int)
                · rw [if_pos c21] at H
                  have QA := eq_true c21
                  have QB : decide (gG ≤ (a1.size : Int)) = true := decide_eq_true c21
                  clear c21
                  by_cases D6 : dJ.size + (a1.extract (gG : Int).toNat a1.size).size ≤ 9223372036854775807
                  · rw [if_pos D6] at H
                    have Lp := eq_true D6
                    have Lr : decide (dJ.size + (a1.extract (gG : Int).toNat a1.size).size ≤ 9223372036854775807) = true := decide_eq_true D6
                    try have afR : (9223372036854775807 < dJ.size + (a1.extract (gG : Int).toNat a1.size).size) = False := eq_false (Nat.not_lt.2 D6)
                    obtain rfl := Option.some.inj H
                    obtain ⟨agc, agd, adR⟩ := Kd.vP uH.out
                    subst adR
                    go_wp2
                    go_ret
                    exact ⟨by first | rfl | (simp [aJ, aK] <;> rfl) | (simp [*, aJ, aK] <;> rfl), by repeat (first | (with_reducible first | exact HB.out | apply ak | apply ah | apply au | refine aR ?_ GL.out) | exact HB.out)⟩
                  · rw [if_neg D6] at H
                    exact absurd H (by simp)
                · rw [if_neg c21] at H
                  exact absurd H (by simp)
              · rw [if_neg c20] at H
                exact absurd H (by simp)
      · rw [if_neg c8] at H
        exact absurd H (by simp)
    · rw [if_neg c7] at H
      exact absurd H (by simp)
  · replace c4 := Bool.eq_false_iff.mpr c4
    subst c4
    have H1 : (some (⟨#[]⟩ : ByteArray)) = some r := by rw [if_neg (show ¬ (false = true) by decide)] at H; exact H
    clear H
    have H := H1
    clear H1
    obtain rfl := Option.some.inj H
    go_enter Try.func84, Try.ntmps84
    go_wp2_with (first | ((with_reducible refine aQ (f := 83) rfl ?_); refine bP (some 12) rfl rfl Try.func83 (by kernel_rfl) rfl #[.int .i64 a0, .string a1] rfl (by (try simp only [List.map_toArray, List.map_cons, List.map_nil]); first | done | rfl | (simp only [List.length_drop, List.length_take]; rfl) | (simp only [ByteArray.size_append, Int.natCast_add]; rfl) | (rw [B.dO] <;> first | rfl | omega | (simp only [decide_eq_false_iff_not, decide_eq_true_eq, Int.not_lt, Nat.not_lt, gt_iff_lt] at * <;> omega))) ?_; (with_reducible refine (bR.calls k a0 a1 false _ A3.out).mono ?_); rintro e w24 ⟨rfl, hb⟩; refine ⟨_, rfl, ?_⟩; have dX := aj.mk (bE (by repeat (first | (with_reducible first | exact HB.out | apply ak | apply ah | apply au) | exact HB.out)) hb); clear HB; have HB := dX; clear dX; (try clear hb); (try clear hb2); (try clear hk); (try clear hi)))
    go_ret
    exact ⟨by first | rfl | (simp [aJ, aK] <;> rfl) | (simp [*, aJ, aK] <;> rfl), by repeat (first | (with_reducible first | exact HB.out | apply ak | apply ah | apply au) | exact HB.out)⟩
end Go.Proofs.Ytdkkgecdhapfhaa.ZQ
namespace Go.Proofs.Ytdkkgecdhapfhaa.ZQ
open Go.RowKit Go.Proofs.YtdkkgecdhapfhaaW.bD Go.Proofs.YtdkkgecdhapfhaaW.dV Go.Proofs.YtdkkgecdhapfhaaW.eD Go.Proofs.Ytdkkgecdhapfhaa.B
def uZ (msg : ByteArray) (i : Int) : ByteArray × Int × Int := (bF.f (rounds i) msg i).getD (⟨#[]⟩, 0, 0)
theorem QI (msg : ByteArray) (i : Int) (hm : msg.size ≤ 100000) : bF.f (rounds i) msg i = some (uZ msg i) := by
  obtain ⟨R, h1, _⟩ := zH (rounds i) msg i hm (Nat.le_refl _)
  unfold uZ; rw [h1]; rfl
theorem QJ (k : Nat) (msg : ByteArray) (i : Int) (hm : msg.size ≤ 100000) (hk : rounds i ≤ k) : bF.f k msg i = some (uZ msg i) := Dx hk (QI msg i hm)
theorem uI (k : Nat) (msg : ByteArray) (i : Int) (hm : msg.size ≤ 100000) (hk : rounds i ≤ k) : aU.f k msg i = some (uZ msg i) := by
  obtain ⟨R, h1, h2⟩ := zH k msg i hm hk
  rw [QJ k msg i hm hk] at h1
  rw [h2, h1]
theorem tH (msg : ByteArray) (i : Int) (hm : msg.size ≤ 100000) :
    ((uZ msg i).2.2 = 0 ∧ jC (uZ msg i).1 = true ∧ 0 ≤ i ∧ i < (uZ msg i).2.1 ∧ (uZ msg i).2.1 ≤ (msg.size : Int)) ∨ (((uZ msg i).2.2 = 2 ∨ (uZ msg i).2.2 = 3) ∧ (uZ msg i).1 = ⟨#[]⟩ ∧ (uZ msg i).2.1 = 0) := EX hm (QI msg i hm)
def DN (msg : ByteArray) (e : Int) : Nat → Int → List ByteArray → Option (List ByteArray × Int)
  | 0, i, l => some (l, i)
  | n + 1, i, l => if (uZ msg i).2.2 = 0 then (if (uZ msg i).2.1 > e then none else DN msg e n (uZ msg i).2.1 (l ++ [(uZ msg i).1])) else none
theorem pY (msg : ByteArray) (e : Int) (hm : msg.size ≤ 100000) : ∀ (n : Nat) (i : Int) (l : List ByteArray) (R : List ByteArray × Int), DN msg e n i l = some R → i ≤ e → i ≤ R.2 ∧ R.2 ≤ e ∧ R.1.length = l.length + n ∧ (∃ l', R.1 = l ++ l' ∧ ∀ x ∈ l', jC x = true)
  | 0, i, l, R, h, hi => by cases h; exact ⟨Int.le_refl _, hi, rfl, [], by simp, by simp⟩
  | n + 1, i, l, R, h, hi => by
    rw [DN] at h
    by_cases h0 : (uZ msg i).2.2 = 0
    · rw [if_pos h0] at h
      by_cases h1 : (uZ msg i).2.1 > e
      · rw [if_pos h1] at h; cases h
      · rw [if_neg h1] at h
        obtain ⟨a1, a2, a3, l', a4, a5⟩ := pY msg e hm n _ _ R h (by omega)
        rcases tH msg i hm with ⟨_, b2, _, b4, _⟩ | ⟨b1, _⟩
        · refine ⟨by omega, a2, by rw [a3, List.length_append, List.length_singleton]; omega, (uZ msg i).1 :: l', by rw [a4]; simp, ?_⟩
          intro x hx
          rcases List.mem_cons.mp hx with rfl | hx
          · exact b2
          · exact a5 x hx
        · omega
    · rw [if_neg h0] at h; cases h
def K0 : Nat := 101000
theorem qb {msg : ByteArray} {i : Int} {k : Nat} (hm : msg.size ≤ 100000) (hi : i ≤ (msg.size : Int)) (hk : K0 ≤ k) : rounds i ≤ k := by unfold rounds; unfold K0 at hk; omega
theorem Bw (msg : ByteArray) (e s0 s1 s2 : Int) (a b : ByteArray) (hm : msg.size ≤ 100000) (he : e ≤ (msg.size : Int)) (h2 : 0 ≤ s2 ∧ s2 ≤ 1000) (c : Int) (hc : c ≤ 100) : ∀ (n k : Nat) (i x : Int) (l : List ByteArray), K0 + n ≤ k → x + n = c → 0 ≤ x → 0 ≤ i → i ≤ e → l.length + n ≤ 1000 →
    bV.l0 (k + 1) msg i e c x s0 s1 s2 a b l = (match DN msg e n i l with
      | some R => some (a, msg.extract R.2.toNat e.toNat, R.1, (((msg.extract R.2.toNat e.toNat).size : Int) == s2))
      | none => some (⟨#[]⟩, ⟨#[]⟩, [], false))
  | 0, k, i, x, l, hk, hx, hx0, hi, hie, hl => by
    rw [bV.l0, if_neg (by omega), if_pos hi, if_pos hie, if_pos he, DN]
  | n + 1, k, i, x, l, hk, hx, hx0, hi, hie, hl => by
    obtain ⟨k, rfl⟩ : ∃ m, k = m + 1 := ⟨k - 1, by omega⟩
    rw [bV.l0, if_pos (by omega), QJ (k + 1) msg i hm (qb hm (by omega) (by omega)), DN]
    simp only [Option.bind_some]
    by_cases h0 : (uZ msg i).2.2 = 0
    · rw [if_pos h0, if_pos h0]
      by_cases h1 : (uZ msg i).2.1 > e
      · rw [if_pos h1, if_pos h1]
      · rcases tH msg i hm with ⟨_, _, _, b4, _⟩ | ⟨b1, _⟩
        · rw [if_neg h1, if_neg h1, if_pos (by omega), dO (by omega) (by omega)]
          exact Bw msg e s0 s1 s2 a b hm he h2 c hc n k _ (x + 1) _ (by omega) (by omega) (by omega) (by omega) (by omega) (by rw [List.length_append, List.length_singleton]; omega)
        · omega
    · rw [if_neg h0, if_neg h0]
def Lx (s : ByteArray) : Nat → Int → Bool
  | 0, _ => false
  | k + 1, i => if i < (s.size : Int) then Lx s k (i + 1 + bt s i) else decide (i = s.size)
def E5 (s : ByteArray) : Bool := decide (0 < s.size) && Lx s (s.size + 1) 0
theorem TS (s : ByteArray) {k : Nat} {i : Int} (h : (s.size : Int) < i) : Lx s k i = false := by
  cases k with
  | zero => rfl
  | succ k => rw [Lx, if_neg (by omega)]; simp; omega
theorem LA (s : ByteArray) (hs : s.size ≤ 100000) (d : Nat) : ∀ (k m : Nat) (i : Int), 0 ≤ i → i ≤ (s.size : Int) → s.size - i.toNat ≤ d → d + 1 ≤ k → d + 1 ≤ m → dK.l0 k (s.extract i.toNat s.size) = some (Lx s m i) := by
  induction d with
  | zero =>
    intro k m i h0 h1 h2 hk hm
    obtain ⟨k, rfl⟩ : ∃ j, k = j + 1 := ⟨k - 1, by omega⟩
    obtain ⟨m, rfl⟩ : ∃ j, m = j + 1 := ⟨m - 1, by omega⟩
    rw [dK.l0, if_pos (toList_nil.mpr (by rw [ByteArray.size_extract]; omega)), Lx, if_neg (by omega), decide_eq_true (by omega)]
  | succ d ih =>
    intro k m i h0 h1 h2 hk hm
    obtain ⟨k, rfl⟩ : ∃ j, k = j + 1 := ⟨k - 1, by omega⟩
    obtain ⟨m, rfl⟩ : ∃ j, m = j + 1 := ⟨m - 1, by omega⟩
    have hz : (s.extract i.toNat s.size).size = s.size - i.toNat := by rw [ByteArray.size_extract]; omega
    by_cases hi : i < (s.size : Int)
    · have hb : bt (s.extract i.toNat s.size) 0 = bt s i := by
        rw [lY (by omega) (by omega)]; congr 1; omega
      have hr := gq s i
      rw [dK.l0, if_neg (by rw [toList_nil]; omega), if_pos (by omega), hb, dO (n := bt s i) (by omega) (by omega), dO (n := 1 + bt s i) (by omega) (by omega), Lx, if_pos hi]
      by_cases h3 : 1 + bt s i > ((s.extract i.toNat s.size).size : Int)
      · rw [if_pos h3, TS s (by omega)]
      · rw [if_neg h3, if_pos (by omega), if_pos (by omega)]
        have e : (s.extract i.toNat s.size).extract (1 + bt s i).toNat (s.extract i.toNat s.size).size = s.extract (i + 1 + bt s i).toNat s.size := by
          rw [ByteArray.extract_extract, hz]
          congr 1 <;> omega
        rw [e]
        exact ih k m _ (by omega) (by omega) (by omega) (by omega) (by omega)
    · rw [dK.l0, if_pos (toList_nil.mpr (by omega)), Lx, if_neg hi, decide_eq_true (by omega)]
theorem LB (k : Nat) (hk : K0 ≤ k) (s : ByteArray) (hs : s.size ≤ 100000) : dK.f k s = some (E5 s) := by
  unfold dK.f E5
  by_cases h : s.toList = ([] : List UInt8)
  · rw [if_pos h]; rw [toList_nil] at h; rw [h]; rfl
  · rw [if_neg h]
    rw [toList_nil] at h
    unfold K0 at hk
    have := LA s hs s.size k (s.size + 1) 0 (by omega) (by omega) (by omega) (by omega) (by omega)
    rw [show (0 : Int).toNat = 0 from rfl, ByteArray.extract_zero_size] at this
    rw [this, decide_eq_true (by omega), Bool.true_and]
theorem Bz (s : ByteArray) (hs : s.size ≤ 100000) (d : Nat) : ∀ (k m : Nat) (i : Int), 0 ≤ i → (i : Int) ≤ s.size + 300 → 0 < i ∨ 0 < s.size → s.size - i.toNat ≤ d → d + 1 ≤ k → d + 1 ≤ m → bn.l0 k s i = some (Lx s m i) := by
  induction d with
  | zero =>
    intro k m i h0 h1 hp h2 hk hm
    obtain ⟨k, rfl⟩ : ∃ j, k = j + 1 := ⟨k - 1, by omega⟩
    obtain ⟨m, rfl⟩ : ∃ j, m = j + 1 := ⟨m - 1, by omega⟩
    have hlt : ¬ i < (s.size : Int) := by omega
    rw [bn.l0, if_neg hlt, Lx, if_neg hlt]
    by_cases h : i = (s.size : Int)
    · rw [if_pos h, decide_eq_true (by omega), decide_eq_true h]
    · rw [if_neg h, decide_eq_false h]
  | succ d ih =>
    intro k m i h0 h1 hp h2 hk hm
    obtain ⟨k, rfl⟩ : ∃ j, k = j + 1 := ⟨k - 1, by omega⟩
    obtain ⟨m, rfl⟩ : ∃ j, m = j + 1 := ⟨m - 1, by omega⟩
    have hr := gq s i
    rw [bn.l0, Lx]
    by_cases hi : i < (s.size : Int)
    · rw [if_pos hi, if_pos hi, if_pos h0, dO (n := bt s i) (by omega) (by omega), dO (n := i + 1) (by omega) (by omega), dO (by omega) (by omega)]
      exact ih k m _ (by omega) (by omega) (by omega) (by omega) (by omega) (by omega)
    · rw [if_neg hi, if_neg hi]
      by_cases h : i = (s.size : Int)
      · rw [if_pos h, decide_eq_true (by omega), decide_eq_true h]
      · rw [if_neg h, decide_eq_false h]
theorem BA (k : Nat) (hk : K0 ≤ k) (s : ByteArray) (hs : s.size ≤ 100000) : bn.f k s = some (E5 s) := by
  unfold bn.f E5
  unfold K0 at hk
  by_cases h : 0 < s.size
  · rw [Bz s hs s.size k (s.size + 1) 0 (by omega) (by omega) (by omega) (by omega) (by omega) (by omega), decide_eq_true h, Bool.true_and]
  · obtain ⟨k, rfl⟩ : ∃ j, k = j + 1 := ⟨k - 1, by omega⟩
    rw [bn.l0, if_neg (by omega), if_pos (by omega), decide_eq_false h]; rfl
end Go.Proofs.Ytdkkgecdhapfhaa.ZQ
namespace Go.Proofs.Ytdkkgecdhapfhaa.ZQ
open Go.RowKit Go.Proofs.YtdkkgecdhapfhaaW.bD Go.Proofs.YtdkkgecdhapfhaaW.dV Go.Proofs.YtdkkgecdhapfhaaW.eD Go.Proofs.Ytdkkgecdhapfhaa.B
theorem E8 (l m : List ByteArray) : strings_Join.cat (l ++ m) = strings_Join.cat l ++ strings_Join.cat m := by
  induction l with
  | nil => exact (empty_append _).symm
  | cons x l ih => rw [List.cons_append, strings_Join.cat, ih, strings_Join.cat, ByteArray.append_assoc]
theorem OZ (x : ByteArray) : strings_Join.cat [x] = x := append_empty x
theorem oU {n : ByteArray} (h : jC n = true) : n.size ≤ 255 := by
  obtain ⟨l, _, _, hz⟩ := F8.mp h; exact hz
theorem tJ : ∀ {l : List ByteArray}, (∀ x ∈ l, jC x = true) → (strings_Join.cat l).size ≤ 255 * l.length
  | [], _ => Nat.zero_le _
  | x :: l, h => by
    have h1 := oU (h x (by simp))
    have h2 := tJ (l := l) (fun y hy => h y (by simp [hy]))
    rw [strings_Join.cat, ByteArray.size_append, List.length_cons]
    omega
def xY (d : ByteArray) : ByteArray × Int := if (d.size : Int) > 65535 then (⟨#[]⟩, 4) else (d, 0)
theorem uJ (d : ByteArray) : (if (d.size : Int) > 65535 then some ((⟨#[]⟩ : ByteArray), (4 : Int)) else some (d, 0)) = some (xY d) := by
  unfold xY; split <;> rfl
def IC (msg : ByteArray) (i size : Int) (s : Int × Int × Int) : ByteArray × Int :=
  if s.1 ≤ size then (match DN msg (i + size) s.2.1.toNat (i + s.1) [] with
    | some R => if R.2 + s.2.2 = i + size then xY (msg.extract i.toNat (i + s.1).toNat ++ strings_Join.cat R.1 ++ msg.extract R.2.toNat (i + size).toNat) else (⟨#[]⟩, 4)
    | none => (⟨#[]⟩, 4)) else (⟨#[]⟩, 4)
def yS (msg : ByteArray) (i size kind : Int) : ByteArray × Int :=
  if gP msg i size then (match aD.xV kind with
    | some s => IC msg i size s
    | none => if kind = 16 then (if E5 (msg.extract i.toNat (i + size).toNat) = true then xY (msg.extract i.toNat (i + size).toNat) else (⟨#[]⟩, 4)) else xY (msg.extract i.toNat (i + size).toNat))
  else (⟨#[]⟩, 2)
theorem kM {kind : Int} {s : Int × Int × Int} (h : aD.xV kind = some s) : 0 ≤ s.1 ∧ s.1 ≤ 16 ∧ 0 ≤ s.2.1 ∧ s.2.1 ≤ 2 ∧ 0 ≤ s.2.2 ∧ s.2.2 ≤ 20 ∧ kind ≠ 16 ∧ (s.1 = 0 → s.2.1 = 0 → False) := by
  unfold aD.xV at h
  repeat' split at h
  all_goals (first | (cases h; subst_vars; decide) | cases h)
theorem TT (k : Nat) (hk : K0 ≤ k) (kind : Int) (hkind : kind ≠ 16) (d : ByteArray) : aD.fin k kind d true = some (xY d) := by
  unfold aD.fin
  rw [if_pos rfl, if_neg hkind, uJ]
theorem uK (k : Nat) (kind : Int) (d : ByteArray) : aD.fin k kind d false = some (⟨#[]⟩, 4) := by
  unfold aD.fin; rw [if_neg Bool.false_ne_true]
theorem zM (msg : ByteArray) (i size kind : Int) (k : Nat) (hk : K0 ≤ k) (hm : msg.size ≤ 100000) (f : ByteArray → Option Bool) (hf : ∀ s, s.size ≤ 100000 → f s = some (E5 s)) (t : ByteArray) (ht : t.size ≤ 100000) :
    (if kind = 16 then ((f t).bind fun b => if b = true then (if (t.size : Int) > 65535 then some ((⟨#[]⟩ : ByteArray), (4 : Int)) else some (t, 0)) else some (⟨#[]⟩, 4)) else (if (t.size : Int) > 65535 then some (⟨#[]⟩, 4) else some (t, 0))) =
      some (if kind = 16 then (if E5 t = true then xY t else (⟨#[]⟩, 4)) else xY t) := by
  rw [hf t ht, uJ]
  simp only [Option.bind_some]
  split
  · split <;> rfl
  · rfl
theorem IE (k : Nat) (hk : K0 + 10 ≤ k) (msg : ByteArray) (i size kind : Int) (hm : msg.size ≤ 100000) (ht : gP msg i size) (s : Int × Int × Int) (hs : aD.xV kind = some s) : aD.g k msg i size kind s = some (IC msg i size s) := by
  obtain ⟨h0, h1, h2⟩ := ht
  obtain ⟨a1, a2, a3, a4, a5, a6, a7, a8⟩ := kM hs
  obtain ⟨s0, s1, s2⟩ := s
  simp only at a1 a2 a3 a4 a5 a6 a8
  have e1 : wrap64 (i + size) = i + size := dO (by omega) (by omega)
  have e2 : wrap64 (i + size - i) = size := by rw [dO (by omega) (by omega)]; omega
  have e3 : wrap64 (i + s0) = i + s0 := dO (by omega) (by omega)
  unfold aD.g bV.f IC
  simp only [e1, e2, e3]
  by_cases c : s0 ≤ size
  · rw [if_pos c, if_pos c, if_pos h0, if_pos (by omega), if_pos (by omega)]
    obtain ⟨k, rfl⟩ : ∃ j, k = j + 1 := ⟨k - 1, by omega⟩
    rw [Bw msg (i + size) s0 s1 s2 _ _ hm h2 ⟨a5, by omega⟩ s1 (by omega) s1.toNat k (i + s0) 0 [] (by omega) (by omega) (Int.le_refl _) (by omega) (by omega) (by simp only [List.length_nil]; omega)]
    have hz : (msg.extract i.toNat (i + s0).toNat).size ≤ 16 := by rw [ByteArray.size_extract]; omega
    cases hr : DN msg (i + size) s1.toNat (i + s0) [] with
    | none =>
      simp only [Option.bind_some]
      rw [if_pos (by decide), if_pos (by decide), uK]
    | some R =>
      obtain ⟨b1, b2, b3, l', b4, b5⟩ := pY msg _ hm _ _ _ R hr (by omega)
      have hcz := tJ b5
      rw [List.nil_append] at b4
      rw [← b4] at hcz
      rw [List.length_nil, Nat.zero_add] at b3
      have hbz : (msg.extract R.2.toNat (i + size).toNat).size = (i + size - R.2).toNat := by rw [ByteArray.size_extract]; omega
      simp only [Option.bind_some]
      rw [if_pos (by omega), if_pos (by omega)]
      by_cases d : R.2 + s2 = i + size
      · rw [if_pos d, show (((msg.extract R.2.toNat (i + size).toNat).size : Int) == s2) = true from beq_iff_eq.mpr (by omega), TT k.succ (by omega) kind a7]
      · rw [if_neg d, show (((msg.extract R.2.toNat (i + size).toNat).size : Int) == s2) = false from beq_eq_false_iff_ne.mpr (by omega), uK]
  · rw [if_neg c, if_neg c]
    simp only [Option.bind_some]
    rw [if_pos (by decide), if_pos (by decide), uK]
theorem TU (k : Nat) (hk : K0 + 10 ≤ k) (msg : ByteArray) (i size kind : Int) (hm : msg.size ≤ 100000) : aD.f k msg i size kind = some (yS msg i size kind) := by
  unfold aD.f yS
  rw [tq msg i size (by omega)]
  simp only [Option.bind_some]
  by_cases ht : gP msg i size
  · rw [if_pos ht, if_pos ht]
    simp only [if_true]
    cases hs : aD.xV kind with
    | some s => exact IE k hk msg i size kind hm ht s hs
    | none =>
      have hz : (msg.extract i.toNat (i + size).toNat).size ≤ 100000 := by rw [ByteArray.size_extract]; omega
      have := zM msg i size kind k (by omega) hm (dK.f k) (fun s h => LB k (by omega) s h) _ hz
      unfold aD.fin
      rw [if_pos rfl]
      exact this
  · rw [if_neg ht, if_neg ht]; rfl
theorem nR (k : Nat) (hk : 1 ≤ k) (kind : Int) : aH.f k kind = some ((aD.xV kind).getD (0, 0, 0)) := by
  obtain ⟨k, rfl⟩ : ∃ j, k = j + 1 := ⟨k - 1, by omega⟩
  unfold aH.f aD.xV
  simp only [aH.j0]
  by_cases h1 : kind = 1
  · subst h1; rfl
  by_cases h2 : kind = 28
  · subst h2; rfl
  by_cases h3 : kind = 2
  · subst h3; rfl
  by_cases h4 : kind = 5
  · subst h4; rfl
  by_cases h5 : kind = 12
  · subst h5; rfl
  by_cases h6 : kind = 6
  · subst h6; rfl
  by_cases h7 : kind = 15
  · subst h7; rfl
  by_cases h8 : kind = 33
  · subst h8; rfl
  simp [h1, h2, h3, h4, h5, h6, h7, h8]
theorem DR (msg : ByteArray) (i size s0 s1 s2 : Int) (hm : msg.size ≤ 100000) (ht : gP msg i size) (h2 : 0 ≤ s2 ∧ s2 ≤ 1000) (hs : s1 ≤ 100) : ∀ (n k : Nat) (j x : Int) (out : ByteArray), K0 + n ≤ k → x + n = s1 → 0 ≤ x → i + size < j → j ≤ (msg.size : Int) → out.size + 300 * n ≤ 1000000 →
    aX.l0 (k + 1) msg i size out j x s0 s1 s2 = some (⟨#[]⟩, 4)
  | 0, k, j, x, out, hk, hx, hx0, hj, hjm, ho => by
    obtain ⟨t0, t1, t2⟩ := ht
    rw [aX.l0, if_neg (by omega), dO (n := j + s2) (by omega) (by omega), dO (n := i + size) (by omega) (by omega), if_neg (by omega)]
  | n + 1, k, j, x, out, hk, hx, hx0, hj, hjm, ho => by
    obtain ⟨k, rfl⟩ : ∃ m, k = m + 1 := ⟨k - 1, by omega⟩
    rw [aX.l0, if_pos (by omega), uI (k + 1) msg j hm (qb hm (by omega) (by omega))]
    simp only [Option.bind_some]
    rcases tH msg j hm with ⟨b1, b2, _, b4, b5⟩ | ⟨b1, _⟩
    · have hz := oU b2
      rw [if_pos b1, if_pos (by omega), dO (n := x + 1) (by omega) (by omega)]
      exact DR msg i size s0 s1 s2 hm ht h2 hs n k _ _ _ (by omega) (by omega) (by omega) (by omega) b5 (by rw [ByteArray.size_append]; omega)
    · rw [if_neg (by omega)]
theorem LC (msg : ByteArray) (i size s0 s1 s2 : Int) (a : ByteArray) (hm : msg.size ≤ 100000) (ht : gP msg i size) (h2 : 0 ≤ s2 ∧ s2 ≤ 1000) (hs : s1 ≤ 100) : ∀ (n k : Nat) (j x : Int) (l : List ByteArray), K0 + n ≤ k → x + n = s1 → 0 ≤ x → 0 ≤ j → j ≤ i + size → (a ++ strings_Join.cat l).size + 300 * n ≤ 800000 →
    aX.l0 (k + 1) msg i size (a ++ strings_Join.cat l) j x s0 s1 s2 = some (match DN msg (i + size) n j l with
      | some R => if R.2 + s2 = i + size then xY (a ++ strings_Join.cat R.1 ++ msg.extract R.2.toNat (i + size).toNat) else (⟨#[]⟩, 4)
      | none => (⟨#[]⟩, 4))
  | 0, k, j, x, l, hk, hx, hx0, hj0, hj, ho => by
    obtain ⟨t0, t1, t2⟩ := ht
    rw [aX.l0, if_neg (by omega), dO (n := j + s2) (by omega) (by omega), dO (n := i + size) (by omega) (by omega), DN]
    simp only
    by_cases c : j + s2 = i + size
    · have hz : (msg.extract j.toNat (i + size).toNat).size ≤ 100000 := by rw [ByteArray.size_extract]; omega
      rw [if_pos c, if_pos c, if_pos hj0, if_pos hj, if_pos t2, if_pos (by omega), uJ]
    · rw [if_neg c, if_neg c]
  | n + 1, k, j, x, l, hk, hx, hx0, hj0, hj, ho => by
    have ht0 := ht
    obtain ⟨t0, t1, t2⟩ := ht
    obtain ⟨k, rfl⟩ : ∃ m, k = m + 1 := ⟨k - 1, by omega⟩
    rw [aX.l0, if_pos (by omega), uI (k + 1) msg j hm (qb hm (by omega) (by omega)), DN]
    simp only [Option.bind_some]
    rcases tH msg j hm with ⟨b1, b2, _, b4, b5⟩ | ⟨b1, _⟩
    · have hz := oU b2
      rw [if_pos b1, if_pos b1, if_pos (by omega), dO (n := x + 1) (by omega) (by omega)]
      by_cases c : (uZ msg j).2.1 > i + size
      · rw [if_pos c]
        exact DR msg i size s0 s1 s2 hm ht0 h2 hs n k _ _ _ (by omega) (by omega) (by omega) (by omega) b5 (by rw [ByteArray.size_append]; omega)
      · rw [if_neg c]
        have e : a ++ strings_Join.cat l ++ (uZ msg j).1 = a ++ strings_Join.cat (l ++ [(uZ msg j).1]) := by rw [E8, OZ, ByteArray.append_assoc]
        rw [e]
        exact LC msg i size s0 s1 s2 a hm ht0 h2 hs n k _ _ _ (by omega) (by omega) (by omega) (by omega) (by omega) (by rw [← e, ByteArray.size_append]; omega)
    · rw [if_neg (by omega), if_neg (by omega)]
theorem E9 (k : Nat) (hk : K0 + 10 ≤ k) (msg : ByteArray) (i size kind : Int) (hm : msg.size ≤ 100000) : aX.f k msg i size kind = some (yS msg i size kind) := by
  unfold aX.f yS
  rw [oO msg i size (by omega), nR k (by omega)]
  simp only [Option.bind_some]
  by_cases ht : gP msg i size
  · rw [if_pos ht, if_pos ht]
    simp only [if_true]
    obtain ⟨t0, t1, t2⟩ := ht
    have hz : (msg.extract i.toNat (i + size).toNat).size = size.toNat := by rw [ByteArray.size_extract]; omega
    cases hs : aD.xV kind with
    | none =>
      simp only [Option.getD_none]
      rw [if_pos (by decide)]
      exact zM msg i size kind k (by omega) hm (bn.f k) (fun s h => BA k (by omega) s h) _ (by omega)
    | some s =>
      obtain ⟨a1, a2, a3, a4, a5, a6, a7, a8⟩ := kM hs
      obtain ⟨s0, s1, s2⟩ := s
      simp only at a1 a2 a3 a4 a5 a6 a8
      simp only [Option.getD_some]
      have main : (if s0 > size then some ((⟨#[]⟩ : ByteArray), (4 : Int)) else (if 0 ≤ s0 then (if s0 ≤ ((msg.extract i.toNat (i + size).toNat).size : Int) then (aX.l0 k msg i size ((msg.extract i.toNat (i + size).toNat).extract 0 (s0 : Int).toNat) (wrap64 (i + s0)) 0 s0 s1 s2) else none) else none)) = some (IC msg i size (s0, s1, s2)) := by
        unfold IC
        simp only
        by_cases c : s0 > size
        · rw [if_pos c, if_neg (by omega)]
        · rw [if_neg c, if_pos a1, if_pos (by omega), if_pos (by omega), dO (by omega) (by omega)]
          obtain ⟨k, rfl⟩ : ∃ j, k = j + 1 := ⟨k - 1, by omega⟩
          have e : (msg.extract i.toNat (i + size).toNat).extract 0 s0.toNat = msg.extract i.toNat (i + s0).toNat := by
            rw [ByteArray.extract_extract]; congr 1 <;> omega
          have hz2 : (msg.extract i.toNat (i + s0).toNat).size ≤ 16 := by rw [ByteArray.size_extract]; omega
          have h := LC msg i size s0 s1 s2 (msg.extract i.toNat (i + s0).toNat) hm ⟨t0, t1, t2⟩ ⟨a5, by omega⟩ (by omega) s1.toNat k (i + s0) 0 [] (by omega) (by omega) (Int.le_refl _) (by omega) (by omega) (by simp only [strings_Join.cat, append_empty]; omega)
          simp only [strings_Join.cat, append_empty] at h
          rw [e, h]
      have hne : ¬ ((s0 == 0 && (s1 == 0 && (s2 == 0))) = true) := by
        intro h
        simp only [Bool.and_eq_true, beq_iff_eq] at h
        exact a8 h.1 h.2.1
      rw [if_neg hne]
      exact main
  · rw [if_neg ht, if_neg ht]; rfl
end Go.Proofs.Ytdkkgecdhapfhaa.ZQ
namespace Go.Proofs.Ytdkkgecdhapfhaa.ZQ
open Go.RowKit Go.Proofs.YtdkkgecdhapfhaaW.bD Go.Proofs.YtdkkgecdhapfhaaW.dV Go.Proofs.YtdkkgecdhapfhaaW.eD Go.Proofs.Ytdkkgecdhapfhaa.B
def vN (kind : Int) (d : ByteArray) : Bool := decide (d.size ≤ 65535) && (decide ((yS d 0 d.size kind).2 = 0) && decide ((yS d 0 d.size kind).1 = d))
theorem tK {kind : Int} {d : ByteArray} : vN kind d = true ↔ d.size ≤ 65535 ∧ yS d 0 d.size kind = (d, 0) := by
  unfold vN
  simp only [Bool.and_eq_true, decide_eq_true_eq]
  constructor
  · rintro ⟨h1, h2, h3⟩; exact ⟨h1, Prod.ext h3 h2⟩
  · rintro ⟨h1, h2⟩; rw [h2]; exact ⟨h1, rfl, rfl⟩
theorem zN (k : Nat) (hk : K0 + 10 ≤ k) (kind : Int) (d : ByteArray) : iM.f k kind d = some (vN kind d) := by
  unfold iM.f vN
  by_cases h : (d.size : Int) > 65535
  · rw [if_pos h, decide_eq_false (by omega)]; rfl
  · rw [if_neg h, TU k hk d 0 _ kind (by omega), decide_eq_true (by omega), Bool.true_and]
    simp only [Option.bind_some]
    by_cases h0 : (yS d 0 d.size kind).2 = 0
    · rw [if_pos h0, decide_eq_true h0, xM, Bool.true_and]
    · rw [if_neg h0, decide_eq_false h0, Bool.false_and]
theorem mQ (k : Nat) (hk : K0 + 10 ≤ k) (kind : Int) (d : ByteArray) : bR.f k kind d = some (vN kind d) := by
  unfold bR.f vN
  by_cases h : (d.size : Int) > 65535
  · rw [if_pos h, decide_eq_false (by omega)]; rfl
  · rw [if_neg h, E9 k hk d 0 _ kind (by omega), decide_eq_true (by omega), Bool.true_and]
    simp only [Option.bind_some]
    by_cases h0 : (yS d 0 d.size kind).2 = 0
    · rw [if_pos h0, decide_eq_true h0, xM, Bool.true_and]
    · rw [if_neg h0, decide_eq_false h0, Bool.false_and]
theorem Fa (d : ByteArray) : gP d 0 d.size := ⟨Int.le_refl _, by omega, by omega⟩
theorem IG {x d : ByteArray} (h : xY x = (d, 0)) : x = d ∧ x.size ≤ 65535 := by
  unfold xY at h
  split at h
  · have := congrArg Prod.snd h; cases this
  · exact ⟨congrArg Prod.fst h, by omega⟩
theorem oV {kind : Int} {d : ByteArray} {s : Int × Int × Int} (h : vN kind d = true) (hs : aD.xV kind = some s) :
    ∃ R, s.1 ≤ (d.size : Int) ∧ DN d d.size s.2.1.toNat s.1 [] = some R ∧ R.2 + s.2.2 = d.size ∧ d = d.extract 0 s.1.toNat ++ strings_Join.cat R.1 ++ d.extract R.2.toNat d.size ∧ s.1 ≤ R.2 ∧ R.2 ≤ (d.size : Int) ∧ R.1.length = s.2.1.toNat ∧ (∀ x ∈ R.1, jC x = true) ∧ R.2 = s.1 + (strings_Join.cat R.1).size := by
  obtain ⟨h0, h1⟩ := tK.mp h
  unfold yS IC at h1
  rw [if_pos (Fa d), hs] at h1
  simp only [Int.zero_add, Int.toNat_natCast] at h1
  obtain ⟨a1, a2, a3, a4, a5, a6, a7, a8⟩ := kM hs
  by_cases c : s.1 ≤ (d.size : Int)
  · rw [if_pos c] at h1
    cases hr : DN d d.size s.2.1.toNat s.1 [] with
    | none => rw [hr] at h1; have := congrArg Prod.snd h1; cases this
    | some R =>
      rw [hr] at h1
      simp only at h1
      by_cases e : R.2 + s.2.2 = d.size
      · rw [if_pos e] at h1
        obtain ⟨h2, _⟩ := IG h1
        obtain ⟨b1, b2, b3, l', b4, b5⟩ := pY d _ (by omega) _ _ _ R hr c
        rw [List.nil_append] at b4
        rw [← b4] at b5
        have hz := congrArg ByteArray.size h2
        simp only [ByteArray.size_append, ByteArray.size_extract] at hz
        refine ⟨R, c, rfl, e, h2.symm, b1, b2, by rw [b3]; simp, b5, ?_⟩
        simp only [show (0 : Int).toNat = 0 from rfl] at hz
        omega
      · rw [if_neg e] at h1; have := congrArg Prod.snd h1; cases this
  · rw [if_neg c] at h1; have := congrArg Prod.snd h1; cases this
def prt (kind : Int) (d : ByteArray) : ByteArray × ByteArray × List ByteArray × Bool :=
  if vN kind d = true then (match aD.xV kind with
    | some s => (match DN d d.size s.2.1.toNat s.1 [] with
      | some R => (d.extract 0 s.1.toNat, d.extract R.2.toNat d.size, R.1, true)
      | none => (⟨#[]⟩, ⟨#[]⟩, [], false))
    | none => (d, ⟨#[]⟩, [], true)) else (⟨#[]⟩, ⟨#[]⟩, [], false)
theorem uL : (⟨#[]⟩ : ByteArray).size = 0 := rfl
theorem vH (k : Nat) (hk : K0 + 20 ≤ k) (d : ByteArray) (hd : d.size ≤ 65535) (s0 s1 s2 : Int) (a1 : 0 ≤ s0) (a3 : 0 ≤ s1) (a4 : s1 ≤ 2) (a5 : 0 ≤ s2) (a6 : s2 ≤ 20) (R : List ByteArray × Int) (c1 : s0 ≤ (d.size : Int)) (c2 : DN d d.size s1.toNat s0 [] = some R) (c3 : R.2 + s2 = d.size) :
    bV.f k d 0 (d.size : Int) s0 s1 s2 = some (d.extract 0 s0.toNat, d.extract R.2.toNat d.size, R.1, true) := by
  unfold bV.f
  have e2 : wrap64 ((d.size : Int) - 0) = d.size := by rw [dO (by omega) (by omega)]; omega
  have e3 : wrap64 (0 + s0) = s0 := by rw [dO (by omega) (by omega)]; omega
  obtain ⟨b1, b2, _⟩ := pY d _ (by omega) _ _ _ R c2 c1
  have hz : ((d.extract R.2.toNat d.size).size : Int) = s2 := by rw [ByteArray.size_extract]; omega
  obtain ⟨k, rfl⟩ : ∃ j, k = j + 1 := ⟨k - 1, by omega⟩
  have h := Bw d d.size s0 s1 s2 (d.extract 0 s0.toNat) ⟨#[]⟩ (by omega) (Int.le_refl _) ⟨a5, by omega⟩ s1 (by omega) s1.toNat k s0 0 [] (by omega) (by omega) (Int.le_refl _) a1 c1 (by simp only [List.length_nil]; omega)
  rw [c2] at h
  simp only [Int.toNat_natCast] at h
  rw [show (((d.extract R.2.toNat d.size).size : Int) == s2) = true from beq_iff_eq.mpr hz] at h
  rw [e2, if_pos c1, if_pos (Int.le_refl _), e3, if_pos a1, if_pos c1]
  exact h
theorem II (k : Nat) (hk : K0 + 20 ≤ k) (kind : Int) (d : ByteArray) : cO.f k kind d = some (prt kind d) := by
  unfold cO.f prt
  rw [zN k (by omega)]
  simp only [Option.bind_some]
  by_cases h : vN kind d = true
  · rw [if_pos h, if_pos h]
    cases hs : aD.xV kind with
    | none => rfl
    | some s =>
      obtain ⟨R, c1, c2, c3, c4, c5, c6, c7, c8, c9⟩ := oV h hs
      obtain ⟨a1, a2, a3, a4, a5, a6, a7, a8⟩ := kM hs
      obtain ⟨h0, _⟩ := tK.mp h
      obtain ⟨s0, s1, s2⟩ := s
      simp only at a1 a2 a3 a4 a5 a6 c1 c2 c3 c5
      simp only [c2]
      exact vH k hk d h0 s0 s1 s2 a1 a3 a4 a5 a6 R c1 c2 c3
  · rw [if_neg h, if_neg h]
theorem zO {kind : Int} {d : ByteArray} : (∀ x ∈ (prt kind d).2.2.1, jC x = true) ∧ (prt kind d).2.2.1.length ≤ 2 := by
  unfold prt
  by_cases h : vN kind d = true
  · rw [if_pos h]
    cases hs : aD.xV kind with
    | none => exact ⟨by simp, by simp⟩
    | some s =>
      obtain ⟨R, c1, c2, c3, c4, c5, c6, c7, c8, c9⟩ := oV h hs
      obtain ⟨a1, a2, a3, a4, a5, a6, a7, a8⟩ := kM hs
      simp only [c2]
      exact ⟨c8, by omega⟩
  · rw [if_neg h]; exact ⟨by simp, by simp⟩
theorem u6 (k : Nat) (hk : 600 ≤ k) (n : ByteArray) (hs : n.size ≤ 1000000000) : l5.f k n = some (if jC n = true then nX n else ⟨#[]⟩) := by
  unfold l5.f
  rw [Dv k hk n hs, Tt n hs]
  simp only [Option.bind_some]
  split <;> rfl
theorem xZ (k : Nat) (hk : 600 ≤ k) (n : ByteArray) (hs : n.size ≤ 1000000000) : fq.f k n = some (if jC n = true then nX n else ⟨#[]⟩) := by
  unfold fq.f
  rw [sW k hk n hs, K6 n hs]
  simp only [Option.bind_some]
  split <;> rfl
theorem all_eq (k : Nat) (hk : 600 ≤ k) : ∀ l : List ByteArray, (∀ x ∈ l, jC x = true) → eB.all k l = some (l.map nX)
  | [], _ => rfl
  | x :: l, h => by
    have hx := h x (by simp)
    have hz := oU hx
    rw [eB.all, u6 k hk x (by omega), if_pos hx]
    simp only [Option.bind_some]
    rw [all_eq k hk l (fun y hy => h y (by simp [hy]))]
    rfl
theorem tL : ∀ l : List ByteArray, (strings_Join.cat (l.map nX)).size = (strings_Join.cat l).size
  | [] => rfl
  | x :: l => by rw [List.map_cons, strings_Join.cat, strings_Join.cat, ByteArray.size_append, ByteArray.size_append, zI, tL l]
def lw (kind : Int) (d : ByteArray) : ByteArray := (prt kind d).1 ++ strings_Join.cat ((prt kind d).2.2.1.map nX) ++ (prt kind d).2.1
theorem IJ {kind : Int} {d : ByteArray} : (prt kind d).1.size ≤ 65535 ∧ (prt kind d).2.1.size ≤ 65535 := by
  unfold prt
  by_cases h : vN kind d = true
  · obtain ⟨h0, _⟩ := tK.mp h
    rw [if_pos h]
    cases hs : aD.xV kind with
    | none => exact ⟨h0, by show (⟨#[]⟩ : ByteArray).size ≤ 65535; decide⟩
    | some s =>
      obtain ⟨R, c1, c2, _⟩ := oV h hs
      simp only [c2]
      simp only [ByteArray.size_extract]
      omega
  · rw [if_neg h]; exact ⟨by decide, by decide⟩
theorem O1 (k : Nat) (hk : K0 + 20 ≤ k) (kind : Int) (d : ByteArray) : eB.f k kind d = some (lw kind d) := by
  obtain ⟨p1, p2⟩ := @zO kind d
  obtain ⟨p3, p4⟩ := @IJ kind d
  have hcz := tJ p1
  unfold eB.f
  rw [II k hk]
  simp only [Option.bind_some]
  rw [all_eq k (by unfold K0 at hk; omega) _ p1]
  simp only [Option.bind_some]
  unfold eB.fin lw
  rw [if_pos (by rw [tL]; omega), if_pos (by rw [List.length_map]; omega)]
theorem tN (d : ByteArray) (e s0 s1 s2 : Int) (hm : d.size ≤ 100000) (he : e ≤ (d.size : Int)) (hs : s1 ≤ 100) : ∀ (n k : Nat) (l : List ByteArray) (i x : Int) (R : List ByteArray × Int), K0 + n ≤ k → x + n = s1 → 0 ≤ x → i ≤ e → l.length + n ≤ 1000 → DN d e n i l = some R →
    bg.l0 (k + 1) d l i x s0 s1 s2 = some R.1
  | 0, k, l, i, x, R, hk, hx, hx0, hi, hl, h => by
    cases h
    rw [bg.l0, if_neg (by omega)]
  | n + 1, k, l, i, x, R, hk, hx, hx0, hi, hl, h => by
    obtain ⟨k, rfl⟩ : ∃ m, k = m + 1 := ⟨k - 1, by omega⟩
    rw [DN] at h
    rw [bg.l0, if_pos (by omega), uI (k + 1) d i hm (qb hm (by omega) (by omega))]
    simp only [Option.bind_some]
    by_cases h0 : (uZ d i).2.2 = 0
    · rw [if_pos h0] at h
      by_cases h1 : (uZ d i).2.1 > e
      · rw [if_pos h1] at h; cases h
      · rw [if_neg h1] at h
        rw [if_pos (by omega), dO (by omega) (by omega)]
        exact tN d e s0 s1 s2 hm he hs n k _ _ _ R (by omega) (by omega) (by omega) (by omega) (by rw [List.length_append, List.length_singleton]; omega) h
    · rw [if_neg h0] at h; cases h
theorem BD (k : Nat) (hk : K0 + 20 ≤ k) (kind : Int) (d : ByteArray) : bg.f k kind d = some (prt kind d).2.2.1 := by
  unfold bg.f prt
  rw [mQ k (by omega), nR k (by omega)]
  simp only [Option.bind_some]
  obtain ⟨k, rfl⟩ : ∃ j, k = j + 1 := ⟨k - 1, by omega⟩
  by_cases h : vN kind d = true
  · rw [if_pos h, if_pos h]
    obtain ⟨h0, _⟩ := tK.mp h
    cases hs : aD.xV kind with
    | none =>
      rw [Option.getD_none, bg.l0, if_neg (by decide)]
    | some s =>
      obtain ⟨R, c1, c2, c3, c4, c5, c6, c7, c8, c9⟩ := oV h hs
      obtain ⟨a1, a2, a3, a4, a5, a6, a7, a8⟩ := kM hs
      simp only [c2, Option.getD_some]
      exact tN d d.size _ _ _ (by omega) (Int.le_refl _) (by omega) s.2.1.toNat k [] s.1 0 R (by omega) (by omega) (Int.le_refl _) c1 (by simp only [List.length_nil]; omega) c2
  · rw [if_neg h, if_neg h]
theorem O4 {α} (d : α) (p : List α) (x : α) (s : List α) : oH d (p ++ x :: s) (p.length : Int) = x := by
  unfold oH; simp
theorem qZ (d : ByteArray) (hd : d.size ≤ 65535) (xs : List ByteArray) (hxs : xs.length ≤ 1000) : ∀ (suf pre : List ByteArray) (k : Nat) (out : ByteArray) (i : Int), xs = pre ++ suf → (∀ x ∈ suf, jC x = true) → 700 + suf.length ≤ k → 0 ≤ i → i + (strings_Join.cat suf).size ≤ d.size → out.size + (strings_Join.cat suf).size ≤ 1000000 →
    bG.l0 (k + 1) d xs out i (pre.length : Int) = some (out ++ strings_Join.cat (suf.map nX) ++ d.extract (i + (strings_Join.cat suf).size).toNat d.size)
  | [], pre, k, out, i, hx, hn, hk, hi, hs, ho => by
    rw [List.append_nil] at hx
    subst hx
    have hz : (d.extract i.toNat d.size).size ≤ 65535 := by rw [ByteArray.size_extract]; omega
    simp only [strings_Join.cat, List.map_nil, Dh, append_empty] at hs ho ⊢
    rw [bG.l0, if_neg (by omega), if_pos hi, if_pos (by omega), if_pos (by omega)]
    congr 3
    omega
  | x :: suf, pre, k, out, i, hx, hn, hk, hi, hs, ho => by
    obtain ⟨k, rfl⟩ : ∃ j, k = j + 1 := ⟨k - 1, by simp only [List.length_cons] at hk; omega⟩
    have hxn := hn x (by simp)
    have hz := oU hxn
    have hrd : oH ByteArray.empty xs (pre.length : Int) = x := by rw [hx]; exact O4 _ _ _ _
    have hl : (xs.length : Int) = pre.length + suf.length + 1 := by rw [hx]; simp; omega
    simp only [List.length_cons, strings_Join.cat, ByteArray.size_append] at hk hs ho
    have hlz := zI x
    rw [bG.l0, if_pos (by omega), if_pos (by omega), hrd, xZ (k + 1) (by omega) x (by omega), if_pos hxn]
    simp only [Option.bind_some]
    rw [if_pos (by omega), dO (n := i + (x.size : Int)) (by omega) (by omega), dO (by omega) (by omega), show ((pre.length : Int) + 1) = ((pre ++ [x]).length : Int) from by simp]
    have := qZ d hd xs hxs suf (pre ++ [x]) k (out ++ nX x) (i + x.size) (by rw [hx]; simp) (fun y hy => hn y (by simp [hy])) (by omega) (by omega) (by omega) (by rw [ByteArray.size_append]; omega)
    rw [this]
    have e : i + (x.size : Int) + ((strings_Join.cat suf).size : Int) = i + ((x.size + (strings_Join.cat suf).size : Nat) : Int) := by omega
    rw [e]
    simp only [List.map_cons, strings_Join.cat, ByteArray.size_append, ByteArray.append_assoc]
theorem Fb (k : Nat) (hk : K0 + 20 ≤ k) (kind : Int) (d : ByteArray) : bG.f k kind d = some (lw kind d) := by
  obtain ⟨p1, p2⟩ := @zO kind d
  unfold bG.f
  rw [mQ k (by omega), BD k hk, nR k (by omega)]
  simp only [Option.bind_some]
  unfold lw prt
  unfold prt at p1 p2
  unfold K0 at hk
  obtain ⟨k, rfl⟩ : ∃ j, k = j + 1 := ⟨k - 1, by omega⟩
  by_cases h : vN kind d = true
  · simp only [if_pos h] at p1 p2 ⊢
    obtain ⟨h0, _⟩ := tK.mp h
    cases hs : aD.xV kind with
    | none =>
      simp only [Option.getD_none]
      rw [if_pos (Int.le_refl _), if_pos (by omega)]
      have := qZ d h0 [] (by simp) [] [] k (d.extract 0 0) 0 rfl (by simp) (by simp only [List.length_nil]; omega) (Int.le_refl _) (by simp only [strings_Join.cat, uL]; omega) (by simp only [strings_Join.cat, uL, ByteArray.size_extract]; omega)
      simp only [List.length_nil] at this
      rw [show ((0 : Int).toNat) = 0 from rfl, show ((0 : Nat) : Int) = 0 from rfl] at *
      rw [this]
      have e0 : d.extract 0 0 = ⟨#[]⟩ := eq_empty (by rw [ByteArray.size_extract]; omega)
      simp [strings_Join.cat, e0, empty_append, append_empty, uL, ByteArray.extract_zero_size]
    | some s =>
      obtain ⟨R, c1, c2, c3, c4, c5, c6, c7, c8, c9⟩ := oV h hs
      obtain ⟨a1, a2, a3, a4, a5, a6, a7, a8⟩ := kM hs
      simp only [hs, c2, Option.getD_some] at p1 p2 ⊢
      have hcz := tJ p1
      rw [if_pos a1, if_pos c1]
      have := qZ d h0 R.1 (by omega) R.1 [] k (d.extract 0 s.1.toNat) s.1 rfl p1 (by omega) a1 (by omega) (by rw [ByteArray.size_extract]; omega)
      rw [show ((([] : List ByteArray).length : Nat) : Int) = 0 from rfl] at this
      rw [this, c9]
  · simp only [if_neg h]
    rfl
end Go.Proofs.Ytdkkgecdhapfhaa.ZQ
set_option maxRecDepth 100000
namespace Go.Proofs.Ytdkkgecdhapfhaa.Ka
open Go Go.RowKit Ev
abbrev AG := List AV → Option (List AV × List AV)
def TW (g : ByteArray → SV) : AG := fun gH => match gH with
  | [.one (.f (.str q))] => if q.size ≤ 1000000 then some (LQ [g q], LQ [.str q]) else none
  | _ => none
def TY (g : Int → ByteArray → SV) : AG := fun gH => match gH with
  | [.one (.f (.int .i64 k)), .one (.f (.str q))] => if q.size ≤ 1000000 then some (LQ [g k q], LQ [.int .i64 k, .str q]) else none
  | _ => none
theorem vS {f : FuncId} {g : ByteArray → SV} (h : ∀ q w, q.size ≤ 1000000 → Calls Try.prog f #[.string q] w fun e w' => e = .returned (encS (g q)) ∧ Below w.heap.size w w') : Sat Try.prog f (TW g) := by
  refine Sat.vV fun gH r he => ?_
  unfold TW at he
  split at he
  · split at he
    · cases he; rename_i q hq; exact ⟨[.str q], [g q], rfl, rfl, fun w => h q w hq⟩
    · cases he
  · cases he
theorem vT {f : FuncId} {g : Int → ByteArray → SV} (h : ∀ k q w, q.size ≤ 1000000 → Calls Try.prog f #[.int .i64 k, .string q] w fun e w' => e = .returned (encS (g k q)) ∧ Below w.heap.size w w') : Sat Try.prog f (TY g) := by
  refine Sat.vV fun gH r he => ?_
  unfold TY at he
  split at he
  · split at he
    · cases he; rename_i k q hq; exact ⟨[.int .i64 k, .str q], [g k q], rfl, rfl, fun w => h k q w hq⟩
    · cases he
  · cases he
def T9 (q : ByteArray) : ByteArray := if B.jC q = true then B.nX q else ⟨#[]⟩
def zP : Th := ⟨B.jC, T9, ZQ.vN, ZQ.lw⟩
def leafs : List (FuncId × AG) := [
  (91, TW fun q => .bool (B.jC q)), (92, TW fun q => .str (T9 q)),
  (100, TW fun q => .bool (B.jC q)), (101, TW fun q => .str (T9 q)),
  (94, TY fun k q => .bool (ZQ.vN k q)), (95, TY fun k q => .str (ZQ.lw k q)),
  (83, TY fun k q => .bool (ZQ.vN k q)), (84, TY fun k q => .str (ZQ.lw k q)),
  (88, Nn 1 false), (70, Nn 3 true)]
theorem DT : ∀ p ∈ leafs, Sat Try.prog p.1 p.2 := by
  have hk : ∀ q : ByteArray, q.size ≤ 1000000 → q.size ≤ 1000000000 := fun q h => by omega
  intro p hp
  simp only [leafs, List.mem_cons, List.not_mem_nil, or_false] at hp
  rcases hp with rfl | rfl | rfl | rfl | rfl | rfl | rfl | rfl | rfl | rfl
  · exact vS fun q w hq => ZQ.iJ.calls 600 q _ w (ZQ.Dv 600 (Nat.le_refl _) q (hk q hq))
  · exact vS fun q w hq => ZQ.l5.calls 600 q _ w (ZQ.u6 600 (Nat.le_refl _) q (hk q hq))
  · exact vS fun q w hq => ZQ.dx.calls 600 q _ w (ZQ.sW 600 (Nat.le_refl _) q (hk q hq))
  · exact vS fun q w hq => ZQ.fq.calls 600 q _ w (ZQ.xZ 600 (Nat.le_refl _) q (hk q hq))
  · exact vT fun k q w hq => ZQ.iM.calls _ k q _ w (ZQ.zN (ZQ.K0 + 20) (by omega) k q)
  · exact vT fun k q w hq => ZQ.eB.calls _ k q _ w (ZQ.O1 (ZQ.K0 + 20) (by omega) k q)
  · exact vT fun k q w hq => ZQ.bR.calls _ k q _ w (ZQ.mQ (ZQ.K0 + 20) (by omega) k q)
  · exact vT fun k q w hq => ZQ.bG.calls _ k q _ w (ZQ.Fb (ZQ.K0 + 20) (by omega) k q)
  · exact Np
  · exact Nq
theorem yc : ∀ p ∈ leafs, ∃ fn, Try.prog.funcs[p.1]? = some fn ∧ (fn.name == "runtime.NumGoroutine") = false ∧ fn.body.isSome = true := by
  intro p hp
  simp only [leafs, List.mem_cons, List.not_mem_nil, or_false] at hp
  rcases hp with rfl | rfl | rfl | rfl | rfl | rfl | rfl | rfl | rfl | rfl
  · exact ⟨Try.f91, by kernel_rfl, by kernel_rfl, by kernel_rfl⟩
  · exact ⟨Try.f92, by kernel_rfl, by kernel_rfl, by kernel_rfl⟩
  · exact ⟨Try.f100, by kernel_rfl, by kernel_rfl, by kernel_rfl⟩
  · exact ⟨Try.f101, by kernel_rfl, by kernel_rfl, by kernel_rfl⟩
  · exact ⟨Try.f94, by kernel_rfl, by kernel_rfl, by kernel_rfl⟩
  · exact ⟨Try.f95, by kernel_rfl, by kernel_rfl, by kernel_rfl⟩
  · exact ⟨Try.f83, by kernel_rfl, by kernel_rfl, by kernel_rfl⟩
  · exact ⟨Try.f84, by kernel_rfl, by kernel_rfl, by kernel_rfl⟩
  · exact ⟨Try.f88, by kernel_rfl, by kernel_rfl, by kernel_rfl⟩
  · exact ⟨Try.f70, by kernel_rfl, by kernel_rfl, by kernel_rfl⟩
def Fe : Env := sw leafs
theorem O5 : iN Try.prog Fe := wZ DT
theorem IK : eO Try.prog Fe := qR yc
noncomputable def ins : List (FuncId × AG) := (19, uR Fe 200000000000001 9) :: leafs
theorem Ua : ∀ p ∈ ins, Sat Try.prog p.1 p.2 := by
  intro p hp
  rcases List.mem_cons.mp hp with rfl | hp
  · exact Nr O5 IK _ _
  · exact DT p hp
theorem LD : ∀ p ∈ ins, ∃ fn, Try.prog.funcs[p.1]? = some fn ∧ (fn.name == "runtime.NumGoroutine") = false ∧ fn.body.isSome = true := by
  intro p hp
  rcases List.mem_cons.mp hp with rfl | hp
  · exact ⟨Try.f19, by kernel_rfl, by kernel_rfl, by kernel_rfl⟩
  · exact yc p hp
noncomputable def ext1 : Env := sw ins
theorem O6 : iN Try.prog ext1 := wZ Ua
theorem IL : eO Try.prog ext1 := qR LD
theorem Zf : zP.Ok Fe := by
  constructor <;> intros <;> simp_all [Fe, leafs, sw, TW, TY, LQ, tvS, zP, vs, vb, vi]
theorem GN {α : Type} (sz : Nat) (own : Bool) (l : List α) (f : α → List FV) (hf : ∀ x, (f x).length = sz) (h : l.length ≤ 1000000) : Nn sz own [vl (l.map f)] = some ([.one (if own then .own sz (l.map f) else .f (.sl (l.map f)))], [vl (l.map f)]) := by
  have h1 : ((l.map f).all fun r => r.length == sz) = true := by
    rw [List.all_eq_true]; intro r hr; obtain ⟨x, -, rfl⟩ := List.mem_map.mp hr; exact beq_iff_eq.mpr (hf x)
  show (if (l.map f).length ≤ 1000000 ∧ _ then _ else _) = _
  rw [if_pos ⟨by rw [List.length_map]; exact h, h1⟩]
theorem Zg (l : List ByteArray) (h : l.length ≤ 1000000) : Nn 1 false [vl (l.map iY)] = some ([vl (l.map iY)], [vl (l.map iY)]) := GN 1 false l iY (fun _ => rfl) h
theorem Zh (l : List Qn) (h : l.length ≤ 1000000) : Nn 3 true [vl (l.map rQ)] = some ([.one (.own 3 (l.map rQ))], [vl (l.map rQ)]) := GN 3 true l rQ (fun _ => rfl) h
theorem Zi : qQ Fe := ⟨fun l h => Zh l h, fun l h => Zg l h⟩
theorem Ub : qQ ext1 := ⟨fun l h => Zh l h, fun l h => Zg l h⟩
theorem DU (gH : List AV) : ext1 19 gH = uR Fe 200000000000001 (0 + 9) gH := by
  unfold ext1 ins sw; rw [if_pos rfl]
theorem O7 : FY zP ext1 where
  p0 now x r := by rw [DU]; exact Kn now x r
  p1 s now x r h1 h2 h3 _ h4 h5 h6 := by rw [DU]; exact Ko Zf Zi s now x r (Nat.le_refl _) h1 h2 h3 h4 h5 h6
theorem O8 : zP.Live := by constructor <;> decide +kernel
end Go.Proofs.Ytdkkgecdhapfhaa.Ka
namespace Go.Proofs.Ytdkkgecdhapfhaa.Ka
open Go Ev
variable {θ : Th}
abbrev ks (l : List It) : List Qn := l.map It.k
theorem O9 {b : Qn} : old [] b = none := rfl
theorem yg {x : It} {l : List It} {b : Qn} : old (x :: l) b = if x.k = b then some x else old l b := by
  unfold old; rw [List.find?_cons]; by_cases h : x.k = b <;> simp [h]
theorem BF {l : List It} {b : Qn} (h : b ∉ ks l) : old l b = none := by
  unfold old; rw [List.find?_eq_none]
  intro x hx; simp only [decide_eq_true_eq]; rintro rfl; exact h (List.mem_map_of_mem hx)
theorem BG {l : List It} {b : Qn} {x : It} (h : old l b = some x) : x.k = b ∧ x ∈ l := ⟨by simpa using List.find?_some h, List.mem_of_find?_eq_some h⟩
theorem DV {x : It} {l : List It} {a : Qn} : rid (x :: l) a = if x.k = a then l else x :: rid l a := by
  unfold rid; rw [List.eraseP_cons]; by_cases h : x.k = a <;> simp [h]
theorem tO {l : List It} {a : Qn} : (rid l a).Sublist l := List.eraseP_sublist ..
theorem IQ {l : List It} {a : Qn} (h : (ks l).Nodup) : (ks (rid l a)).Nodup := (tO.map _).nodup h
theorem BH {l : List It} {a b : Qn} (h : (ks l).Nodup) : old (rid l a) b = if b = a then none else old l b := by
  induction l with
  | nil => simp [rid, O9]
  | cons x l ih =>
    have hc := List.nodup_cons.mp h
    rw [DV]
    by_cases hx : x.k = a
    · rw [if_pos hx]
      by_cases hb : b = a
      · rw [if_pos hb]; exact BF (by rw [hb, ← hx]; exact hc.1)
      · rw [if_neg hb, yg, if_neg (by rw [hx]; exact fun e => hb e.symm)]
    · rw [if_neg hx, yg, yg, ih hc.2]
      by_cases hb : b = a
      · subst hb; rw [if_neg hx, if_pos rfl, if_pos rfl]
      · rw [if_neg hb, if_neg hb]
theorem Uc {l : List It} {a : Qn} (h : (ks l).Nodup) : ks (rid l a) = uo (ks l) a := by
  induction l with
  | nil => rfl
  | cons x l ih =>
    have hc := List.nodup_cons.mp h
    rw [DV]
    by_cases hx : x.k = a
    · rw [if_pos hx]
      have : uo (ks l) a = ks l := List.filter_eq_self.mpr fun y hy => by
        simp only [decide_eq_true_eq]; rintro rfl; rw [← hx] at hy; exact hc.1 hy
      simp only [ks, List.map_cons, uo, List.filter_cons, hx, ne_eq, decide_not] at this ⊢
      simp [this]
    · rw [if_neg hx]
      simp only [ks, List.map_cons, uo, List.filter_cons] at ih ⊢
      rw [ih hc.2]; simp [hx]
theorem GQ {l : List It} {x : It} {b : Qn} (h : x.k ∉ ks l) : old (l ++ [x]) b = if b = x.k then some x else old l b := by
  unfold old; rw [List.find?_append]
  by_cases hb : b = x.k
  · subst hb
    have := BF h; unfold old at this
    rw [this]; simp
  · have : ¬ x.k = b := fun e => hb e.symm
    simp [hb, this]
theorem Fg (l : List It) (x : It) : (x.k ∉ ks l ∧ upd l x = l ++ [x]) ∨ ∃ a y b, l = a ++ y :: b ∧ y.k = x.k ∧ x.k ∉ ks a ∧ upd l x = a ++ x :: b := by
  unfold upd
  cases h : l.findIdx? fun y => decide (y.k = x.k) with
  | none =>
    refine .inl ⟨fun hm => ?_, rfl⟩
    obtain ⟨y, hy, hk⟩ := List.mem_map.mp hm
    have := List.findIdx?_eq_none_iff.mp h y hy
    simp [hk] at this
  | some i =>
    obtain ⟨hi, hx, hb⟩ := List.findIdx?_eq_some_iff_getElem.mp h
    refine .inr ⟨l.take i, l[i], l.drop (i + 1), ?_, by simpa using hx, fun hm => ?_, ?_⟩
    · rw [List.getElem_cons_drop, List.take_append_drop]
    · obtain ⟨y, hy, hk⟩ := List.mem_map.mp hm
      obtain ⟨j, hj, rfl⟩ := List.mem_take_iff_getElem.mp hy
      have := hb j (by omega)
      simp [hk] at this
    · simp only [List.set_eq_take_append_cons_drop, hi, if_true]
theorem zQ {l : List It} {x : It} (h : (ks l).Nodup) (hn : x.k ∉ ks l) : (ks (l ++ [x])).Nodup := by
  simp only [ks, List.map_append, List.map_cons, List.map_nil]
  refine List.nodup_append.mpr ⟨h, List.pairwise_singleton _ _, fun p hp q hq => ?_⟩
  rw [List.mem_singleton] at hq; subst hq; rintro rfl; exact hn hp
theorem Ud {l : List It} {a : Qn} {x : It} (h : old l a = some x) : (rid l a).length + 1 = l.length := by
  obtain ⟨hk, hm⟩ := BG h
  have := List.length_eraseP_of_mem (p := fun y : It => decide (y.k = a)) hm (by simp [hk])
  have hp : 0 < l.length := List.length_pos_of_mem hm
  unfold rid; omega
end Go.Proofs.Ytdkkgecdhapfhaa.Ka
set_option maxRecDepth 4000
namespace Go.Proofs.Ytdkkgecdhapfhaa.Ka
open Go Ev
variable {ext : Env} {F n : Nat} {θ : Th}
abbrev Op.v (o : Op) : AV := .agg [.f (.int .i64 o.o), .f (.int .i64 o.now), .f (.str o.q), .f (.int .i64 o.t), .f (.int .i64 o.c), .f (.sl (o.d.map iY)), .f (.int .i64 o.ttl), .f (.int .i64 o.r)]
end Go.Proofs.Ytdkkgecdhapfhaa.Ka
set_option maxRecDepth 4000
namespace Go.Proofs.Ytdkkgecdhapfhaa.Ka
open Go Ev
variable {ext : Env} {F n : Nat} {θ : Th}
structure Sz (i : Nat) (s : Sv) : Prop where
  r : 0 ≤ s.room ∧ s.room ≤ 1000000
  c : 0 ≤ s.ch ∧ s.ch ≤ i
  o : s.o.length ≤ i
  m : s.m.length ≤ i
  d : ∀ x ∈ s.m, x.d.length ≤ 1000000
theorem Pb {l : List It} {x : It} : (upd l x).length ≤ l.length + 1 := by
  rcases Fg l x with ⟨-, hu⟩ | ⟨a, y, c, rfl, -, -, hu⟩ <;> rw [hu] <;> simp
theorem Pf {l : List It} {x y : It} (h : y ∈ upd l x) : y = x ∨ y ∈ l := by
  rcases Fg l x with ⟨-, hu⟩ | ⟨a, z, c, rfl, -, -, hu⟩ <;> rw [hu] at h <;> simp at h ⊢
  · rcases h with h | h <;> simp [h]
  · rcases h with h | h | h <;> simp [h]
theorem yh : ∀ {g : List Qn} {l : List It}, (g.foldl rid l).Sublist l
  | [], l => List.Sublist.refl _
  | a :: g, l => (yh (g := g)).trans tO
theorem Sz.put {i : Nat} {s : Sv} (h : Sz i s) (now : Int) (x : Se) (r : Int) (hx : x.d.length ≤ 1000000) : Sz (i + 1) (jM θ s now x r).1 := by
  have hc := h.c
  have hq := @Az s.o x.k
  have ho := h.o
  have hm := h.m
  have hu := @Pb s.m (x.it (cZ now x.ttl) r)
  unfold jM
  dsimp only
  split
  · exact ⟨h.r, by show 0 ≤ s.ch ∧ s.ch ≤ _; omega, by show s.o.length ≤ _; omega, by show s.m.length ≤ _; omega, h.d⟩
  · refine ⟨h.r, by show 0 ≤ s.ch + 1 ∧ s.ch + 1 ≤ _; omega, ?_, ?_, fun y hy => ?_⟩
    · show (List.drop _ _).length ≤ _
      rw [List.length_drop, List.length_append, List.length_singleton]; omega
    · exact Nat.le_trans yh.length_le (by omega)
    · rcases Pf (yh.subset hy) with rfl | h1
      · exact hx
      · exact h.d y h1
end Go.Proofs.Ytdkkgecdhapfhaa.Ka
set_option maxRecDepth 4000
namespace Go.Proofs.Ytdkkgecdhapfhaa.Ka
open Go Ev
variable {θ : Th}
theorem GR {l : List Qn} {k : Qn} (h : k ∉ l) : uo l k = l := List.filter_eq_self.mpr fun x hx => by
  simp only [decide_eq_true_eq]; rintro rfl; exact h hx
theorem GU {l : List It} {x : It} (h : old l x.k = none) : upd l x = l ++ [x] := by
  rcases Fg l x with ⟨-, hu⟩ | ⟨a, y, c, rfl, hy, -, -⟩
  · exact hu
  · have := List.find?_eq_none.mp h y (by simp)
    simp [hy] at this
theorem DW {s : Sv} {now : Int} {x : It} (h1 : 0 ≤ x.u) (h2 : θ.set x.q x.t x.c x.d x.ttl = true) (h3 : 1 ≤ x.r ∧ x.r ≤ 5) (h4 : iW now x.u = true) (h5 : old s.m x.k = none) : qh θ s now x = 0 := by
  unfold qh
  rw [if_neg (by rw [h2]; simp; omega), if_neg (by rw [h4]; decide)]
  show (match old s.m x.k with | some o => if CO o.r (iW now o.u) x.r = false then (10 : Int) else 0 | none => 0) = 0
  rw [h5]
theorem LG {s : Sv} {now : Int} {x : Se} {r : Int} (h1 : 0 ≤ cZ now x.ttl) (h2 : θ.set x.q x.t x.c x.d x.ttl = true) (h3 : 1 ≤ r ∧ r ≤ 5) (h4 : iW now (cZ now x.ttl) = true) (h5 : old s.m x.k = none) (h6 : x.k ∉ s.o) (h7 : (s.o.length : Int) < s.room) :
    jM θ s now x r = (⟨s.room, s.m ++ [x.it (cZ now x.ttl) r], s.o ++ [x.k], s.ch + 1⟩, 0) := by
  have hm : qh θ s now (x.it (cZ now x.ttl) r) = 0 := DW h1 h2 h3 h4 h5
  have hk : (s.o ++ [x.k]).length - s.room.toNat = 0 := by rw [List.length_append, List.length_singleton]; omega
  unfold jM
  simp only [hm, GR h6, hk, GU (x := x.it (cZ now x.ttl) r) h5]
  rfl
theorem zR {s : Sv} {now : Int} {x : Se} {r : Int} {y : Qn} {o : List Qn} (h1 : 0 ≤ cZ now x.ttl) (h2 : θ.set x.q x.t x.c x.d x.ttl = true) (h3 : 1 ≤ r ∧ r ≤ 5) (h4 : iW now (cZ now x.ttl) = true) (h5 : old s.m x.k = none) (h6 : x.k ∉ s.o) (ho : s.o = y :: o) (h7 : (s.o.length : Int) = s.room) :
    jM θ s now x r = (⟨s.room, rid (s.m ++ [x.it (cZ now x.ttl) r]) y, o ++ [x.k], s.ch + 1⟩, 0) := by
  have hm : qh θ s now (x.it (cZ now x.ttl) r) = 0 := DW h1 h2 h3 h4 h5
  have hk : (s.o ++ [x.k]).length - s.room.toNat = 1 := by rw [List.length_append, List.length_singleton]; omega
  unfold jM
  simp only [hm, GR h6, hk, GU (x := x.it (cZ now x.ttl) r) h5]
  rw [ho]
  rfl
theorem Fh : ((List.range 81).map fun i => EF (i : Nat)).Nodup := by decide +kernel
theorem LH {i j : Nat} (hi : i ≤ 80) (hj : j ≤ 80) (h : EF i = EF j) : i = j := by
  have h1 := List.pairwise_iff_getElem.mp Fh
  rcases Nat.lt_trichotomy i j with hlt | rfl | hlt
  · have := h1 i j (by simp; omega) (by simp; omega) hlt
    simp only [List.getElem_map, List.getElem_range] at this
    exact absurd h this
  · rfl
  · have := h1 j i (by simp; omega) (by simp; omega) hlt
    simp only [List.getElem_map, List.getElem_range] at this
    exact absurd h.symm this
end Go.Proofs.Ytdkkgecdhapfhaa.Ka

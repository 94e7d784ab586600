/- A part of the proof of NegNil: cut, joined and given short names by a program of this session (wip/tools/pack.py); Lean checks it. No condition. -/
import Derived.Test.YtdkkgecdhapfhaaPNNili
import Derived.Test.YtdkkgecdhapfhaaPNNilk
import Derived.Test.YtdkkgecdhapfhaaPNNilj
import Derived.Test.YtdkkgecdhapfhaaPNNilh
import Derived.Test.YtdkkgecdhapfhaaPNNile
import Derived.ProofKit
import Derived.OpenShut
import Derived.SizedLaws
import Derived.ChangeArms
import Derived.ChangeSlices
import Derived.Carry
import Derived.KernelRfl
import Derived.Test.YtdkkgecdhapfhaaPNNild
set_option linter.unusedSectionVars false
set_option linter.unusedSimpArgs false
set_option linter.unusedVariables false
namespace Go.Proofs.Ytdkkgecdhapfhaa.ZQ
open Go.RowKit Go.Proofs.YtdkkgecdhapfhaaW.bD Go.Proofs.YtdkkgecdhapfhaaW.dW Go.Proofs.YtdkkgecdhapfhaaW.eH
attribute [local go_sem] jr jv kr ku iF iG jw jy
attribute [local go_sem high] Vp
def aH.j0 : Nat → Int → Bool → Option (Int × Int × Int)
  | 0,_,_=>none
  | k + 1,x3,x4=>if x4 = true then (some (0,1,0)) else (if x3 = 6 then (some (0,2,20)) else (if x3 = 15 then (some (2,1,0)) else (if x3 = 33 then (some (6,1,0)) else (if x3 = 1 then (some (4,0,0)) else (if x3 = 28 then (some (16,0,0)) else (some (0,0,0)))))))
def aH.f (k:Nat) (a0:Int):Option (Int × Int × Int):=if a0 = 2 then (aH.j0 k a0 (a0 == 2)) else (if a0 = 5 then (aH.j0 k a0 (a0 == 5)) else (aH.j0 k a0 (a0 == 12)))
set_option maxHeartbeats 8000000 in
set_option maxRecDepth 100000 in
theorem aH.calls (k:Nat) (a0:Int) (r1:Int) (r2:Int) (r3:Int) (w:World) (h:aH.f k a0 = some (r1,r2,r3)) :
    Calls Try.prog 106 #[.int .i64 a0] w fun e w'=>e = .returned (.agg #[.int .i64 r1,.int .i64 r2,.int .i64 r3]) ∧ Below w.heap.size w w':=by
  have M0:=Try.underlying142
  have HB:=aj.mk (Below.refl w.heap.size w)
  have H:(if a0 = 2 then (aH.j0 k a0 (a0 == 2)) else (if a0 = 5 then (aH.j0 k a0 (a0 == 5)) else (aH.j0 k a0 (a0 == 12)))) = some (r1,r2,r3):=h
  clear h
  have U9:=aj.mk H
  clear H
  go_enter Try.func106,Try.ntmps106
  go_upto_if 4 with (first | ((with_reducible refine gH (N:=2) rfl ?_);refine fP ?hg (N:=2) ?hd (cs:=#[.int .i64 0,.int .i64 0,.int .i64 0]) (t:=142) ?hr ?_;(case hd=>rfl);(case hg=>rfl);(case hr=>first | (go_simp;done) | (go_simp;rfl));intro gU hg w3 gT hb;have dZ:=aj.mk (bE (by repeat (first | (with_reducible first | exact HB.out | apply ak | apply ah | apply au) | exact HB.out)) hb);have gW:=aj.mk (gT);have jf:=aj.mk ((by rw [hg];exact (bL (by repeat (first | (with_reducible first | exact HB.out | apply ak | apply ah | apply au) | exact HB.out))):w.heap.size ≤ gU));have jK:=aj.mk ((by rw [hg];exact (bL (by repeat (first | (with_reducible first | exact HB.out | apply ak | apply ah | apply au) | exact HB.out))):w.heap.size ≤ gU));clear HB;have HB:=dZ;have dU:=gW;have agT:=jf;have q8:=jK;clear dZ gW jf jK;clear hb gT hg))
  (try simp only [Act.put,List.setIfInBounds_toArray,List.set_cons_zero,List.set_cons_succ])
  go_cut [4] (fun v4 wc=>∃ (kq:Nat) (qF:Bool),v4 = .bool qF ∧ aj (aH.j0 kq a0 qF = some (r1,r2,r3)) ∧ aj (kq ≤ k) ∧ aj (wc.heap[gU]? = some (.cells #[.int .i64 0,.int .i64 0,.int .i64 0] 142 (0,0))) ∧ aj (Below w.heap.size w wc))
  case first =>
    have H:=U9.out
    clear U9
    by_cases c4:a0 = 2
    · rw [if_pos c4] at H
      have qH:(a0 == 2) = true:=beq_iff_eq.mpr c4
      have JD:(a0 != 2) = false:=bne_eq_false_iff_eq.mpr c4
      clear c4
      (first | rw [qH] | rw [ME] | (simp only [gN,iy];rw [qH]) | skip)
      have H':=aj.mk H
      clear H
      go_wp2
      go_meet
      case rel=>exact ⟨_,((a0 == 2)),(by first | rfl | (simp;done) | (simp [*];done) | (simp [B.aV];done) | (simp [B.aW];done)),H',⟨by first | omega | exact Nat.le_refl _⟩,⟨by (with_reducible repeat (first | refine aG ?_ _ | refine aI ?_ | refine aA ?_ _));exact dU.out⟩,⟨by repeat (first | (with_reducible first | exact HB.out | apply ak | apply ah | apply au | refine aR ?_ q8.out) | exact HB.out)⟩⟩
    · rw [if_neg c4] at H
      have qH:(a0 == 2) = false:=beq_eq_false_iff_ne.mpr c4
      have JD:(a0 != 2) = true:=bne_iff_ne.mpr c4
      (first | rw [qH] | rw [ME] | (simp only [gN,iy];rw [qH]) | skip)
      by_cases c5:a0 = 5
      · rw [if_pos c5] at H
        have pK:(a0 == 5) = true:=beq_iff_eq.mpr c5
        have vo:(a0 != 5) = false:=bne_eq_false_iff_eq.mpr c5
        clear c5
        have H':=aj.mk H
        clear H
        go_wp2
        go_meet
        case rel=>exact ⟨_,((a0 == 5)),(by first | rfl | (simp;done) | (simp [*];done) | (simp [B.aV];done) | (simp [B.aW];done)),H',⟨by first | omega | exact Nat.le_refl _⟩,⟨by (with_reducible repeat (first | refine aG ?_ _ | refine aI ?_ | refine aA ?_ _));exact dU.out⟩,⟨by repeat (first | (with_reducible first | exact HB.out | apply ak | apply ah | apply au | refine aR ?_ q8.out) | exact HB.out)⟩⟩
      · rw [if_neg c5] at H
        have pK:(a0 == 5) = false:=beq_eq_false_iff_ne.mpr c5
        have vo:(a0 != 5) = true:=bne_iff_ne.mpr c5
        have H':=aj.mk H
        clear H
        go_wp2
        go_meet
        case rel=>exact ⟨_,((a0 == 12)),(by first | rfl | (simp;done) | (simp [*];done) | (simp [B.aV];done) | (simp [B.aW];done)),H',⟨by first | omega | exact Nat.le_refl _⟩,⟨by (with_reducible repeat (first | refine aG ?_ _ | refine aI ?_ | refine aA ?_ _));exact dU.out⟩,⟨by repeat (first | (with_reducible first | exact HB.out | apply ak | apply ah | apply au | refine aR ?_ q8.out) | exact HB.out)⟩⟩
  case rest =>
    clear U9
    try clear c1
    try clear p2
    try clear c4
    try clear qH
    try clear JD
    try clear ME
    try clear c5
    try clear pK
    try clear vo
    obtain ⟨kq,qF,rfl,HA,HJ1,dU,HB⟩:=hcut
    cases kq with
    | zero=>exact absurd HA.out (by simp [aH.j0])
    | succ kj1 =>
      have H:=HA.out
      clear HA
      simp only [aH.j0] at H
      by_cases c6:qF = true
      · subst c6
        have H1:(some (0,1,0)) = some (r1,r2,r3):=by rw [if_pos rfl] at H;exact H
        clear H
        have H:=H1
        clear H1
        simp only [Option.some.injEq,Prod.mk.injEq] at H
        obtain ⟨rfl,rfl,rfl⟩:=H
        have aeY:wc.cell? ⟨gU,0,none⟩ = some (.int .i64 0):=(aM dU.out 0).trans rfl
        have aeZ:wc.cell? ⟨gU,1,none⟩ = some (.int .i64 0):=(aM dU.out 1).trans rfl
        have ae0:wc.cell? ⟨gU,2,none⟩ = some (.int .i64 0):=(aM dU.out 2).trans rfl
        have ae1:=ay dU.out 0
        have ae2:=ay dU.out 1
        have ae3:=ay dU.out 2
        go_wp2
        refine bodyPost_ret (results_cell_row rfl _ _ gU 142 #[.int .i64 0,.int .i64 1,.int .i64 0] (0,0) _ rfl (by (with_reducible repeat (first | refine aG ?_ _ | refine aI ?_ | refine aA ?_ _));refine bU (cs:=#[.int .i64 0,.int .i64 1,.int .i64 0]) ?_ 2 _ rfl;(with_reducible repeat (first | refine aG ?_ _ | refine aI ?_ | refine aA ?_ _));refine bU (cs:=#[.int .i64 0,.int .i64 0,.int .i64 0]) ?_ 1 _ rfl;(with_reducible repeat (first | refine aG ?_ _ | refine aI ?_ | refine aA ?_ _));refine bU (cs:=#[.int .i64 0,.int .i64 0,.int .i64 0]) ?_ 0 _ rfl;(with_reducible repeat (first | refine aG ?_ _ | refine aI ?_ | refine aA ?_ _));exact dU.out) Try.underlying142 rfl (by kernel_rfl)) rfl ?_
        exact ⟨by first | rfl | (simp [aJ,aK] <;> rfl) | (simp [*,aJ,aK] <;> rfl),by repeat (first | (with_reducible first | exact HB.out | apply ak | apply ah | apply au | refine aR ?_ q8.out) | exact HB.out)⟩
      · replace c6:=Bool.eq_false_iff.mpr c6
        subst c6
        have H1:(if a0 = 6 then (some (0,2,20)) else (if a0 = 15 then (some (2,1,0)) else (if a0 = 33 then (some (6,1,0)) else (if a0 = 1 then (some (4,0,0)) else (if a0 = 28 then (some (16,0,0)) else (some (0,0,0))))))) = some (r1,r2,r3):=by rw [if_neg (show ¬ (false = true) by decide)] at H;exact H
        clear H
        have H:=H1
        clear H1
        by_cases c8:a0 = 6
        · rw [if_pos c8] at H
          have rR:(a0 == 6) = true:=beq_iff_eq.mpr c8
          have rT:(a0 != 6) = false:=bne_eq_false_iff_eq.mpr c8
          clear c8
          simp only [Option.some.injEq,Prod.mk.injEq] at H
          obtain ⟨rfl,rfl,rfl⟩:=H
          have M4:wc.cell? ⟨gU,0,none⟩ = some (.int .i64 0):=(aM dU.out 0).trans rfl
          have M5:wc.cell? ⟨gU,1,none⟩ = some (.int .i64 0):=(aM dU.out 1).trans rfl
          have M6:wc.cell? ⟨gU,2,none⟩ = some (.int .i64 0):=(aM dU.out 2).trans rfl
          have M7:=ay dU.out 0
          have M8:=ay dU.out 1
          have M9:=ay dU.out 2
          go_wp2
          refine bodyPost_ret (results_cell_row rfl _ _ gU 142 #[.int .i64 0,.int .i64 2,.int .i64 20] (0,0) _ rfl (by (with_reducible repeat (first | refine aG ?_ _ | refine aI ?_ | refine aA ?_ _));refine bU (cs:=#[.int .i64 0,.int .i64 2,.int .i64 0]) ?_ 2 _ rfl;(with_reducible repeat (first | refine aG ?_ _ | refine aI ?_ | refine aA ?_ _));refine bU (cs:=#[.int .i64 0,.int .i64 0,.int .i64 0]) ?_ 1 _ rfl;(with_reducible repeat (first | refine aG ?_ _ | refine aI ?_ | refine aA ?_ _));refine bU (cs:=#[.int .i64 0,.int .i64 0,.int .i64 0]) ?_ 0 _ rfl;(with_reducible repeat (first | refine aG ?_ _ | refine aI ?_ | refine aA ?_ _));exact dU.out) Try.underlying142 rfl (by kernel_rfl)) rfl ?_
          exact ⟨by first | rfl | (simp [aJ,aK] <;> rfl) | (simp [*,aJ,aK] <;> rfl),by repeat (first | (with_reducible first | exact HB.out | apply ak | apply ah | apply au | refine aR ?_ q8.out) | exact HB.out)⟩
        · rw [if_neg c8] at H
          have rR:(a0 == 6) = false:=beq_eq_false_iff_ne.mpr c8
          have rT:(a0 != 6) = true:=bne_iff_ne.mpr c8
          by_cases c10:a0 = 15
          · rw [if_pos c10] at H
            have qZ:(a0 == 15) = true:=beq_iff_eq.mpr c10
            have Aq:(a0 != 15) = false:=bne_eq_false_iff_eq.mpr c10
            clear c10
            simp only [Option.some.injEq,Prod.mk.injEq] at H
            obtain ⟨rfl,rfl,rfl⟩:=H
            have acR:wc.cell? ⟨gU,0,none⟩ = some (.int .i64 0):=(aM dU.out 0).trans rfl
            have acS:wc.cell? ⟨gU,1,none⟩ = some (.int .i64 0):=(aM dU.out 1).trans rfl
            have acT:wc.cell? ⟨gU,2,none⟩ = some (.int .i64 0):=(aM dU.out 2).trans rfl
            have acU:=ay dU.out 0
            have acV:=ay dU.out 1
            have acW:=ay dU.out 2
            go_wp2
            refine bodyPost_ret (results_cell_row rfl _ _ gU 142 #[.int .i64 2,.int .i64 1,.int .i64 0] (0,0) _ rfl (by (with_reducible repeat (first | refine aG ?_ _ | refine aI ?_ | refine aA ?_ _));refine bU (cs:=#[.int .i64 2,.int .i64 1,.int .i64 0]) ?_ 2 _ rfl;(with_reducible repeat (first | refine aG ?_ _ | refine aI ?_ | refine aA ?_ _));refine bU (cs:=#[.int .i64 2,.int .i64 0,.int .i64 0]) ?_ 1 _ rfl;(with_reducible repeat (first | refine aG ?_ _ | refine aI ?_ | refine aA ?_ _));refine bU (cs:=#[.int .i64 0,.int .i64 0,.int .i64 0]) ?_ 0 _ rfl;(with_reducible repeat (first | refine aG ?_ _ | refine aI ?_ | refine aA ?_ _));exact dU.out) Try.underlying142 rfl (by kernel_rfl)) rfl ?_
            exact ⟨by first | rfl | (simp [aJ,aK] <;> rfl) | (simp [*,aJ,aK] <;> rfl),by repeat (first | (with_reducible first | exact HB.out | apply ak | apply ah | apply au | refine aR ?_ q8.out) | exact HB.out)⟩
          · rw [if_neg c10] at H
            have qZ:(a0 == 15) = false:=beq_eq_false_iff_ne.mpr c10
            have Aq:(a0 != 15) = true:=bne_iff_ne.mpr c10
            by_cases c12:a0 = 33
            · rw [if_pos c12] at H
              have uf:(a0 == 33) = true:=beq_iff_eq.mpr c12
              have ug:(a0 != 33) = false:=bne_eq_false_iff_eq.mpr c12
              clear c12
              simp only [Option.some.injEq,Prod.mk.injEq] at H
              obtain ⟨rfl,rfl,rfl⟩:=H
              have Cm:wc.cell? ⟨gU,0,none⟩ = some (.int .i64 0):=(aM dU.out 0).trans rfl
              have Cn:wc.cell? ⟨gU,1,none⟩ = some (.int .i64 0):=(aM dU.out 1).trans rfl
              have Co:wc.cell? ⟨gU,2,none⟩ = some (.int .i64 0):=(aM dU.out 2).trans rfl
              have Cq:=ay dU.out 0
              have Cr:=ay dU.out 1
              have Ct:=ay dU.out 2
              go_wp2
              refine bodyPost_ret (results_cell_row rfl _ _ gU 142 #[.int .i64 6,.int .i64 1,.int .i64 0] (0,0) _ rfl (by (with_reducible repeat (first | refine aG ?_ _ | refine aI ?_ | refine aA ?_ _));refine bU (cs:=#[.int .i64 6,.int .i64 1,.int .i64 0]) ?_ 2 _ rfl;(with_reducible repeat (first | refine aG ?_ _ | refine aI ?_ | refine aA ?_ _));refine bU (cs:=#[.int .i64 6,.int .i64 0,.int .i64 0]) ?_ 1 _ rfl;(with_reducible repeat (first | refine aG ?_ _ | refine aI ?_ | refine aA ?_ _));refine bU (cs:=#[.int .i64 0,.int .i64 0,.int .i64 0]) ?_ 0 _ rfl;(with_reducible repeat (first | refine aG ?_ _ | refine aI ?_ | refine aA ?_ _));exact dU.out) Try.underlying142 rfl (by kernel_rfl)) rfl ?_
              exact ⟨by first | rfl | (simp [aJ,aK] <;> rfl) | (simp [*,aJ,aK] <;> rfl),by repeat (first | (with_reducible first | exact HB.out | apply ak | apply ah | apply au | refine aR ?_ q8.out) | exact HB.out)⟩
            · rw [if_neg c12] at H
              have uf:(a0 == 33) = false:=beq_eq_false_iff_ne.mpr c12
              have ug:(a0 != 33) = true:=bne_iff_ne.mpr c12
              by_cases c14:a0 = 1
              · rw [if_pos c14] at H
                have Au:(a0 == 1) = true:=beq_iff_eq.mpr c14
                have Sc:(a0 != 1) = false:=bne_eq_false_iff_eq.mpr c14
                clear c14
                simp only [Option.some.injEq,Prod.mk.injEq] at H
                obtain ⟨rfl,rfl,rfl⟩:=H
                have Cu:wc.cell? ⟨gU,0,none⟩ = some (.int .i64 0):=(aM dU.out 0).trans rfl
                have Cv:wc.cell? ⟨gU,1,none⟩ = some (.int .i64 0):=(aM dU.out 1).trans rfl
                have Cw:wc.cell? ⟨gU,2,none⟩ = some (.int .i64 0):=(aM dU.out 2).trans rfl
                have Cx:=ay dU.out 0
                have Cy:=ay dU.out 1
                have Cz:=ay dU.out 2
                go_wp2
                refine bodyPost_ret (results_cell_row rfl _ _ gU 142 #[.int .i64 4,.int .i64 0,.int .i64 0] (0,0) _ rfl (by (with_reducible repeat (first | refine aG ?_ _ | refine aI ?_ | refine aA ?_ _));refine bU (cs:=#[.int .i64 4,.int .i64 0,.int .i64 0]) ?_ 2 _ rfl;(with_reducible repeat (first | refine aG ?_ _ | refine aI ?_ | refine aA ?_ _));refine bU (cs:=#[.int .i64 4,.int .i64 0,.int .i64 0]) ?_ 1 _ rfl;(with_reducible repeat (first | refine aG ?_ _ | refine aI ?_ | refine aA ?_ _));refine bU (cs:=#[.int .i64 0,.int .i64 0,.int .i64 0]) ?_ 0 _ rfl;(with_reducible repeat (first | refine aG ?_ _ | refine aI ?_ | refine aA ?_ _));exact dU.out) Try.underlying142 rfl (by kernel_rfl)) rfl ?_
                exact ⟨by first | rfl | (simp [aJ,aK] <;> rfl) | (simp [*,aJ,aK] <;> rfl),by repeat (first | (with_reducible first | exact HB.out | apply ak | apply ah | apply au | refine aR ?_ q8.out) | exact HB.out)⟩
              · rw [if_neg c14] at H
                have Au:(a0 == 1) = false:=beq_eq_false_iff_ne.mpr c14
                have Sc:(a0 != 1) = true:=bne_iff_ne.mpr c14
                by_cases c16:a0 = 28
                · rw [if_pos c16] at H
                  have Ht:(a0 == 28) = true:=beq_iff_eq.mpr c16
                  have aal:(a0 != 28) = false:=bne_eq_false_iff_eq.mpr c16
                  clear c16
                  simp only [Option.some.injEq,Prod.mk.injEq] at H
                  obtain ⟨rfl,rfl,rfl⟩:=H
                  have acX:wc.cell? ⟨gU,0,none⟩ = some (.int .i64 0):=(aM dU.out 0).trans rfl
                  have acY:wc.cell? ⟨gU,1,none⟩ = some (.int .i64 0):=(aM dU.out 1).trans rfl
                  have acZ:wc.cell? ⟨gU,2,none⟩ = some (.int .i64 0):=(aM dU.out 2).trans rfl
                  have ac0:=ay dU.out 0
                  have ac1:=ay dU.out 1
                  have ac2:=ay dU.out 2
                  go_wp2
                  refine bodyPost_ret (results_cell_row rfl _ _ gU 142 #[.int .i64 16,.int .i64 0,.int .i64 0] (0,0) _ rfl (by (with_reducible repeat (first | refine aG ?_ _ | refine aI ?_ | refine aA ?_ _));refine bU (cs:=#[.int .i64 16,.int .i64 0,.int .i64 0]) ?_ 2 _ rfl;(with_reducible repeat (first | refine aG ?_ _ | refine aI ?_ | refine aA ?_ _));refine bU (cs:=#[.int .i64 16,.int .i64 0,.int .i64 0]) ?_ 1 _ rfl;(with_reducible repeat (first | refine aG ?_ _ | refine aI ?_ | refine aA ?_ _));refine bU (cs:=#[.int .i64 0,.int .i64 0,.int .i64 0]) ?_ 0 _ rfl;(with_reducible repeat (first | refine aG ?_ _ | refine aI ?_ | refine aA ?_ _));exact dU.out) Try.underlying142 rfl (by kernel_rfl)) rfl ?_
                  exact ⟨by first | rfl | (simp [aJ,aK] <;> rfl) | (simp [*,aJ,aK] <;> rfl),by repeat (first | (with_reducible first | exact HB.out | apply ak | apply ah | apply au | refine aR ?_ q8.out) | exact HB.out)⟩
                · rw [if_neg c16] at H
                  have Ht:(a0 == 28) = false:=beq_eq_false_iff_ne.mpr c16
                  have aal:(a0 != 28) = true:=bne_iff_ne.mpr c16
                  simp only [Option.some.injEq,Prod.mk.injEq] at H
                  obtain ⟨rfl,rfl,rfl⟩:=H
                  have Ih:wc.cell? ⟨gU,0,none⟩ = some (.int .i64 0):=(aM dU.out 0).trans rfl
                  have Ii:wc.cell? ⟨gU,1,none⟩ = some (.int .i64 0):=(aM dU.out 1).trans rfl
                  have Ij:wc.cell? ⟨gU,2,none⟩ = some (.int .i64 0):=(aM dU.out 2).trans rfl
                  have Ik:=ay dU.out 0
                  have Il:=ay dU.out 1
                  have Im:=ay dU.out 2
                  go_wp2
                  refine bodyPost_ret (results_cell_row rfl _ _ gU 142 #[.int .i64 0,.int .i64 0,.int .i64 0] (0,0) _ rfl (by (with_reducible repeat (first | refine aG ?_ _ | refine aI ?_ | refine aA ?_ _));refine bU (cs:=#[.int .i64 0,.int .i64 0,.int .i64 0]) ?_ 2 _ rfl;(with_reducible repeat (first | refine aG ?_ _ | refine aI ?_ | refine aA ?_ _));refine bU (cs:=#[.int .i64 0,.int .i64 0,.int .i64 0]) ?_ 1 _ rfl;(with_reducible repeat (first | refine aG ?_ _ | refine aI ?_ | refine aA ?_ _));refine bU (cs:=#[.int .i64 0,.int .i64 0,.int .i64 0]) ?_ 0 _ rfl;(with_reducible repeat (first | refine aG ?_ _ | refine aI ?_ | refine aA ?_ _));exact dU.out) Try.underlying142 rfl (by kernel_rfl)) rfl ?_
                  exact ⟨by first | rfl | (simp [aJ,aK] <;> rfl) | (simp [*,aJ,aK] <;> rfl),by repeat (first | (with_reducible first | exact HB.out | apply ak | apply ah | apply au | refine aR ?_ q8.out) | exact HB.out)⟩
def bq.l0 : Nat → ByteArray → Int → Option (Bool)
  | 0,_,_=>none
  | k + 1,x0,x3=>if x3 < (x0.size:Int) then (if 0 ≤ x3 then (bq.l0 k x0 (wrap64 ((wrap64 (x3 + 1)) + (wrap64 (bt x0 x3))))) else (none)) else (if x3 = (x0.size:Int) then (some (decide (x3 > 0))) else (some false))
def bq.f (k:Nat) (a0:ByteArray):Option (Bool):=bq.l0 k a0 0
set_option maxHeartbeats 8000000 in
set_option maxRecDepth 100000 in
theorem bq.calls (k:Nat) (a0:ByteArray) (r:Bool) (w:World) (h:bq.f k a0 = some r) :
    Calls Try.prog 117 #[.string a0] w fun e w'=>e = .returned (.bool r) ∧ aY w w':=by
  have H:(bq.l0 k a0 0) = some r:=h
  clear h
  have H':=aj.mk H
  clear H
  go_enter Try.func117,Try.ntmps117
  go_wp2
  go_loopg [3] k (fun kq v3 w'=>∃ (oG:Int),v3 = .int .i64 oG ∧ aj (bq.l0 kq a0 oG = some r) ∧ aj (kq ≤ k) ∧ aY w w')
  case atStart=>exact ⟨(0),(by first | rfl | (simp;done) | (simp [*];done) | (simp [B.aV];done) | (simp [B.aW];done)),H',⟨Nat.le_refl _⟩,by repeat (first | exact aY.refl _ | apply aY.step)⟩
  case round =>
    clear H'
    try clear c1
    obtain ⟨oG,rfl,HA,tY,⟨m1,rfl⟩⟩:=hrel
    cases gk with
    | zero=>exact absurd HA.out (by simp [bq.l0])
    | succ k1 =>
      have H:=HA.out
      clear HA
      simp only [bq.l0] at H
      by_cases c2:oG < (a0.size:Int)
      · rw [if_pos c2] at H
        have wu:decide (oG < (a0.size:Int)) = true:=decide_eq_true c2
        clear c2
        by_cases c3:0 ≤ oG
        · rw [if_pos c3] at H
          have qI:decide (0 ≤ oG) = true:=decide_eq_true c3
          clear c3
          have H':=aj.mk H
          clear H
          have p4:0 ≤ (oG:Int):=of_decide_eq_true (by first | (with_reducible assumption) | assumption)
          have q4:oG < (a0.size:Int):=of_decide_eq_true (by first | (with_reducible assumption) | assumption)
          have hx4:=nJ a0 oG
          replace p4:=eq_true p4
          replace q4:=eq_true q4
          go_wp2
          go_roundg k1
          case measure=>have:=tY.out;omega
          case rel=>exact ⟨(wrap64 ((wrap64 (oG + 1)) + (wrap64 (bt a0 oG)))),(by first | rfl | (simp;done) | (simp [*];done) | (simp [B.aV];done) | (simp [B.aW];done)),H',⟨by have:=tY.out;omega⟩,by repeat (first | exact aY.refl _ | apply aY.step)⟩
        · rw [if_neg c3] at H
          exact absurd H (by simp)
      · rw [if_neg c2] at H
        have wu:decide (oG < (a0.size:Int)) = false:=decide_eq_false c2
        clear c2
        by_cases c5:oG = (a0.size:Int)
        · rw [if_pos c5] at H
          have pK:(oG == (a0.size:Int)) = true:=beq_iff_eq.mpr c5
          have vo:(oG != (a0.size:Int)) = false:=bne_eq_false_iff_eq.mpr c5
          clear c5
          obtain rfl:=Option.some.inj H
          go_wp2
          go_ret
          exact ⟨by first | rfl | (simp;done) | (simp [*];done),by repeat (first | exact aY.refl _ | apply aY.step)⟩
        · rw [if_neg c5] at H
          have pK:(oG == (a0.size:Int)) = false:=beq_eq_false_iff_ne.mpr c5
          have vo:(oG != (a0.size:Int)) = true:=bne_iff_ne.mpr c5
          obtain rfl:=Option.some.inj H
          go_wp2
          go_ret
          exact ⟨by first | rfl | (simp;done) | (simp [*];done),by repeat (first | exact aY.refl _ | apply aY.step)⟩
def aX.l0 : Nat → ByteArray → Int → Int → ByteArray → Int → Int → Int → Int → Int → Option (ByteArray × Int)
  | 0,_,_,_,_,_,_,_,_,_=>none
  | k + 1,x0,x1,x2,x13,PE,x15,Qk,Io,Ip=>if x15 < Io then ((aU.f k x0 PE).bind fun Iq=>(if Iq.2.2 = 0 then (if x13.size + Iq.1.size ≤ 9223372036854775807 then (aX.l0 k x0 x1 x2 (x13 ++ Iq.1) Iq.2.1 (wrap64 (x15 + 1)) Qk Io Ip) else (none)) else (some ((⟨#[]⟩:ByteArray),4)))) else (if (wrap64 (PE + Ip)) = (wrap64 (x1 + x2)) then (if 0 ≤ PE then (if PE ≤ (wrap64 (x1 + x2)) then (if (wrap64 (x1 + x2)) ≤ (x0.size:Int) then (if x13.size + (x0.extract (PE:Int).toNat ((wrap64 (x1 + x2)):Int).toNat).size ≤ 9223372036854775807 then (if ((x13 ++ (x0.extract (PE:Int).toNat ((wrap64 (x1 + x2)):Int).toNat)).size:Int) > 65535 then (some ((⟨#[]⟩:ByteArray),4)) else (some (x13 ++ (x0.extract (PE:Int).toNat ((wrap64 (x1 + x2)):Int).toNat),0))) else (none)) else (none)) else (none)) else (none)) else (some ((⟨#[]⟩:ByteArray),4)))
def aX.f (k:Nat) (a0:ByteArray) (a1:Int) (a2:Int) (a3:Int):Option (ByteArray × Int):=(bC.f a0 a1 a2).bind fun lu=>(if lu.2 = true then ((aH.f k a3).bind fun eU=>(if (eU.1 == 0 && (eU.2.1 == 0 && (eU.2.2 == 0))) = true then (if a3 = 16 then ((bq.f k lu.1).bind fun wC=>(if wC = true then (if (lu.1.size:Int) > 65535 then (some ((⟨#[]⟩:ByteArray),4)) else (some (lu.1,0))) else (some ((⟨#[]⟩:ByteArray),4)))) else (if (lu.1.size:Int) > 65535 then (some ((⟨#[]⟩:ByteArray),4)) else (some (lu.1,0)))) else (if eU.1 > a2 then (some ((⟨#[]⟩:ByteArray),4)) else (if 0 ≤ eU.1 then (if eU.1 ≤ (lu.1.size:Int) then (aX.l0 k a0 a1 a2 (lu.1.extract 0 (eU.1:Int).toNat) (wrap64 (a1 + eU.1)) 0 eU.1 eU.2.1 eU.2.2) else (none)) else (none))))) else (some ((⟨#[]⟩:ByteArray),2)))
set_option maxHeartbeats 8000000 in
set_option maxRecDepth 100000 in
theorem aX.calls (k:Nat) (a0:ByteArray) (a1:Int) (a2:Int) (a3:Int) (r1:ByteArray) (r2:Int) (w:World) (h:aX.f k a0 a1 a2 a3 = some (r1,r2)) :
    Calls Try.prog 104 #[.string a0,.int .i64 a1,.int .i64 a2,.int .i64 a3] w fun e w'=>e = .returned (.tuple #[.string r1,.int .i64 r2]) ∧ Below w.heap.size w w':=by
  have M0:=Try.underlying142
  have HB:=aj.mk (Below.refl w.heap.size w)
  have H:((bC.f a0 a1 a2).bind fun lu=>(if lu.2 = true then ((aH.f k a3).bind fun eU=>(if (eU.1 == 0 && (eU.2.1 == 0 && (eU.2.2 == 0))) = true then (if a3 = 16 then ((bq.f k lu.1).bind fun wC=>(if wC = true then (if (lu.1.size:Int) > 65535 then (some ((⟨#[]⟩:ByteArray),4)) else (some (lu.1,0))) else (some ((⟨#[]⟩:ByteArray),4)))) else (if (lu.1.size:Int) > 65535 then (some ((⟨#[]⟩:ByteArray),4)) else (some (lu.1,0)))) else (if eU.1 > a2 then (some ((⟨#[]⟩:ByteArray),4)) else (if 0 ≤ eU.1 then (if eU.1 ≤ (lu.1.size:Int) then (aX.l0 k a0 a1 a2 (lu.1.extract 0 (eU.1:Int).toNat) (wrap64 (a1 + eU.1)) 0 eU.1 eU.2.1 eU.2.2) else (none)) else (none))))) else (some ((⟨#[]⟩:ByteArray),2)))) = some (r1,r2):=h
  clear h
  replace H:=zbm H
  obtain ⟨⟨t160,aam⟩,Sn,H⟩:=H
  replace H:(if aam = true then ((aH.f k a3).bind fun eU=>(if (eU.1 == 0 && (eU.2.1 == 0 && (eU.2.2 == 0))) = true then (if a3 = 16 then ((bq.f k t160).bind fun wC=>(if wC = true then (if (t160.size:Int) > 65535 then (some ((⟨#[]⟩:ByteArray),4)) else (some (t160,0))) else (some ((⟨#[]⟩:ByteArray),4)))) else (if (t160.size:Int) > 65535 then (some ((⟨#[]⟩:ByteArray),4)) else (some (t160,0)))) else (if eU.1 > a2 then (some ((⟨#[]⟩:ByteArray),4)) else (if 0 ≤ eU.1 then (if eU.1 ≤ (t160.size:Int) then (aX.l0 k a0 a1 a2 (t160.extract 0 (eU.1:Int).toNat) (wrap64 (a1 + eU.1)) 0 eU.1 eU.2.1 eU.2.2) else (none)) else (none))))) else (some ((⟨#[]⟩:ByteArray),2))) = some (r1,r2):=H
  have A5:=aj.mk Sn
  clear Sn
  by_cases c6:aam = true
  · subst c6
    have H1:((aH.f k a3).bind fun eU=>(if (eU.1 == 0 && (eU.2.1 == 0 && (eU.2.2 == 0))) = true then (if a3 = 16 then ((bq.f k t160).bind fun wC=>(if wC = true then (if (t160.size:Int) > 65535 then (some ((⟨#[]⟩:ByteArray),4)) else (some (t160,0))) else (some ((⟨#[]⟩:ByteArray),4)))) else (if (t160.size:Int) > 65535 then (some ((⟨#[]⟩:ByteArray),4)) else (some (t160,0)))) else (if eU.1 > a2 then (some ((⟨#[]⟩:ByteArray),4)) else (if 0 ≤ eU.1 then (if eU.1 ≤ (t160.size:Int) then (aX.l0 k a0 a1 a2 (t160.extract 0 (eU.1:Int).toNat) (wrap64 (a1 + eU.1)) 0 eU.1 eU.2.1 eU.2.2) else (none)) else (none))))) = some (r1,r2):=by rw [if_pos rfl] at H;exact H
    clear H
    have H:=H1
    clear H1
    replace H:=zbm H
    obtain ⟨⟨t162,kH,t164⟩,Zu,H⟩:=H
    replace H:(if (t162 == 0 && (kH == 0 && (t164 == 0))) = true then (if a3 = 16 then ((bq.f k t160).bind fun wC=>(if wC = true then (if (t160.size:Int) > 65535 then (some ((⟨#[]⟩:ByteArray),4)) else (some (t160,0))) else (some ((⟨#[]⟩:ByteArray),4)))) else (if (t160.size:Int) > 65535 then (some ((⟨#[]⟩:ByteArray),4)) else (some (t160,0)))) else (if t162 > a2 then (some ((⟨#[]⟩:ByteArray),4)) else (if 0 ≤ t162 then (if t162 ≤ (t160.size:Int) then (aX.l0 k a0 a1 a2 (t160.extract 0 (t162:Int).toNat) (wrap64 (a1 + t162)) 0 t162 kH t164) else (none)) else (none)))) = some (r1,r2):=H
    have A7:=aj.mk Zu
    clear Zu
    by_cases c8:(t162 == 0 && (kH == 0 && (t164 == 0))) = true
    · rw [if_pos c8] at H
      have rR:(t162 == 0 && (kH == 0 && (t164 == 0))) = true:=c8
      (try (have rT:decide (t162 = 0 && (kH == 0 && (t164 == 0))) = true:=by simpa using c8))
      (try (have MK:(t162 == 0 && (kH == 0 && (t164 == 0))) = true:=by simpa using c8))
      clear c8
      by_cases c9:a3 = 16
      · rw [if_pos c9] at H
        have tZ:(a3 == 16) = true:=beq_iff_eq.mpr c9
        have El:(a3 != 16) = false:=bne_eq_false_iff_eq.mpr c9
        clear c9
        replace H:=zbm H
        obtain ⟨wC,MS,H⟩:=H
        replace H:(if wC = true then (if (t160.size:Int) > 65535 then (some ((⟨#[]⟩:ByteArray),4)) else (some (t160,0))) else (some ((⟨#[]⟩:ByteArray),4))) = some (r1,r2):=H
        have Sg:=aj.mk MS
        clear MS
        by_cases c11:wC = true
        · subst c11
          have H1:(if (t160.size:Int) > 65535 then (some ((⟨#[]⟩:ByteArray),4)) else (some (t160,0))) = some (r1,r2):=by rw [if_pos rfl] at H;exact H
          clear H
          have H:=H1
          clear H1
          by_cases c12:(t160.size:Int) > 65535
          · rw [if_pos c12] at H
            have uf:decide (65535 < (t160.size:Int)) = true:=decide_eq_true c12
            have ug:decide (65535 < t160.size) = true:=decide_eq_true (by omega)
            clear c12
            simp only [Option.some.injEq,Prod.mk.injEq] at H
            obtain ⟨rfl,rfl⟩:=H
            go_enter Try.func104,Try.ntmps104
            go_wp2_with (first | ((with_reducible refine aQ (f:=99) rfl ?_);refine bP (some 23) rfl rfl Try.func99 (by kernel_rfl) rfl #[.string a0,.int .i64 a1,.int .i64 a2] rfl (by (try simp only [List.map_toArray,List.map_cons,List.map_nil]);first | done | rfl | (simp only [List.length_drop,List.length_take];rfl) | (simp only [ByteArray.size_append,Int.natCast_add];rfl) | (rw [B.dO] <;> first | rfl | omega | (simp only [decide_eq_false_iff_not,decide_eq_true_eq,Int.not_lt,Nat.not_lt,gt_iff_lt] at * <;> omega))) ?_;(with_reducible refine (bC.calls a0 a1 a2 t160 true _ A5.out).mono ?_);rintro e w' ⟨rfl,⟨nd,rfl⟩⟩;refine ⟨_,rfl,?_⟩) | ((with_reducible refine aQ (f:=106) rfl ?_);refine bP (some 29) rfl rfl Try.func106 (by kernel_rfl) rfl #[.int .i64 a3] rfl (by (try simp only [List.map_toArray,List.map_cons,List.map_nil]);first | done | rfl | (simp only [List.length_drop,List.length_take];rfl) | (simp only [ByteArray.size_append,Int.natCast_add];rfl) | (rw [B.dO] <;> first | rfl | omega | (simp only [decide_eq_false_iff_not,decide_eq_true_eq,Int.not_lt,Nat.not_lt,gt_iff_lt] at * <;> omega))) ?_;(with_reducible refine (aH.calls k a3 t162 kH t164 _ A7.out).mono ?_);rintro e w13 ⟨rfl,hb⟩;refine ⟨_,rfl,?_⟩;have dZ:=aj.mk (bE (by repeat (first | (with_reducible first | exact HB.out | apply ak | apply ah | apply au) | exact HB.out)) hb);clear HB;have HB:=dZ;clear dZ;(try clear hb);(try clear hb2);(try clear hk);(try clear hi)) | ((with_reducible refine gH (N:=12) rfl ?_);(try (refine jA (by rfl) ?_;dsimp only));refine fP ?hg (N:=12) ?hd (cs:=#[.int .i64 0,.int .i64 0,.int .i64 0]) (t:=142) ?hr ?_;(case hd=>rfl);(case hg=>rfl);(case hr=>first | (go_simp;done) | (go_simp;rfl));intro dL hg w14 gT hb;have dZ:=aj.mk (bE (by repeat (first | (with_reducible first | exact HB.out | apply ak | apply ah | apply au) | exact HB.out)) hb);have gW:=aj.mk (gT);have jf:=aj.mk ((by rw [hg];exact (bL (by repeat (first | (with_reducible first | exact HB.out | apply ak | apply ah | apply au) | exact HB.out))):w.heap.size ≤ dL));have jK:=aj.mk ((by rw [hg];exact (bL (by repeat (first | (with_reducible first | exact HB.out | apply ak | apply ah | apply au) | exact HB.out))):w.heap.size ≤ dL));clear HB;have HB:=dZ;have bT:=gW;have AB:=jf;have kL:=jK;clear dZ gW jf jK;clear hb gT hg;have Cu:w14.cell? ⟨dL,0,none⟩ = some (.int .i64 0):=(aM bT.out 0).trans rfl;have Cv:w14.cell? ⟨dL,1,none⟩ = some (.int .i64 0):=(aM bT.out 1).trans rfl;have Cw:w14.cell? ⟨dL,2,none⟩ = some (.int .i64 0):=(aM bT.out 2).trans rfl;have Cx:=ay bT.out 0;have Cy:=ay bT.out 1;have Cz:=ay bT.out 2) | (go_at_call 117;(with_reducible refine (bq.calls k t160 true _ Sg.out).mono ?_);rintro e w' ⟨rfl,⟨nd,rfl⟩⟩))
            go_ret2
            exact ⟨by first | rfl | (simp [aJ,aK] <;> rfl) | (simp [*,aJ,aK] <;> rfl),by repeat (first | (with_reducible first | exact HB.out | apply ak | apply ah | apply au | refine aR ?_ kL.out) | exact HB.out)⟩
          · rw [if_neg c12] at H
            have uf:decide (65535 < (t160.size:Int)) = false:=decide_eq_false c12
            have ug:decide (65535 < t160.size) = false:=decide_eq_false (by omega)
            clear c12
            simp only [Option.some.injEq,Prod.mk.injEq] at H
            obtain ⟨rfl,rfl⟩:=H
            go_enter Try.func104,Try.ntmps104
            go_wp2_with (first | ((with_reducible refine aQ (f:=99) rfl ?_);refine bP (some 23) rfl rfl Try.func99 (by kernel_rfl) rfl #[.string a0,.int .i64 a1,.int .i64 a2] rfl (by (try simp only [List.map_toArray,List.map_cons,List.map_nil]);first | done | rfl | (simp only [List.length_drop,List.length_take];rfl) | (simp only [ByteArray.size_append,Int.natCast_add];rfl) | (rw [B.dO] <;> first | rfl | omega | (simp only [decide_eq_false_iff_not,decide_eq_true_eq,Int.not_lt,Nat.not_lt,gt_iff_lt] at * <;> omega))) ?_;(with_reducible refine (bC.calls a0 a1 a2 t160 true _ A5.out).mono ?_);rintro e w' ⟨rfl,⟨nd,rfl⟩⟩;refine ⟨_,rfl,?_⟩) | ((with_reducible refine aQ (f:=106) rfl ?_);refine bP (some 29) rfl rfl Try.func106 (by kernel_rfl) rfl #[.int .i64 a3] rfl (by (try simp only [List.map_toArray,List.map_cons,List.map_nil]);first | done | rfl | (simp only [List.length_drop,List.length_take];rfl) | (simp only [ByteArray.size_append,Int.natCast_add];rfl) | (rw [B.dO] <;> first | rfl | omega | (simp only [decide_eq_false_iff_not,decide_eq_true_eq,Int.not_lt,Nat.not_lt,gt_iff_lt] at * <;> omega))) ?_;(with_reducible refine (aH.calls k a3 t162 kH t164 _ A7.out).mono ?_);rintro e w16 ⟨rfl,hb⟩;refine ⟨_,rfl,?_⟩;have dZ:=aj.mk (bE (by repeat (first | (with_reducible first | exact HB.out | apply ak | apply ah | apply au) | exact HB.out)) hb);clear HB;have HB:=dZ;clear dZ;(try clear hb);(try clear hb2);(try clear hk);(try clear hi)) | ((with_reducible refine gH (N:=12) rfl ?_);(try (refine jA (by rfl) ?_;dsimp only));refine fP ?hg (N:=12) ?hd (cs:=#[.int .i64 0,.int .i64 0,.int .i64 0]) (t:=142) ?hr ?_;(case hd=>rfl);(case hg=>rfl);(case hr=>first | (go_simp;done) | (go_simp;rfl));intro dL hg w17 gT hb;have dZ:=aj.mk (bE (by repeat (first | (with_reducible first | exact HB.out | apply ak | apply ah | apply au) | exact HB.out)) hb);have gW:=aj.mk (gT);have jf:=aj.mk ((by rw [hg];exact (bL (by repeat (first | (with_reducible first | exact HB.out | apply ak | apply ah | apply au) | exact HB.out))):w.heap.size ≤ dL));have jK:=aj.mk ((by rw [hg];exact (bL (by repeat (first | (with_reducible first | exact HB.out | apply ak | apply ah | apply au) | exact HB.out))):w.heap.size ≤ dL));clear HB;have HB:=dZ;have bT:=gW;have AB:=jf;have kL:=jK;clear dZ gW jf jK;clear hb gT hg;have Ih:w17.cell? ⟨dL,0,none⟩ = some (.int .i64 0):=(aM bT.out 0).trans rfl;have Ii:w17.cell? ⟨dL,1,none⟩ = some (.int .i64 0):=(aM bT.out 1).trans rfl;have Ij:w17.cell? ⟨dL,2,none⟩ = some (.int .i64 0):=(aM bT.out 2).trans rfl;have Ik:=ay bT.out 0;have Il:=ay bT.out 1;have Im:=ay bT.out 2) | (go_at_call 117;(with_reducible refine (bq.calls k t160 true _ Sg.out).mono ?_);rintro e w' ⟨rfl,⟨nd,rfl⟩⟩))
            go_ret2
            exact ⟨by first | rfl | (simp [aJ,aK] <;> rfl) | (simp [*,aJ,aK] <;> rfl),by repeat (first | (with_reducible first | exact HB.out | apply ak | apply ah | apply au | refine aR ?_ kL.out) | exact HB.out)⟩
        · replace c11:=Bool.eq_false_iff.mpr c11
          subst c11
          have H1:(some ((⟨#[]⟩:ByteArray),4)) = some (r1,r2):=by rw [if_neg (show ¬ (false = true) by decide)] at H;exact H
          clear H
          have H:=H1
          clear H1
          simp only [Option.some.injEq,Prod.mk.injEq] at H
          obtain ⟨rfl,rfl⟩:=H
          go_enter Try.func104,Try.ntmps104
          go_wp2_with (first | ((with_reducible refine aQ (f:=99) rfl ?_);refine bP (some 23) rfl rfl Try.func99 (by kernel_rfl) rfl #[.string a0,.int .i64 a1,.int .i64 a2] rfl (by (try simp only [List.map_toArray,List.map_cons,List.map_nil]);first | done | rfl | (simp only [List.length_drop,List.length_take];rfl) | (simp only [ByteArray.size_append,Int.natCast_add];rfl) | (rw [B.dO] <;> first | rfl | omega | (simp only [decide_eq_false_iff_not,decide_eq_true_eq,Int.not_lt,Nat.not_lt,gt_iff_lt] at * <;> omega))) ?_;(with_reducible refine (bC.calls a0 a1 a2 t160 true _ A5.out).mono ?_);rintro e w' ⟨rfl,⟨nd,rfl⟩⟩;refine ⟨_,rfl,?_⟩) | ((with_reducible refine aQ (f:=106) rfl ?_);refine bP (some 29) rfl rfl Try.func106 (by kernel_rfl) rfl #[.int .i64 a3] rfl (by (try simp only [List.map_toArray,List.map_cons,List.map_nil]);first | done | rfl | (simp only [List.length_drop,List.length_take];rfl) | (simp only [ByteArray.size_append,Int.natCast_add];rfl) | (rw [B.dO] <;> first | rfl | omega | (simp only [decide_eq_false_iff_not,decide_eq_true_eq,Int.not_lt,Nat.not_lt,gt_iff_lt] at * <;> omega))) ?_;(with_reducible refine (aH.calls k a3 t162 kH t164 _ A7.out).mono ?_);rintro e w19 ⟨rfl,hb⟩;refine ⟨_,rfl,?_⟩;have dZ:=aj.mk (bE (by repeat (first | (with_reducible first | exact HB.out | apply ak | apply ah | apply au) | exact HB.out)) hb);clear HB;have HB:=dZ;clear dZ;(try clear hb);(try clear hb2);(try clear hk);(try clear hi)) | ((with_reducible refine gH (N:=12) rfl ?_);(try (refine jA (by rfl) ?_;dsimp only));refine fP ?hg (N:=12) ?hd (cs:=#[.int .i64 0,.int .i64 0,.int .i64 0]) (t:=142) ?hr ?_;(case hd=>rfl);(case hg=>rfl);(case hr=>first | (go_simp;done) | (go_simp;rfl));intro dL hg w20 gT hb;have dZ:=aj.mk (bE (by repeat (first | (with_reducible first | exact HB.out | apply ak | apply ah | apply au) | exact HB.out)) hb);have gW:=aj.mk (gT);have jf:=aj.mk ((by rw [hg];exact (bL (by repeat (first | (with_reducible first | exact HB.out | apply ak | apply ah | apply au) | exact HB.out))):w.heap.size ≤ dL));have jK:=aj.mk ((by rw [hg];exact (bL (by repeat (first | (with_reducible first | exact HB.out | apply ak | apply ah | apply au) | exact HB.out))):w.heap.size ≤ dL));clear HB;have HB:=dZ;have bT:=gW;have AB:=jf;have kL:=jK;clear dZ gW jf jK;clear hb gT hg;have Ql:w20.cell? ⟨dL,0,none⟩ = some (.int .i64 0):=(aM bT.out 0).trans rfl;have Qm:w20.cell? ⟨dL,1,none⟩ = some (.int .i64 0):=(aM bT.out 1).trans rfl;have Qo:w20.cell? ⟨dL,2,none⟩ = some (.int .i64 0):=(aM bT.out 2).trans rfl;have Qp:=ay bT.out 0;have Qq:=ay bT.out 1;have Qr:=ay bT.out 2) | (go_at_call 117;(with_reducible refine (bq.calls k t160 false _ Sg.out).mono ?_);rintro e w' ⟨rfl,⟨nd,rfl⟩⟩))
          go_ret2
          exact ⟨by first | rfl | (simp [aJ,aK] <;> rfl) | (simp [*,aJ,aK] <;> rfl),by repeat (first | (with_reducible first | exact HB.out | apply ak | apply ah | apply au | refine aR ?_ kL.out) | exact HB.out)⟩
      · rw [if_neg c9] at H
        have tZ:(a3 == 16) = false:=beq_eq_false_iff_ne.mpr c9
        have El:(a3 != 16) = true:=bne_iff_ne.mpr c9
        by_cases EN:(t160.size:Int) > 65535
        · rw [if_pos EN] at H
          have Na:decide (65535 < (t160.size:Int)) = true:=decide_eq_true EN
          have Nb:decide (65535 < t160.size) = true:=decide_eq_true (by omega)
          clear EN
          simp only [Option.some.injEq,Prod.mk.injEq] at H
          obtain ⟨rfl,rfl⟩:=H
          go_enter Try.func104,Try.ntmps104
          go_wp2_with (first | ((with_reducible refine aQ (f:=99) rfl ?_);refine bP (some 23) rfl rfl Try.func99 (by kernel_rfl) rfl #[.string a0,.int .i64 a1,.int .i64 a2] rfl (by (try simp only [List.map_toArray,List.map_cons,List.map_nil]);first | done | rfl | (simp only [List.length_drop,List.length_take];rfl) | (simp only [ByteArray.size_append,Int.natCast_add];rfl) | (rw [B.dO] <;> first | rfl | omega | (simp only [decide_eq_false_iff_not,decide_eq_true_eq,Int.not_lt,Nat.not_lt,gt_iff_lt] at * <;> omega))) ?_;(with_reducible refine (bC.calls a0 a1 a2 t160 true _ A5.out).mono ?_);rintro e w' ⟨rfl,⟨nd,rfl⟩⟩;refine ⟨_,rfl,?_⟩) | ((with_reducible refine aQ (f:=106) rfl ?_);refine bP (some 29) rfl rfl Try.func106 (by kernel_rfl) rfl #[.int .i64 a3] rfl (by (try simp only [List.map_toArray,List.map_cons,List.map_nil]);first | done | rfl | (simp only [List.length_drop,List.length_take];rfl) | (simp only [ByteArray.size_append,Int.natCast_add];rfl) | (rw [B.dO] <;> first | rfl | omega | (simp only [decide_eq_false_iff_not,decide_eq_true_eq,Int.not_lt,Nat.not_lt,gt_iff_lt] at * <;> omega))) ?_;(with_reducible refine (aH.calls k a3 t162 kH t164 _ A7.out).mono ?_);rintro e w23 ⟨rfl,hb⟩;refine ⟨_,rfl,?_⟩;have dZ:=aj.mk (bE (by repeat (first | (with_reducible first | exact HB.out | apply ak | apply ah | apply au) | exact HB.out)) hb);clear HB;have HB:=dZ;clear dZ;(try clear hb);(try clear hb2);(try clear hk);(try clear hi)) | ((with_reducible refine gH (N:=12) rfl ?_);(try (refine jA (by rfl) ?_;dsimp only));refine fP ?hg (N:=12) ?hd (cs:=#[.int .i64 0,.int .i64 0,.int .i64 0]) (t:=142) ?hr ?_;(case hd=>rfl);(case hg=>rfl);(case hr=>first | (go_simp;done) | (go_simp;rfl));intro dL hg w24 gT hb;have dZ:=aj.mk (bE (by repeat (first | (with_reducible first | exact HB.out | apply ak | apply ah | apply au) | exact HB.out)) hb);have gW:=aj.mk (gT);have jf:=aj.mk ((by rw [hg];exact (bL (by repeat (first | (with_reducible first | exact HB.out | apply ak | apply ah | apply au) | exact HB.out))):w.heap.size ≤ dL));have jK:=aj.mk ((by rw [hg];exact (bL (by repeat (first | (with_reducible first | exact HB.out | apply ak | apply ah | apply au) | exact HB.out))):w.heap.size ≤ dL));clear HB;have HB:=dZ;have bT:=gW;have AB:=jf;have kL:=jK;clear dZ gW jf jK;clear hb gT hg;have Qs:w24.cell? ⟨dL,0,none⟩ = some (.int .i64 0):=(aM bT.out 0).trans rfl;have Qt:w24.cell? ⟨dL,1,none⟩ = some (.int .i64 0):=(aM bT.out 1).trans rfl;have Qu:w24.cell? ⟨dL,2,none⟩ = some (.int .i64 0):=(aM bT.out 2).trans rfl;have Qv:=ay bT.out 0;have Qw:=ay bT.out 1;have Qx:=ay bT.out 2))
          go_ret2
          exact ⟨by first | rfl | (simp [aJ,aK] <;> rfl) | (simp [*,aJ,aK] <;> rfl),by repeat (first | (with_reducible first | exact HB.out | apply ak | apply ah | apply au | refine aR ?_ kL.out) | exact HB.out)⟩
        · rw [if_neg EN] at H
          have Na:decide (65535 < (t160.size:Int)) = false:=decide_eq_false EN
          have Nb:decide (65535 < t160.size) = false:=decide_eq_false (by omega)
          clear EN
          simp only [Option.some.injEq,Prod.mk.injEq] at H
          obtain ⟨rfl,rfl⟩:=H
          go_enter Try.func104,Try.ntmps104
          go_wp2_with (first | ((with_reducible refine aQ (f:=99) rfl ?_);refine bP (some 23) rfl rfl Try.func99 (by kernel_rfl) rfl #[.string a0,.int .i64 a1,.int .i64 a2] rfl (by (try simp only [List.map_toArray,List.map_cons,List.map_nil]);first | done | rfl | (simp only [List.length_drop,List.length_take];rfl) | (simp only [ByteArray.size_append,Int.natCast_add];rfl) | (rw [B.dO] <;> first | rfl | omega | (simp only [decide_eq_false_iff_not,decide_eq_true_eq,Int.not_lt,Nat.not_lt,gt_iff_lt] at * <;> omega))) ?_;(with_reducible refine (bC.calls a0 a1 a2 t160 true _ A5.out).mono ?_);rintro e w' ⟨rfl,⟨nd,rfl⟩⟩;refine ⟨_,rfl,?_⟩) | ((with_reducible refine aQ (f:=106) rfl ?_);refine bP (some 29) rfl rfl Try.func106 (by kernel_rfl) rfl #[.int .i64 a3] rfl (by (try simp only [List.map_toArray,List.map_cons,List.map_nil]);first | done | rfl | (simp only [List.length_drop,List.length_take];rfl) | (simp only [ByteArray.size_append,Int.natCast_add];rfl) | (rw [B.dO] <;> first | rfl | omega | (simp only [decide_eq_false_iff_not,decide_eq_true_eq,Int.not_lt,Nat.not_lt,gt_iff_lt] at * <;> omega))) ?_;(with_reducible refine (aH.calls k a3 t162 kH t164 _ A7.out).mono ?_);rintro e w26 ⟨rfl,hb⟩;refine ⟨_,rfl,?_⟩;have dZ:=aj.mk (bE (by repeat (first | (with_reducible first | exact HB.out | apply ak | apply ah | apply au) | exact HB.out)) hb);clear HB;have HB:=dZ;clear dZ;(try clear hb);(try clear hb2);(try clear hk);(try clear hi)) | ((with_reducible refine gH (N:=12) rfl ?_);(try (refine jA (by rfl) ?_;dsimp only));refine fP ?hg (N:=12) ?hd (cs:=#[.int .i64 0,.int .i64 0,.int .i64 0]) (t:=142) ?hr ?_;(case hd=>rfl);(case hg=>rfl);(case hr=>first | (go_simp;done) | (go_simp;rfl));intro dL hg w27 gT hb;have dZ:=aj.mk (bE (by repeat (first | (with_reducible first | exact HB.out | apply ak | apply ah | apply au) | exact HB.out)) hb);have gW:=aj.mk (gT);have jf:=aj.mk ((by rw [hg];exact (bL (by repeat (first | (with_reducible first | exact HB.out | apply ak | apply ah | apply au) | exact HB.out))):w.heap.size ≤ dL));have jK:=aj.mk ((by rw [hg];exact (bL (by repeat (first | (with_reducible first | exact HB.out | apply ak | apply ah | apply au) | exact HB.out))):w.heap.size ≤ dL));clear HB;have HB:=dZ;have bT:=gW;have AB:=jf;have kL:=jK;clear dZ gW jf jK;clear hb gT hg;have Qy:w27.cell? ⟨dL,0,none⟩ = some (.int .i64 0):=(aM bT.out 0).trans rfl;have Qz:w27.cell? ⟨dL,1,none⟩ = some (.int .i64 0):=(aM bT.out 1).trans rfl;have QA:w27.cell? ⟨dL,2,none⟩ = some (.int .i64 0):=(aM bT.out 2).trans rfl;have QB:=ay bT.out 0;have QC:=ay bT.out 1;have QD:=ay bT.out 2))
          go_ret2
          exact ⟨by first | rfl | (simp [aJ,aK] <;> rfl) | (simp [*,aJ,aK] <;> rfl),by repeat (first | (with_reducible first | exact HB.out | apply ak | apply ah | apply au | refine aR ?_ kL.out) | exact HB.out)⟩
    · rw [if_neg c8] at H
      have rR:(t162 == 0 && (kH == 0 && (t164 == 0))) = false:=by simpa using c8
      (try (have rT:decide (t162 = 0 && (kH == 0 && (t164 == 0))) = false:=by simpa using c8))
      (try (have MK:(t162 == 0 && (kH == 0 && (t164 == 0))) = false:=by simpa using c8))
      (try (have Zn:¬ (t162 = 0 && (kH == 0 && (t164 == 0))):=by simpa using c8))
      clear c8
      by_cases Vq:t162 > a2
      · rw [if_pos Vq] at H
        have Sq:decide (a2 < t162) = true:=decide_eq_true Vq
        clear Vq
        simp only [Option.some.injEq,Prod.mk.injEq] at H
        obtain ⟨rfl,rfl⟩:=H
        go_enter Try.func104,Try.ntmps104
        go_wp2_with (first | ((with_reducible refine aQ (f:=99) rfl ?_);refine bP (some 23) rfl rfl Try.func99 (by kernel_rfl) rfl #[.string a0,.int .i64 a1,.int .i64 a2] rfl (by (try simp only [List.map_toArray,List.map_cons,List.map_nil]);first | done | rfl | (simp only [List.length_drop,List.length_take];rfl) | (simp only [ByteArray.size_append,Int.natCast_add];rfl) | (rw [B.dO] <;> first | rfl | omega | (simp only [decide_eq_false_iff_not,decide_eq_true_eq,Int.not_lt,Nat.not_lt,gt_iff_lt] at * <;> omega))) ?_;(with_reducible refine (bC.calls a0 a1 a2 t160 true _ A5.out).mono ?_);rintro e w' ⟨rfl,⟨nd,rfl⟩⟩;refine ⟨_,rfl,?_⟩) | ((with_reducible refine aQ (f:=106) rfl ?_);refine bP (some 29) rfl rfl Try.func106 (by kernel_rfl) rfl #[.int .i64 a3] rfl (by (try simp only [List.map_toArray,List.map_cons,List.map_nil]);first | done | rfl | (simp only [List.length_drop,List.length_take];rfl) | (simp only [ByteArray.size_append,Int.natCast_add];rfl) | (rw [B.dO] <;> first | rfl | omega | (simp only [decide_eq_false_iff_not,decide_eq_true_eq,Int.not_lt,Nat.not_lt,gt_iff_lt] at * <;> omega))) ?_;(with_reducible refine (aH.calls k a3 t162 kH t164 _ A7.out).mono ?_);rintro e w30 ⟨rfl,hb⟩;refine ⟨_,rfl,?_⟩;have dZ:=aj.mk (bE (by repeat (first | (with_reducible first | exact HB.out | apply ak | apply ah | apply au) | exact HB.out)) hb);clear HB;have HB:=dZ;clear dZ;(try clear hb);(try clear hb2);(try clear hk);(try clear hi)) | ((with_reducible refine gH (N:=12) rfl ?_);(try (refine jA (by rfl) ?_;dsimp only));refine fP ?hg (N:=12) ?hd (cs:=#[.int .i64 0,.int .i64 0,.int .i64 0]) (t:=142) ?hr ?_;(case hd=>rfl);(case hg=>rfl);(case hr=>first | (go_simp;done) | (go_simp;rfl));intro dL hg w31 gT hb;have dZ:=aj.mk (bE (by repeat (first | (with_reducible first | exact HB.out | apply ak | apply ah | apply au) | exact HB.out)) hb);have gW:=aj.mk (gT);have jf:=aj.mk ((by rw [hg];exact (bL (by repeat (first | (with_reducible first | exact HB.out | apply ak | apply ah | apply au) | exact HB.out))):w.heap.size ≤ dL));have jK:=aj.mk ((by rw [hg];exact (bL (by repeat (first | (with_reducible first | exact HB.out | apply ak | apply ah | apply au) | exact HB.out))):w.heap.size ≤ dL));clear HB;have HB:=dZ;have bT:=gW;have AB:=jf;have kL:=jK;clear dZ gW jf jK;clear hb gT hg;have H9:w31.cell? ⟨dL,0,none⟩ = some (.int .i64 0):=(aM bT.out 0).trans rfl;have Ia:w31.cell? ⟨dL,1,none⟩ = some (.int .i64 0):=(aM bT.out 1).trans rfl;have Ib:w31.cell? ⟨dL,2,none⟩ = some (.int .i64 0):=(aM bT.out 2).trans rfl;have Ic:=ay bT.out 0;have Ie:=ay bT.out 1;have Ig:=ay bT.out 2))
        go_ret2
        exact ⟨by first | rfl | (simp [aJ,aK] <;> rfl) | (simp [*,aJ,aK] <;> rfl),by repeat (first | (with_reducible first | exact HB.out | apply ak | apply ah | apply au | refine aR ?_ kL.out) | exact HB.out)⟩
      · rw [if_neg Vq] at H
        have Sq:decide (a2 < t162) = false:=decide_eq_false Vq
        clear Vq
        by_cases OI:0 ≤ t162
        · rw [if_pos OI] at H
          have aan:=eq_true OI
          have aao:decide (0 ≤ t162) = true:=decide_eq_true OI
          clear OI
          by_cases c34:t162 ≤ (t160.size:Int)
          · rw [if_pos c34] at H
            have aap:=eq_true c34
            have aaq:decide (t162 ≤ (t160.size:Int)) = true:=decide_eq_true c34
            clear c34
            have H':=aj.mk H
            clear H
            go_enter Try.func104,Try.ntmps104
            go_wp2_with (first | ((with_reducible refine aQ (f:=99) rfl ?_);refine bP (some 23) rfl rfl Try.func99 (by kernel_rfl) rfl #[.string a0,.int .i64 a1,.int .i64 a2] rfl (by (try simp only [List.map_toArray,List.map_cons,List.map_nil]);first | done | rfl | (simp only [List.length_drop,List.length_take];rfl) | (simp only [ByteArray.size_append,Int.natCast_add];rfl) | (rw [B.dO] <;> first | rfl | omega | (simp only [decide_eq_false_iff_not,decide_eq_true_eq,Int.not_lt,Nat.not_lt,gt_iff_lt] at * <;> omega))) ?_;(with_reducible refine (bC.calls a0 a1 a2 t160 true _ A5.out).mono ?_);rintro e w' ⟨rfl,⟨nd,rfl⟩⟩;refine ⟨_,rfl,?_⟩) | ((with_reducible refine aQ (f:=106) rfl ?_);refine bP (some 29) rfl rfl Try.func106 (by kernel_rfl) rfl #[.int .i64 a3] rfl (by (try simp only [List.map_toArray,List.map_cons,List.map_nil]);first | done | rfl | (simp only [List.length_drop,List.length_take];rfl) | (simp only [ByteArray.size_append,Int.natCast_add];rfl) | (rw [B.dO] <;> first | rfl | omega | (simp only [decide_eq_false_iff_not,decide_eq_true_eq,Int.not_lt,Nat.not_lt,gt_iff_lt] at * <;> omega))) ?_;(with_reducible refine (aH.calls k a3 t162 kH t164 _ A7.out).mono ?_);rintro e w35 ⟨rfl,hb⟩;refine ⟨_,rfl,?_⟩;have dZ:=aj.mk (bE (by repeat (first | (with_reducible first | exact HB.out | apply ak | apply ah | apply au) | exact HB.out)) hb);clear HB;have HB:=dZ;clear dZ;(try clear hb);(try clear hb2);(try clear hk);(try clear hi)) | ((with_reducible refine gH (N:=12) rfl ?_);(try (refine jA (by rfl) ?_;dsimp only));refine fP ?hg (N:=12) ?hd (cs:=#[.int .i64 0,.int .i64 0,.int .i64 0]) (t:=142) ?hr ?_;(case hd=>rfl);(case hg=>rfl);(case hr=>first | (go_simp;done) | (go_simp;rfl));intro dL hg w36 gT hb;have dZ:=aj.mk (bE (by repeat (first | (with_reducible first | exact HB.out | apply ak | apply ah | apply au) | exact HB.out)) hb);have gW:=aj.mk (gT);have jf:=aj.mk ((by rw [hg];exact (bL (by repeat (first | (with_reducible first | exact HB.out | apply ak | apply ah | apply au) | exact HB.out))):w.heap.size ≤ dL));have jK:=aj.mk ((by rw [hg];exact (bL (by repeat (first | (with_reducible first | exact HB.out | apply ak | apply ah | apply au) | exact HB.out))):w.heap.size ≤ dL));clear HB;have HB:=dZ;have bT:=gW;have AB:=jf;have kL:=jK;clear dZ gW jf jK;clear hb gT hg;have QE:w36.cell? ⟨dL,0,none⟩ = some (.int .i64 0):=(aM bT.out 0).trans rfl;have QF:w36.cell? ⟨dL,1,none⟩ = some (.int .i64 0):=(aM bT.out 1).trans rfl;have QG:w36.cell? ⟨dL,2,none⟩ = some (.int .i64 0):=(aM bT.out 2).trans rfl;have QH:=ay bT.out 0;have QI:=ay bT.out 1;have QJ:=ay bT.out 2))
            go_loopg [13,14,15] k (fun kq v13 v14 v15 w'=>∃ (dG:ByteArray) (bQ:Int) (vS:Int),v13 = .string dG ∧ v14 = .int .i64 bQ ∧ v15 = .int .i64 vS ∧ aj (aX.l0 kq a0 a1 a2 dG bQ vS t162 kH t164 = some (r1,r2)) ∧ aj (kq ≤ k) ∧ aj (w'.heap[dL]? = some (.cells #[.int .i64 t162,.int .i64 kH,.int .i64 t164] 142 (0,0))) ∧ aj (Below w.heap.size w w'))
            case atStart=>exact ⟨(t160.extract 0 (t162:Int).toNat),(wrap64 (a1 + t162)),(0),(by first | rfl | (simp;done) | (simp [*];done) | (simp [B.aV];done) | (simp [B.aW];done)),(by first | rfl | (simp;done) | (simp [*];done) | (simp [B.aV];done) | (simp [B.aW];done)),(by first | rfl | (simp;done) | (simp [*];done) | (simp [B.aV];done) | (simp [B.aW];done)),H',⟨Nat.le_refl _⟩,⟨by (with_reducible repeat (first | refine aG ?_ _ | refine aI ?_ | refine aA ?_ _));refine bU (cs:=#[.int .i64 t162,.int .i64 kH,.int .i64 0]) ?_ 2 _ rfl;(with_reducible repeat (first | refine aG ?_ _ | refine aI ?_ | refine aA ?_ _));refine bU (cs:=#[.int .i64 t162,.int .i64 0,.int .i64 0]) ?_ 1 _ rfl;(with_reducible repeat (first | refine aG ?_ _ | refine aI ?_ | refine aA ?_ _));refine bU (cs:=#[.int .i64 0,.int .i64 0,.int .i64 0]) ?_ 0 _ rfl;(with_reducible repeat (first | refine aG ?_ _ | refine aI ?_ | refine aA ?_ _));exact bT.out⟩,⟨by repeat (first | (with_reducible first | exact HB.out | apply ak | apply ah | apply au | refine aR ?_ kL.out) | exact HB.out)⟩⟩
            case round =>
              clear H'
              try clear c1
              try clear c2
              try clear p2
              try clear c3
              try clear c6
              try clear p6
              try clear c8
              try clear rR
              try clear rT
              try clear MK
              try clear c9
              try clear tZ
              try clear El
              try clear c10
              try clear c11
              try clear c12
              try clear uf
              try clear ug
              try clear EN
              try clear Na
              try clear Nb
              try clear Vq
              try clear Sq
              try clear OI
              try clear aan
              try clear aao
              try clear c34
              try clear aap
              try clear aaq
              try clear Cu
              try clear Cv
              try clear Cw
              try clear Ih
              try clear Ii
              try clear Ij
              try clear Ql
              try clear Qm
              try clear Qo
              try clear Qs
              try clear Qt
              try clear Qu
              try clear Qy
              try clear Qz
              try clear QA
              try clear H9
              try clear Ia
              try clear Ib
              try clear QE
              try clear QF
              try clear QG
              try clear Cx
              try clear Cy
              try clear Cz
              try clear Ik
              try clear Il
              try clear Im
              try clear Qp
              try clear Qq
              try clear Qr
              try clear Qv
              try clear Qw
              try clear Qx
              try clear QB
              try clear QC
              try clear QD
              try clear Ic
              try clear Ie
              try clear Ig
              try clear QH
              try clear QI
              try clear QJ
              obtain ⟨dG,bQ,vS,rfl,rfl,rfl,HA,tY,bT,HB⟩:=hrel
              cases gk with
              | zero=>exact absurd HA.out (by simp [aX.l0])
              | succ k1 =>
                have H:=HA.out
                clear HA
                simp only [aX.l0] at H
                by_cases DJ:vS < kH
                · rw [if_pos DJ] at H
                  have Sm:decide (vS < kH) = true:=decide_eq_true DJ
                  clear DJ
                  replace H:=zbm H
                  obtain ⟨⟨t167,t168,Ey⟩,aar,H⟩:=H
                  replace H:(if Ey = 0 then (if dG.size + t167.size ≤ 9223372036854775807 then (aX.l0 k1 a0 a1 a2 (dG ++ t167) t168 (wrap64 (vS + 1)) t162 kH t164) else (none)) else (some ((⟨#[]⟩:ByteArray),4))) = some (r1,r2):=H
                  have A39:=aj.mk aar
                  clear aar
                  by_cases c40:Ey = 0
                  · rw [if_pos c40] at H
                    have aas:(Ey == 0) = true:=beq_iff_eq.mpr c40
                    have aat:(Ey != 0) = false:=bne_eq_false_iff_eq.mpr c40
                    clear c40
                    by_cases Ki:dG.size + t167.size ≤ 9223372036854775807
                    · rw [if_pos Ki] at H
                      have agU:=eq_true Ki
                      have agV:decide (dG.size + t167.size ≤ 9223372036854775807) = true:=decide_eq_true Ki
                      try have agW:(9223372036854775807 < dG.size + t167.size) = False:=eq_false (Nat.not_lt.2 Ki)
                      have H':=aj.mk H
                      clear H
                      have Qd:wr.cell? ⟨dL,0,none⟩ = some (.int .i64 t162):=(aM bT.out 0).trans rfl
                      have Qe:wr.cell? ⟨dL,1,none⟩ = some (.int .i64 kH):=(aM bT.out 1).trans rfl
                      have Qf:wr.cell? ⟨dL,2,none⟩ = some (.int .i64 t164):=(aM bT.out 2).trans rfl
                      have Qg:=ay bT.out 0
                      have Qh:=ay bT.out 1
                      have Qi:=ay bT.out 2
                      go_wp2_with (first | ((with_reducible refine aQ (f:=118) rfl ?_);refine bP (some 67) rfl rfl Try.func118 (by kernel_rfl) rfl #[.string a0,.int .i64 bQ] rfl (by (try simp only [List.map_toArray,List.map_cons,List.map_nil]);first | done | rfl | (simp only [List.length_drop,List.length_take];rfl) | (simp only [ByteArray.size_append,Int.natCast_add];rfl) | (rw [B.dO] <;> first | rfl | omega | (simp only [decide_eq_false_iff_not,decide_eq_true_eq,Int.not_lt,Nat.not_lt,gt_iff_lt] at * <;> omega))) ?_;(with_reducible refine (aU.calls k1 a0 bQ t167 t168 Ey _ A39.out).mono ?_);rintro e w' ⟨rfl,⟨nd,rfl⟩⟩;refine ⟨_,rfl,?_⟩))
                      go_roundg k1
                      case measure=>have:=tY.out;omega
                      case rel=>exact ⟨(dG ++ t167),(t168),(wrap64 (vS + 1)),(by first | rfl | (simp;done) | (simp [*];done) | (simp [B.aV];done) | (simp [B.aW];done)),(by first | rfl | (simp;done) | (simp [*];done) | (simp [B.aV];done) | (simp [B.aW];done)),(by first | rfl | (simp;done) | (simp [*];done) | (simp [B.aV];done) | (simp [B.aW];done)),H',⟨by have:=tY.out;omega⟩,⟨by (with_reducible repeat (first | refine aG ?_ _ | refine aI ?_ | refine aA ?_ _));exact bT.out⟩,⟨by repeat (first | (with_reducible first | exact HB.out | apply ak | apply ah | apply au | refine aR ?_ kL.out) | exact HB.out)⟩⟩
                    · rw [if_neg Ki] at H
                      exact absurd H (by simp)
                  · rw [if_neg c40] at H
                    have aas:(Ey == 0) = false:=beq_eq_false_iff_ne.mpr c40
                    have aat:(Ey != 0) = true:=bne_iff_ne.mpr c40
                    simp only [Option.some.injEq,Prod.mk.injEq] at H
                    obtain ⟨rfl,rfl⟩:=H
                    have ac3:wr.cell? ⟨dL,0,none⟩ = some (.int .i64 t162):=(aM bT.out 0).trans rfl
                    have ac4:wr.cell? ⟨dL,1,none⟩ = some (.int .i64 kH):=(aM bT.out 1).trans rfl
                    have ac5:wr.cell? ⟨dL,2,none⟩ = some (.int .i64 t164):=(aM bT.out 2).trans rfl
                    have ac6:=ay bT.out 0
                    have ac7:=ay bT.out 1
                    have ac8:=ay bT.out 2
                    go_wp2_with (first | ((with_reducible refine aQ (f:=118) rfl ?_);refine bP (some 67) rfl rfl Try.func118 (by kernel_rfl) rfl #[.string a0,.int .i64 bQ] rfl (by (try simp only [List.map_toArray,List.map_cons,List.map_nil]);first | done | rfl | (simp only [List.length_drop,List.length_take];rfl) | (simp only [ByteArray.size_append,Int.natCast_add];rfl) | (rw [B.dO] <;> first | rfl | omega | (simp only [decide_eq_false_iff_not,decide_eq_true_eq,Int.not_lt,Nat.not_lt,gt_iff_lt] at * <;> omega))) ?_;(with_reducible refine (aU.calls k1 a0 bQ t167 t168 Ey _ A39.out).mono ?_);rintro e w' ⟨rfl,⟨nd,rfl⟩⟩;refine ⟨_,rfl,?_⟩))
                    go_ret2
                    exact ⟨by first | rfl | (simp [aJ,aK] <;> rfl) | (simp [*,aJ,aK] <;> rfl),by repeat (first | (with_reducible first | exact HB.out | apply ak | apply ah | apply au | refine aR ?_ kL.out) | exact HB.out)⟩
                · rw [if_neg DJ] at H
                  have Sm:decide (vS < kH) = false:=decide_eq_false DJ
                  clear DJ
                  by_cases zh:(wrap64 (bQ + t164)) = (wrap64 (a1 + a2))
                  · rw [if_pos zh] at H
                    have aau:((wrap64 (bQ + t164)) == (wrap64 (a1 + a2))) = true:=beq_iff_eq.mpr zh
                    have aav:((wrap64 (bQ + t164)) != (wrap64 (a1 + a2))) = false:=bne_eq_false_iff_eq.mpr zh
                    (try (have aaw:(((bQ + t164)) == ((a1 + a2))) = true:=by have h_:((wrap64 (bQ + t164)) == (wrap64 (a1 + a2))) = true:=beq_iff_eq.mpr zh;rw [B.dO (by omega) (by omega)] at h_;rw [B.dO (by omega) (by omega)] at h_;exact h_))
                    (try (have aax:(((bQ + t164)) != ((a1 + a2))) = false:=by have h_:((wrap64 (bQ + t164)) != (wrap64 (a1 + a2))) = false:=bne_eq_false_iff_eq.mpr zh;rw [B.dO (by omega) (by omega)] at h_;rw [B.dO (by omega) (by omega)] at h_;exact h_))
                    clear zh
                    by_cases RP:0 ≤ bQ
                    · rw [if_pos RP] at H
                      have agX:=eq_true RP
                      have agY:decide (0 ≤ bQ) = true:=decide_eq_true RP
                      clear RP
                      by_cases c46:bQ ≤ (wrap64 (a1 + a2))
                      · rw [if_pos c46] at H
                        have agZ:=eq_true c46
                        have ag0:decide (bQ ≤ (wrap64 (a1 + a2))) = true:=decide_eq_true c46
                        by_cases Uz:(wrap64 (a1 + a2)) ≤ (a0.size:Int)
                        · rw [if_pos Uz] at H
                          have ag1:=eq_true Uz
                          have ag2:decide ((wrap64 (a1 + a2)) ≤ (a0.size:Int)) = true:=decide_eq_true Uz
                          by_cases RQ:dG.size + (a0.extract (bQ:Int).toNat ((wrap64 (a1 + a2)):Int).toNat).size ≤ 9223372036854775807
                          · rw [if_pos RQ] at H
                            have ag3:=eq_true RQ
                            have ag4:decide (dG.size + (a0.extract (bQ:Int).toNat ((wrap64 (a1 + a2)):Int).toNat).size ≤ 9223372036854775807) = true:=decide_eq_true RQ
                            try have ag5:(9223372036854775807 < dG.size + (a0.extract (bQ:Int).toNat ((wrap64 (a1 + a2)):Int).toNat).size) = False:=eq_false (Nat.not_lt.2 RQ)
                            by_cases c49:((dG ++ (a0.extract (bQ:Int).toNat ((wrap64 (a1 + a2)):Int).toNat)).size:Int) > 65535
                            · rw [if_pos c49] at H
                              have aay:decide (65535 < ((dG ++ (a0.extract (bQ:Int).toNat ((wrap64 (a1 + a2)):Int).toNat)).size:Int)) = true:=decide_eq_true c49
                              have aaz:decide (65535 < (dG ++ (a0.extract (bQ:Int).toNat ((wrap64 (a1 + a2)):Int).toNat)).size) = true:=decide_eq_true (by omega)
                              (try (have aaA:decide (65535 < ((dG.size:Int) + ((a0.extract (bQ:Int).toNat ((wrap64 (a1 + a2)):Int).toNat).size:Int))) = true:=by have h_:decide (65535 < ((dG ++ (a0.extract (bQ:Int).toNat ((wrap64 (a1 + a2)):Int).toNat)).size:Int)) = true:=decide_eq_true c49;rw [show ((dG ++ (a0.extract (bQ:Int).toNat ((wrap64 (a1 + a2)):Int).toNat)).size:Int) = ((dG.size:Int) + ((a0.extract (bQ:Int).toNat ((wrap64 (a1 + a2)):Int).toNat).size:Int)) from by (simp only [ByteArray.size_append,Int.natCast_add];first | done | rfl)] at h_;(first | exact h_ | (simp only [Int.add_sub_cancel] at h_;exact h_))))
                              (try (have aaB:decide (65535 < ((dG.size:Int) + ((((wrap64 (a1 + a2)):Int).toNat - (bQ:Int).toNat:Nat):Int))) = true:=by have h_:decide (65535 < ((dG ++ (a0.extract (bQ:Int).toNat ((wrap64 (a1 + a2)):Int).toNat)).size:Int)) = true:=decide_eq_true c49;rw [show ((dG ++ (a0.extract (bQ:Int).toNat ((wrap64 (a1 + a2)):Int).toNat)).size:Int) = ((dG.size:Int) + ((a0.extract (bQ:Int).toNat ((wrap64 (a1 + a2)):Int).toNat).size:Int)) from by (simp only [ByteArray.size_append,Int.natCast_add];first | done | rfl)] at h_;rw [show ((a0.extract (bQ:Int).toNat ((wrap64 (a1 + a2)):Int).toNat).size:Int) = ((((wrap64 (a1 + a2)):Int).toNat - (bQ:Int).toNat:Nat):Int) from by (have h1_:(wrap64 (a1 + a2)) ≤ (a0.size:Int):=of_decide_eq_true (by assumption);rw [ByteArray.size_extract];omega)] at h_;exact h_))
                              (try (have aaC:decide (65535 < ((dG ++ (a0.extract (bQ:Int).toNat (((a1 + a2)):Int).toNat)).size:Int)) = true:=by have h_:decide (65535 < ((dG ++ (a0.extract (bQ:Int).toNat ((wrap64 (a1 + a2)):Int).toNat)).size:Int)) = true:=decide_eq_true c49;rw [B.dO (by omega) (by omega)] at h_;exact h_))
                              (try (have aaD:decide (65535 < (dG ++ (a0.extract (bQ:Int).toNat (((a1 + a2)):Int).toNat)).size) = true:=by have h_:decide (65535 < (dG ++ (a0.extract (bQ:Int).toNat ((wrap64 (a1 + a2)):Int).toNat)).size) = true:=decide_eq_true (by omega);rw [B.dO (by omega) (by omega)] at h_;exact h_))
                              (try (have aaE:decide (65535 < ((dG.size:Int) + ((a0.extract (bQ:Int).toNat (((a1 + a2)):Int).toNat).size:Int))) = true:=by have h_:decide (65535 < ((dG.size:Int) + ((a0.extract (bQ:Int).toNat ((wrap64 (a1 + a2)):Int).toNat).size:Int))) = true:=by have h_:decide (65535 < ((dG ++ (a0.extract (bQ:Int).toNat ((wrap64 (a1 + a2)):Int).toNat)).size:Int)) = true:=decide_eq_true c49;rw [show ((dG ++ (a0.extract (bQ:Int).toNat ((wrap64 (a1 + a2)):Int).toNat)).size:Int) = ((dG.size:Int) + ((a0.extract (bQ:Int).toNat ((wrap64 (a1 + a2)):Int).toNat).size:Int)) from by (simp only [ByteArray.size_append,Int.natCast_add];first | done | rfl)] at h_;(first | exact h_ | (simp only [Int.add_sub_cancel] at h_;exact h_));rw [B.dO (by omega) (by omega)] at h_;exact h_))
                              (try (have aaF:decide (65535 < ((dG.size:Int) + (((((a1 + a2)):Int).toNat - (bQ:Int).toNat:Nat):Int))) = true:=by have h_:decide (65535 < ((dG.size:Int) + ((((wrap64 (a1 + a2)):Int).toNat - (bQ:Int).toNat:Nat):Int))) = true:=by have h_:decide (65535 < ((dG ++ (a0.extract (bQ:Int).toNat ((wrap64 (a1 + a2)):Int).toNat)).size:Int)) = true:=decide_eq_true c49;rw [show ((dG ++ (a0.extract (bQ:Int).toNat ((wrap64 (a1 + a2)):Int).toNat)).size:Int) = ((dG.size:Int) + ((a0.extract (bQ:Int).toNat ((wrap64 (a1 + a2)):Int).toNat).size:Int)) from by (simp only [ByteArray.size_append,Int.natCast_add];first | done | rfl)] at h_;rw [show ((a0.extract (bQ:Int).toNat ((wrap64 (a1 + a2)):Int).toNat).size:Int) = ((((wrap64 (a1 + a2)):Int).toNat - (bQ:Int).toNat:Nat):Int) from by (have h1_:(wrap64 (a1 + a2)) ≤ (a0.size:Int):=of_decide_eq_true (by assumption);rw [ByteArray.size_extract];omega)] at h_;exact h_;rw [B.dO (by omega) (by omega)] at h_;exact h_))
                              clear c49
                              simp only [Option.some.injEq,Prod.mk.injEq] at H
                              obtain ⟨rfl,rfl⟩:=H
                              have ac9:wr.cell? ⟨dL,0,none⟩ = some (.int .i64 t162):=(aM bT.out 0).trans rfl
                              have ada:wr.cell? ⟨dL,1,none⟩ = some (.int .i64 kH):=(aM bT.out 1).trans rfl
                              have adb:wr.cell? ⟨dL,2,none⟩ = some (.int .i64 t164):=(aM bT.out 2).trans rfl
                              have ade:=ay bT.out 0
                              have adf:=ay bT.out 1
                              have adg:=ay bT.out 2
                              go_wp2
                              go_ret2
                              exact ⟨by first | rfl | (simp [aJ,aK] <;> rfl) | (simp [*,aJ,aK] <;> rfl),by repeat (first | (with_reducible first | exact HB.out | apply ak | apply ah | apply au | refine aR ?_ kL.out) | exact HB.out)⟩
                            · rw [if_neg c49] at H
                              have aay:decide (65535 < ((dG ++ (a0.extract (bQ:Int).toNat ((wrap64 (a1 + a2)):Int).toNat)).size:Int)) = false:=decide_eq_false c49
                              have aaz:decide (65535 < (dG ++ (a0.extract (bQ:Int).toNat ((wrap64 (a1 + a2)):Int).toNat)).size) = false:=decide_eq_false (by omega)
                              (try (have aaA:decide (65535 < ((dG.size:Int) + ((a0.extract (bQ:Int).toNat ((wrap64 (a1 + a2)):Int).toNat).size:Int))) = false:=by have h_:decide (65535 < ((dG ++ (a0.extract (bQ:Int).toNat ((wrap64 (a1 + a2)):Int).toNat)).size:Int)) = false:=decide_eq_false c49;rw [show ((dG ++ (a0.extract (bQ:Int).toNat ((wrap64 (a1 + a2)):Int).toNat)).size:Int) = ((dG.size:Int) + ((a0.extract (bQ:Int).toNat ((wrap64 (a1 + a2)):Int).toNat).size:Int)) from by (simp only [ByteArray.size_append,Int.natCast_add];first | done | rfl)] at h_;(first | exact h_ | (simp only [Int.add_sub_cancel] at h_;exact h_))))
                              (try (have aaB:decide (65535 < ((dG.size:Int) + ((((wrap64 (a1 + a2)):Int).toNat - (bQ:Int).toNat:Nat):Int))) = false:=by have h_:decide (65535 < ((dG ++ (a0.extract (bQ:Int).toNat ((wrap64 (a1 + a2)):Int).toNat)).size:Int)) = false:=decide_eq_false c49;rw [show ((dG ++ (a0.extract (bQ:Int).toNat ((wrap64 (a1 + a2)):Int).toNat)).size:Int) = ((dG.size:Int) + ((a0.extract (bQ:Int).toNat ((wrap64 (a1 + a2)):Int).toNat).size:Int)) from by (simp only [ByteArray.size_append,Int.natCast_add];first | done | rfl)] at h_;rw [show ((a0.extract (bQ:Int).toNat ((wrap64 (a1 + a2)):Int).toNat).size:Int) = ((((wrap64 (a1 + a2)):Int).toNat - (bQ:Int).toNat:Nat):Int) from by (have h1_:(wrap64 (a1 + a2)) ≤ (a0.size:Int):=of_decide_eq_true (by assumption);rw [ByteArray.size_extract];omega)] at h_;exact h_))
                              (try (have aaC:decide (65535 < ((dG ++ (a0.extract (bQ:Int).toNat (((a1 + a2)):Int).toNat)).size:Int)) = false:=by have h_:decide (65535 < ((dG ++ (a0.extract (bQ:Int).toNat ((wrap64 (a1 + a2)):Int).toNat)).size:Int)) = false:=decide_eq_false c49;rw [B.dO (by omega) (by omega)] at h_;exact h_))
                              (try (have aaD:decide (65535 < (dG ++ (a0.extract (bQ:Int).toNat (((a1 + a2)):Int).toNat)).size) = false:=by have h_:decide (65535 < (dG ++ (a0.extract (bQ:Int).toNat ((wrap64 (a1 + a2)):Int).toNat)).size) = false:=decide_eq_false (by omega);rw [B.dO (by omega) (by omega)] at h_;exact h_))
                              (try (have aaE:decide (65535 < ((dG.size:Int) + ((a0.extract (bQ:Int).toNat (((a1 + a2)):Int).toNat).size:Int))) = false:=by have h_:decide (65535 < ((dG.size:Int) + ((a0.extract (bQ:Int).toNat ((wrap64 (a1 + a2)):Int).toNat).size:Int))) = false:=by have h_:decide (65535 < ((dG ++ (a0.extract (bQ:Int).toNat ((wrap64 (a1 + a2)):Int).toNat)).size:Int)) = false:=decide_eq_false c49;rw [show ((dG ++ (a0.extract (bQ:Int).toNat ((wrap64 (a1 + a2)):Int).toNat)).size:Int) = ((dG.size:Int) + ((a0.extract (bQ:Int).toNat ((wrap64 (a1 + a2)):Int).toNat).size:Int)) from by (simp only [ByteArray.size_append,Int.natCast_add];first | done | rfl)] at h_;(first | exact h_ | (simp only [Int.add_sub_cancel] at h_;exact h_));rw [B.dO (by omega) (by omega)] at h_;exact h_))
                              (try (have aaF:decide (65535 < ((dG.size:Int) + (((((a1 + a2)):Int).toNat - (bQ:Int).toNat:Nat):Int))) = false:=by have h_:decide (65535 < ((dG.size:Int) + ((((wrap64 (a1 + a2)):Int).toNat - (bQ:Int).toNat:Nat):Int))) = false:=by have h_:decide (65535 < ((dG ++ (a0.extract (bQ:Int).toNat ((wrap64 (a1 + a2)):Int).toNat)).size:Int)) = false:=decide_eq_false c49;rw [show ((dG ++ (a0.extract (bQ:Int).toNat ((wrap64 (a1 + a2)):Int).toNat)).size:Int) = ((dG.size:Int) + ((a0.extract (bQ:Int).toNat ((wrap64 (a1 + a2)):Int).toNat).size:Int)) from by (simp only [ByteArray.size_append,Int.natCast_add];first | done | rfl)] at h_;rw [show ((a0.extract (bQ:Int).toNat ((wrap64 (a1 + a2)):Int).toNat).size:Int) = ((((wrap64 (a1 + a2)):Int).toNat - (bQ:Int).toNat:Nat):Int) from by (have h1_:(wrap64 (a1 + a2)) ≤ (a0.size:Int):=of_decide_eq_true (by assumption);rw [ByteArray.size_extract];omega)] at h_;exact h_;rw [B.dO (by omega) (by omega)] at h_;exact h_))
                              clear c49
                              simp only [Option.some.injEq,Prod.mk.injEq] at H
                              obtain ⟨rfl,rfl⟩:=H
                              have adh:wr.cell? ⟨dL,0,none⟩ = some (.int .i64 t162):=(aM bT.out 0).trans rfl
                              have adi:wr.cell? ⟨dL,1,none⟩ = some (.int .i64 kH):=(aM bT.out 1).trans rfl
                              have adj:wr.cell? ⟨dL,2,none⟩ = some (.int .i64 t164):=(aM bT.out 2).trans rfl
                              have adk:=ay bT.out 0
                              have adl:=ay bT.out 1
                              have adn:=ay bT.out 2
                              go_wp2
                              go_ret2
                              exact ⟨by first | rfl | (simp [aJ,aK] <;> rfl) | (simp [*,aJ,aK] <;> rfl),by repeat (first | (with_reducible first | exact HB.out | apply ak | apply ah | apply au | refine aR ?_ kL.out) | exact HB.out)⟩
                          · rw [if_neg RQ] at H
                            exact absurd H (by simp)
                        · rw [if_neg Uz] at H
                          exact absurd H (by simp)
                      · rw [if_neg c46] at H
                        exact absurd H (by simp)
                    · rw [if_neg RP] at H
                      exact absurd H (by simp)
                  · rw [if_neg zh] at H
                    have aau:((wrap64 (bQ + t164)) == (wrap64 (a1 + a2))) = false:=beq_eq_false_iff_ne.mpr zh
                    have aav:((wrap64 (bQ + t164)) != (wrap64 (a1 + a2))) = true:=bne_iff_ne.mpr zh
                    (try (have aaw:(((bQ + t164)) == ((a1 + a2))) = false:=by have h_:((wrap64 (bQ + t164)) == (wrap64 (a1 + a2))) = false:=beq_eq_false_iff_ne.mpr zh;rw [B.dO (by omega) (by omega)] at h_;rw [B.dO (by omega) (by omega)] at h_;exact h_))
                    (try (have aax:(((bQ + t164)) != ((a1 + a2))) = true:=by have h_:((wrap64 (bQ + t164)) != (wrap64 (a1 + a2))) = true:=bne_iff_ne.mpr zh;rw [B.dO (by omega) (by omega)] at h_;rw [B.dO (by omega) (by omega)] at h_;exact h_))
                    simp only [Option.some.injEq,Prod.mk.injEq] at H
                    obtain ⟨rfl,rfl⟩:=H
                    have ado:wr.cell? ⟨dL,0,none⟩ = some (.int .i64 t162):=(aM bT.out 0).trans rfl
                    have adp:wr.cell? ⟨dL,1,none⟩ = some (.int .i64 kH):=(aM bT.out 1).trans rfl
                    have adq:wr.cell? ⟨dL,2,none⟩ = some (.int .i64 t164):=(aM bT.out 2).trans rfl
                    have adr:=ay bT.out 0
                    have ads:=ay bT.out 1
                    have adt:=ay bT.out 2
                    go_wp2
                    go_ret2
                    exact ⟨by first | rfl | (simp [aJ,aK] <;> rfl) | (simp [*,aJ,aK] <;> rfl),by repeat (first | (with_reducible first | exact HB.out | apply ak | apply ah | apply au | refine aR ?_ kL.out) | exact HB.out)⟩
          · rw [if_neg c34] at H
            exact absurd H (by simp)
        · rw [if_neg OI] at H
          exact absurd H (by simp)
  · replace c6:=Bool.eq_false_iff.mpr c6
    subst c6
    have H1:(some ((⟨#[]⟩:ByteArray),2)) = some (r1,r2):=by rw [if_neg (show ¬ (false = true) by decide)] at H;exact H
    clear H
    have H:=H1
    clear H1
    simp only [Option.some.injEq,Prod.mk.injEq] at H
    obtain ⟨rfl,rfl⟩:=H
    go_enter Try.func104,Try.ntmps104
    go_wp2_with (first | ((with_reducible refine aQ (f:=99) rfl ?_);refine bP (some 23) rfl rfl Try.func99 (by kernel_rfl) rfl #[.string a0,.int .i64 a1,.int .i64 a2] rfl (by (try simp only [List.map_toArray,List.map_cons,List.map_nil]);first | done | rfl | (simp only [List.length_drop,List.length_take];rfl) | (simp only [ByteArray.size_append,Int.natCast_add];rfl) | (rw [B.dO] <;> first | rfl | omega | (simp only [decide_eq_false_iff_not,decide_eq_true_eq,Int.not_lt,Nat.not_lt,gt_iff_lt] at * <;> omega))) ?_;(with_reducible refine (bC.calls a0 a1 a2 t160 false _ A5.out).mono ?_);rintro e w' ⟨rfl,⟨nd,rfl⟩⟩;refine ⟨_,rfl,?_⟩))
    go_ret2
    exact ⟨by first | rfl | (simp [aJ,aK] <;> rfl) | (simp [*,aJ,aK] <;> rfl),by repeat (first | (with_reducible first | exact HB.out | apply ak | apply ah | apply au) | exact HB.out)⟩
def bR.f (k:Nat) (a0:Int) (a1:ByteArray):Option (Bool):=if (a1.size:Int) > 65535 then (some false) else ((aX.f k a1 0 (a1.size:Int) a0).bind fun Ez=>(if Ez.2 = 0 then (some (Ez.1.toList == a1.toList)) else (some false)))
set_option maxHeartbeats 8000000 in
set_option maxRecDepth 100000 in
theorem bR.calls (k:Nat) (a0:Int) (a1:ByteArray) (r:Bool) (w:World) (h:bR.f k a0 a1 = some r) :
    Calls Try.prog 83 #[.int .i64 a0,.string a1] w fun e w'=>e = .returned (.bool r) ∧ Below w.heap.size w w':=by
  have HB:=aj.mk (Below.refl w.heap.size w)
  have H:(if (a1.size:Int) > 65535 then (some false) else ((aX.f k a1 0 (a1.size:Int) a0).bind fun Ez=>(if Ez.2 = 0 then (some (Ez.1.toList == a1.toList)) else (some false)))) = some r:=h
  clear h
  by_cases c3:(a1.size:Int) > 65535
  · rw [if_pos c3] at H
    have qI:decide (65535 < (a1.size:Int)) = true:=decide_eq_true c3
    have Cg:decide (65535 < a1.size) = true:=decide_eq_true (by omega)
    clear c3
    obtain rfl:=Option.some.inj H
    go_enter Try.func83,Try.ntmps83
    go_wp2
    go_ret
    exact ⟨by first | rfl | (simp [aJ,aK] <;> rfl) | (simp [*,aJ,aK] <;> rfl),by repeat (first | (with_reducible first | exact HB.out | apply ak | apply ah | apply au) | exact HB.out)⟩
  · rw [if_neg c3] at H
    have qI:decide (65535 < (a1.size:Int)) = false:=decide_eq_false c3
    have Cg:decide (65535 < a1.size) = false:=decide_eq_false (by omega)
    clear c3
    replace H:=zbm H
    obtain ⟨⟨Vr,t171⟩,Em,H⟩:=H
    replace H:(if t171 = 0 then (some (Vr.toList == a1.toList)) else (some false)) = some r:=H
    have A4:=aj.mk Em
    clear Em
    by_cases c5:t171 = 0
    · rw [if_pos c5] at H
      have pK:(t171 == 0) = true:=beq_iff_eq.mpr c5
      have vo:(t171 != 0) = false:=bne_eq_false_iff_eq.mpr c5
      clear c5
      obtain rfl:=Option.some.inj H
      go_enter Try.func83,Try.ntmps83
      go_wp2_with (first | ((with_reducible refine aQ (f:=104) rfl ?_);refine bP (some 15) rfl rfl Try.func104 (by kernel_rfl) rfl #[.string a1,.int .i64 0,.int .i64 (a1.size:Int),.int .i64 a0] rfl (by (try simp only [List.map_toArray,List.map_cons,List.map_nil]);first | done | rfl | (simp only [List.length_drop,List.length_take];rfl) | (simp only [ByteArray.size_append,Int.natCast_add];rfl) | (rw [B.dO] <;> first | rfl | omega | (simp only [decide_eq_false_iff_not,decide_eq_true_eq,Int.not_lt,Nat.not_lt,gt_iff_lt] at * <;> omega))) ?_;(with_reducible refine (aX.calls k a1 0 (a1.size:Int) a0 Vr t171 _ A4.out).mono ?_);rintro e w6 ⟨rfl,hb⟩;refine ⟨_,rfl,?_⟩;have dZ:=aj.mk (bE (by repeat (first | (with_reducible first | exact HB.out | apply ak | apply ah | apply au) | exact HB.out)) hb);clear HB;have HB:=dZ;clear dZ;(try clear hb);(try clear hb2);(try clear hk);(try clear hi)))
      go_ret
      exact ⟨by first | rfl | (simp [aJ,aK] <;> rfl) | (simp [*,aJ,aK] <;> rfl),by repeat (first | (with_reducible first | exact HB.out | apply ak | apply ah | apply au) | exact HB.out)⟩
    · rw [if_neg c5] at H
      have pK:(t171 == 0) = false:=beq_eq_false_iff_ne.mpr c5
      have vo:(t171 != 0) = true:=bne_iff_ne.mpr c5
      obtain rfl:=Option.some.inj H
      go_enter Try.func83,Try.ntmps83
      go_wp2_with (first | ((with_reducible refine aQ (f:=104) rfl ?_);refine bP (some 15) rfl rfl Try.func104 (by kernel_rfl) rfl #[.string a1,.int .i64 0,.int .i64 (a1.size:Int),.int .i64 a0] rfl (by (try simp only [List.map_toArray,List.map_cons,List.map_nil]);first | done | rfl | (simp only [List.length_drop,List.length_take];rfl) | (simp only [ByteArray.size_append,Int.natCast_add];rfl) | (rw [B.dO] <;> first | rfl | omega | (simp only [decide_eq_false_iff_not,decide_eq_true_eq,Int.not_lt,Nat.not_lt,gt_iff_lt] at * <;> omega))) ?_;(with_reducible refine (aX.calls k a1 0 (a1.size:Int) a0 Vr t171 _ A4.out).mono ?_);rintro e w7 ⟨rfl,hb⟩;refine ⟨_,rfl,?_⟩;have dZ:=aj.mk (bE (by repeat (first | (with_reducible first | exact HB.out | apply ak | apply ah | apply au) | exact HB.out)) hb);clear HB;have HB:=dZ;clear dZ;(try clear hb);(try clear hb2);(try clear hk);(try clear hi)))
      go_ret
      exact ⟨by first | rfl | (simp [aJ,aK] <;> rfl) | (simp [*,aJ,aK] <;> rfl),by repeat (first | (with_reducible first | exact HB.out | apply ak | apply ah | apply au) | exact HB.out)⟩
def bg.l0 : Nat → ByteArray → List ByteArray → Int → Int → Int → Int → Int → Option (List ByteArray)
  | 0,_,_,_,_,_,_,_=>none
  | k + 1,x1,x5,x7,x8,QK,Ir,QL=>if x8 < Ir then ((aU.f k x1 x7).bind fun Sr=>(if x5.length < 8796093022208 then (bg.l0 k x1 (x5 ++ [Sr.1]) Sr.2.1 (wrap64 (x8 + 1)) QK Ir QL) else (none))) else (some x5)
def bg.f (k:Nat) (a0:Int) (a1:ByteArray):Option (List ByteArray):=(bR.f k a0 a1).bind fun JQ=>(if JQ = true then ((aH.f k a0).bind fun kI=>(bg.l0 k a1 ([]:List ByteArray) kI.1 0 kI.1 kI.2.1 kI.2.2)) else (some ([]:List ByteArray)))
set_option maxHeartbeats 8000000 in
set_option maxRecDepth 100000 in
theorem bg.calls (k:Nat) (a0:Int) (a1:ByteArray) (r:List ByteArray) (w:World) (h:bg.f k a0 a1 = some r) :
    Calls Try.prog 105 #[.int .i64 a0,.string a1] w fun e w'=>∃ R8:Value,e = .returned (R8) ∧ Kd.R Kd.string 9 w' w.heap.size (fun _=>True) R8 r ∧ Below w.heap.size w w':=by
  have M0:=Try.underlying142
  have HB:=aj.mk (Below.refl w.heap.size w)
  have H:((bR.f k a0 a1).bind fun JQ=>(if JQ = true then ((aH.f k a0).bind fun kI=>(bg.l0 k a1 ([]:List ByteArray) kI.1 0 kI.1 kI.2.1 kI.2.2)) else (some ([]:List ByteArray)))) = some r:=h
  clear h
  replace H:=zbm H
  obtain ⟨JQ,Sd,H⟩:=H
  replace H:(if JQ = true then ((aH.f k a0).bind fun kI=>(bg.l0 k a1 ([]:List ByteArray) kI.1 0 kI.1 kI.2.1 kI.2.2)) else (some ([]:List ByteArray))) = some r:=H
  have A3:=aj.mk Sd
  clear Sd
  by_cases c4:JQ = true
  · subst c4
    have H1:((aH.f k a0).bind fun kI=>(bg.l0 k a1 ([]:List ByteArray) kI.1 0 kI.1 kI.2.1 kI.2.2)) = some r:=by rw [if_pos rfl] at H;exact H
    clear H
    have H:=H1
    clear H1
    replace H:=zbm H
    obtain ⟨⟨t173,vv,t175⟩,Sn,H⟩:=H
    replace H:(bg.l0 k a1 ([]:List ByteArray) t173 0 t173 vv t175) = some r:=H
    have A5:=aj.mk Sn
    clear Sn
    have H':=aj.mk H
    clear H
    go_enter Try.func105,Try.ntmps105
    go_wp2_with (first | ((with_reducible refine aQ (f:=83) rfl ?_);refine bP (some 14) rfl rfl Try.func83 (by kernel_rfl) rfl #[.int .i64 a0,.string a1] rfl (by (try simp only [List.map_toArray,List.map_cons,List.map_nil]);first | done | rfl | (simp only [List.length_drop,List.length_take];rfl) | (simp only [ByteArray.size_append,Int.natCast_add];rfl) | (rw [B.dO] <;> first | rfl | omega | (simp only [decide_eq_false_iff_not,decide_eq_true_eq,Int.not_lt,Nat.not_lt,gt_iff_lt] at * <;> omega))) ?_;(with_reducible refine (bR.calls k a0 a1 true _ A3.out).mono ?_);rintro e w6 ⟨rfl,hb⟩;refine ⟨_,rfl,?_⟩;have dZ:=aj.mk (bE (by repeat (first | (with_reducible first | exact HB.out | apply ak | apply ah | apply au) | exact HB.out)) hb);clear HB;have HB:=dZ;clear dZ;(try clear hb);(try clear hb2);(try clear hk);(try clear hi)) | ((with_reducible refine aQ (f:=106) rfl ?_);refine bP (some 17) rfl rfl Try.func106 (by kernel_rfl) rfl #[.int .i64 a0] rfl (by (try simp only [List.map_toArray,List.map_cons,List.map_nil]);first | done | rfl | (simp only [List.length_drop,List.length_take];rfl) | (simp only [ByteArray.size_append,Int.natCast_add];rfl) | (rw [B.dO] <;> first | rfl | omega | (simp only [decide_eq_false_iff_not,decide_eq_true_eq,Int.not_lt,Nat.not_lt,gt_iff_lt] at * <;> omega))) ?_;(with_reducible refine (aH.calls k a0 t173 vv t175 _ A5.out).mono ?_);rintro e w7 ⟨rfl,hb⟩;refine ⟨_,rfl,?_⟩;have dZ:=aj.mk (bE (by repeat (first | (with_reducible first | exact HB.out | apply ak | apply ah | apply au) | exact HB.out)) hb);clear HB;have HB:=dZ;clear dZ;(try clear hb);(try clear hb2);(try clear hk);(try clear hi)) | ((with_reducible refine gH (N:=6) rfl ?_);refine fP ?hg (N:=6) ?hd (cs:=#[.int .i64 0,.int .i64 0,.int .i64 0]) (t:=142) ?hr ?_;(case hd=>rfl);(case hg=>rfl);(case hr=>first | (go_simp;done) | (go_simp;rfl));intro nM hg w8 gT hb;have dZ:=aj.mk (bE (by repeat (first | (with_reducible first | exact HB.out | apply ak | apply ah | apply au) | exact HB.out)) hb);have gW:=aj.mk (gT);have jf:=aj.mk ((by rw [hg];exact (bL (by repeat (first | (with_reducible first | exact HB.out | apply ak | apply ah | apply au) | exact HB.out))):w.heap.size ≤ nM));have jK:=aj.mk ((by rw [hg];exact (bL (by repeat (first | (with_reducible first | exact HB.out | apply ak | apply ah | apply au) | exact HB.out))):w.heap.size ≤ nM));clear HB;have HB:=dZ;have iW:=gW;have ag6:=jf;have EA:=jK;clear dZ gW jf jK;clear hb gT hg;have M4:w8.cell? ⟨nM,0,none⟩ = some (.int .i64 0):=(aM iW.out 0).trans rfl;have M5:w8.cell? ⟨nM,1,none⟩ = some (.int .i64 0):=(aM iW.out 1).trans rfl;have M6:w8.cell? ⟨nM,2,none⟩ = some (.int .i64 0):=(aM iW.out 2).trans rfl;have M7:=ay iW.out 0;have M8:=ay iW.out 1;have M9:=ay iW.out 2))
    go_loopg [5,7,8] k (fun kq v5 v7 v8 w'=>∃ (EB:List ByteArray) (dJ:Int) (gI:Int),v7 = .int .i64 dJ ∧ v8 = .int .i64 gI ∧ aj (bg.l0 kq a1 EB dJ gI t173 vv t175 = some r) ∧ aj (kq ≤ k) ∧ aj (Kd.R Kd.string 9 w' w.heap.size (fun _=>True) v5 EB) ∧ aj (w'.heap[nM]? = some (.cells #[.int .i64 t173,.int .i64 vv,.int .i64 t175] 142 (0,0))) ∧ aj (Below w.heap.size w w'))
    case atStart=>exact ⟨(([]:List ByteArray)),(t173),(0),(by first | rfl | (simp;done) | (simp [*];done) | (simp [B.aV];done) | (simp [B.aW];done)),(by first | rfl | (simp;done) | (simp [*];done) | (simp [B.aV];done) | (simp [B.aW];done)),H',⟨Nat.le_refl _⟩,⟨by first | exact Kd.jE _ _ _ _ _ | exact Kd.kY _ _ _ _ _ | exact Kd.kZ _ _ _ _ _ | exact Kd.kW _ _ _ _ _ | exact Kd.kX _ _ _ _ _⟩,⟨by (with_reducible repeat (first | refine aG ?_ _ | refine aI ?_ | refine aA ?_ _));refine bU (cs:=#[.int .i64 t173,.int .i64 vv,.int .i64 0]) ?_ 2 _ rfl;(with_reducible repeat (first | refine aG ?_ _ | refine aI ?_ | refine aA ?_ _));refine bU (cs:=#[.int .i64 t173,.int .i64 0,.int .i64 0]) ?_ 1 _ rfl;(with_reducible repeat (first | refine aG ?_ _ | refine aI ?_ | refine aA ?_ _));refine bU (cs:=#[.int .i64 0,.int .i64 0,.int .i64 0]) ?_ 0 _ rfl;(with_reducible repeat (first | refine aG ?_ _ | refine aI ?_ | refine aA ?_ _));exact iW.out⟩,⟨by repeat (first | (with_reducible first | exact HB.out | apply ak | apply ah | apply au | refine aR ?_ EA.out) | exact HB.out)⟩⟩
    case round =>
      clear H'
      try clear c1
      try clear p2
      try clear c4
      try clear c8
      try clear M4
      try clear M5
      try clear M6
      try clear M7
      try clear M8
      try clear M9
      obtain ⟨EB,dJ,gI,rfl,rfl,HA,tY,vB,iW,HB⟩:=hrel
      cases gk with
      | zero=>exact absurd HA.out (by simp [bg.l0])
      | succ k1 =>
        have H:=HA.out
        clear HA
        simp only [bg.l0] at H
        by_cases c10:gI < vv
        · rw [if_pos c10] at H
          have qZ:decide (gI < vv) = true:=decide_eq_true c10
          clear c10
          replace H:=zbm H
          obtain ⟨⟨Nc,QM,ae4⟩,aaG,H⟩:=H
          replace H:(if EB.length < 8796093022208 then (bg.l0 k1 a1 (EB ++ [Nc]) QM (wrap64 (gI + 1)) t173 vv t175) else (none)) = some r:=H
          have A11:=aj.mk aaG
          clear aaG
          by_cases c12:EB.length < 8796093022208
          · rw [if_pos c12] at H
            have aaH:=aj.mk c12
            clear c12
            obtain ⟨aaI,EC⟩:∃ y_:List ByteArray,y_ = (EB ++ [Nc]):=⟨_,rfl⟩
            replace H:(bg.l0 k1 a1 aaI QM (wrap64 (gI + 1)) t173 vv t175) = some r:=by first | (rw [EC];with_reducible exact H) | (have FY:=(Option.bind_some _ _).symm.trans H;rw [EC];with_reducible exact FY) | (have FY:=(Option.bind_some _ _).symm.trans H;with_reducible exact FY) | with_reducible exact H | (rw [EC];exact H) | exact H
            have aaJ:=aj.mk EC
            clear EC
            have H':=aj.mk H
            clear H
            have Cm:wr.cell? ⟨nM,0,none⟩ = some (.int .i64 t173):=(aM iW.out 0).trans rfl
            have Cn:wr.cell? ⟨nM,1,none⟩ = some (.int .i64 vv):=(aM iW.out 1).trans rfl
            have Co:wr.cell? ⟨nM,2,none⟩ = some (.int .i64 t175):=(aM iW.out 2).trans rfl
            have Cq:=ay iW.out 0
            have Cr:=ay iW.out 1
            have Ct:=ay iW.out 2
            go_wp2_with (first | ((with_reducible refine aQ (f:=118) rfl ?_);refine bP (some 29) rfl rfl Try.func118 (by kernel_rfl) rfl #[.string a1,.int .i64 dJ] rfl (by (try simp only [List.map_toArray,List.map_cons,List.map_nil]);first | done | rfl | (simp only [List.length_drop,List.length_take];rfl) | (simp only [ByteArray.size_append,Int.natCast_add];rfl) | (rw [B.dO] <;> first | rfl | omega | (simp only [decide_eq_false_iff_not,decide_eq_true_eq,Int.not_lt,Nat.not_lt,gt_iff_lt] at * <;> omega))) ?_;(with_reducible refine (aU.calls k1 a1 dJ Nc QM ae4 _ A11.out).mono ?_);rintro e w' ⟨rfl,⟨nd,rfl⟩⟩;refine ⟨_,rfl,?_⟩) | ((with_reducible refine nX (b:=.append) (xs:=#[.tmp 33,.tmp 35]) rfl ?_);at_builtin;refine Kd.yC Kd.string (w0:=w) w.heap.size rfl (.tmp 33) (.tmp 35) 33 9 (.string ⟨#[]⟩) 16 rfl Try.underlying33 Hq rfl (by decide) (by omega) u5 EB Nc [.string Nc] (fun _=>True) (fun _=>False) rfl rfl ?aP (fun _ hk=>hk.elim) ?aF ?aO ?aB ?aS ?aL ?_;(case aP=>exact rfl);(case aB=>exact (by repeat (first | (with_reducible first | exact HB.out | apply ak | apply ah | apply au | refine aR ?_ EA.out) | exact HB.out)));(case aF=>exact (fun _ _=>trivial));(case aO=>exact (by (with_reducible repeat (first | apply Kd.eY | apply Kd.fH | apply Kd.fT));exact vB.out));(case aS=>exact (bL (by repeat (first | (with_reducible first | exact HB.out | apply ak | apply ah | apply au | refine aR ?_ EA.out) | exact HB.out))));(case aL=>have:=aaH.out;omega);intro aht w14 ho hb hg hat;rw [← aaJ.out] at ho;have dZ:=aj.mk (qh (g:=nM) (o:=.cells #[.int .i64 t173,.int .i64 vv,.int .i64 t175] 142 (0,0)) (by (with_reducible repeat (first | refine aG ?_ _ | refine aI ?_ | refine aA ?_ _));exact iW.out) hg (Kd.Pq vB.out iW.out (by decide)));have gW:=aj.mk (hb);have jf:=aj.mk (ho);clear iW;clear HB;clear vB;have iW:=dZ;have HB:=gW;have aaK:=jf;clear dZ gW jf;clear ho hb hg hat))
            go_roundg k1
            case measure=>have:=tY.out;omega
            case rel=>exact ⟨(aaI),(QM),(wrap64 (gI + 1)),(by first | rfl | (simp;done) | (simp [*];done) | (simp [B.aV];done) | (simp [B.aW];done)),(by first | rfl | (simp;done) | (simp [*];done) | (simp [B.aV];done) | (simp [B.aW];done)),H',⟨by have:=tY.out;omega⟩,⟨by (with_reducible repeat (first | apply Kd.eY | apply Kd.fH | apply Kd.fT));exact aaK.out⟩,⟨by (with_reducible repeat (first | refine aG ?_ _ | refine aI ?_ | refine aA ?_ _));exact iW.out⟩,⟨by repeat (first | (with_reducible first | exact HB.out | apply ak | apply ah | apply au | refine aR ?_ EA.out) | exact HB.out)⟩⟩
          · rw [if_neg c12] at H
            exact absurd H (by simp)
        · rw [if_neg c10] at H
          have qZ:decide (gI < vv) = false:=decide_eq_false c10
          clear c10
          obtain rfl:=Option.some.inj H
          have Cu:wr.cell? ⟨nM,0,none⟩ = some (.int .i64 t173):=(aM iW.out 0).trans rfl
          have Cv:wr.cell? ⟨nM,1,none⟩ = some (.int .i64 vv):=(aM iW.out 1).trans rfl
          have Cw:wr.cell? ⟨nM,2,none⟩ = some (.int .i64 t175):=(aM iW.out 2).trans rfl
          have Cx:=ay iW.out 0
          have Cy:=ay iW.out 1
          have Cz:=ay iW.out 2
          go_wp2
          go_ret
          exact ⟨_,by first | rfl | (simp [aJ,aK] <;> rfl) | (simp [*,aJ,aK] <;> rfl),by (with_reducible repeat (first | apply Kd.eY | apply Kd.fH | apply Kd.fT));exact vB.out,by repeat (first | (with_reducible first | exact HB.out | apply ak | apply ah | apply au | refine aR ?_ EA.out) | exact HB.out)⟩
  · replace c4:=Bool.eq_false_iff.mpr c4
    subst c4
    have H1:(some ([]:List ByteArray)) = some r:=by rw [if_neg (show ¬ (false = true) by decide)] at H;exact H
    clear H
    have H:=H1
    clear H1
    obtain rfl:=Option.some.inj H
    go_enter Try.func105,Try.ntmps105
    go_wp2_with (first | ((with_reducible refine aQ (f:=83) rfl ?_);refine bP (some 14) rfl rfl Try.func83 (by kernel_rfl) rfl #[.int .i64 a0,.string a1] rfl (by (try simp only [List.map_toArray,List.map_cons,List.map_nil]);first | done | rfl | (simp only [List.length_drop,List.length_take];rfl) | (simp only [ByteArray.size_append,Int.natCast_add];rfl) | (rw [B.dO] <;> first | rfl | omega | (simp only [decide_eq_false_iff_not,decide_eq_true_eq,Int.not_lt,Nat.not_lt,gt_iff_lt] at * <;> omega))) ?_;(with_reducible refine (bR.calls k a0 a1 false _ A3.out).mono ?_);rintro e w16 ⟨rfl,hb⟩;refine ⟨_,rfl,?_⟩;have dZ:=aj.mk (bE (by repeat (first | (with_reducible first | exact HB.out | apply ak | apply ah | apply au) | exact HB.out)) hb);clear HB;have HB:=dZ;clear dZ;(try clear hb);(try clear hb2);(try clear hk);(try clear hi)))
    go_ret
    exact ⟨_,by first | rfl | (simp [aJ,aK] <;> rfl) | (simp [*,aJ,aK] <;> rfl),by first | exact Kd.jE _ _ _ _ _ | exact Kd.kY _ _ _ _ _ | exact Kd.kZ _ _ _ _ _ | exact Kd.kW _ _ _ _ _ | exact Kd.kX _ _ _ _ _,by repeat (first | (with_reducible first | exact HB.out | apply ak | apply ah | apply au) | exact HB.out)⟩
def bI.l0 : Nat → ByteArray → List ByteArray → ByteArray → Int → Int → Option (ByteArray)
  | 0,_,_,_,_,_=>none
  | k + 1,x1,x5,x7,x8,x9=>if x9 < (x5.length:Int) then (if 0 ≤ x9 then ((fA.f k (pz ByteArray.empty x5 x9)).bind fun zK=>(if x7.size + zK.size ≤ 9223372036854775807 then (bI.l0 k x1 x5 (x7 ++ zK) (wrap64 (x8 + ((pz ByteArray.empty x5 x9).size:Int))) (wrap64 (x9 + 1))) else (none))) else (none)) else (if 0 ≤ x8 then (if x8 ≤ (x1.size:Int) then (if x7.size + (x1.extract (x8:Int).toNat x1.size).size ≤ 9223372036854775807 then (some (x7 ++ (x1.extract (x8:Int).toNat x1.size))) else (none)) else (none)) else (none))
def bI.f (k:Nat) (a0:Int) (a1:ByteArray):Option (ByteArray):=(bR.f k a0 a1).bind fun t183=>(if t183 = true then ((bg.f k a0 a1).bind fun mG=>((aH.f k a0).bind fun jd=>(if 0 ≤ jd.1 then (if jd.1 ≤ (a1.size:Int) then (bI.l0 k a1 mG (a1.extract 0 (jd.1:Int).toNat) jd.1 0) else (none)) else (none)))) else (some (⟨#[]⟩:ByteArray)))
set_option maxHeartbeats 8000000 in
set_option maxRecDepth 100000 in
theorem bI.calls (k:Nat) (a0:Int) (a1:ByteArray) (r:ByteArray) (w:World) (h:bI.f k a0 a1 = some r) :
    Calls Try.prog 84 #[.int .i64 a0,.string a1] w fun e w'=>e = .returned (.string r) ∧ Below w.heap.size w w':=by
  have M0:=Try.underlying142
  have HB:=aj.mk (Below.refl w.heap.size w)
  have H:((bR.f k a0 a1).bind fun t183=>(if t183 = true then ((bg.f k a0 a1).bind fun mG=>((aH.f k a0).bind fun jd=>(if 0 ≤ jd.1 then (if jd.1 ≤ (a1.size:Int) then (bI.l0 k a1 mG (a1.extract 0 (jd.1:Int).toNat) jd.1 0) else (none)) else (none)))) else (some (⟨#[]⟩:ByteArray)))) = some r:=h
  clear h
  replace H:=zbm H
  obtain ⟨t183,Sd,H⟩:=H
  replace H:(if t183 = true then ((bg.f k a0 a1).bind fun mG=>((aH.f k a0).bind fun jd=>(if 0 ≤ jd.1 then (if jd.1 ≤ (a1.size:Int) then (bI.l0 k a1 mG (a1.extract 0 (jd.1:Int).toNat) jd.1 0) else (none)) else (none)))) else (some (⟨#[]⟩:ByteArray))) = some r:=H
  have A3:=aj.mk Sd
  clear Sd
  by_cases c4:t183 = true
  · subst c4
    have H1:((bg.f k a0 a1).bind fun mG=>((aH.f k a0).bind fun jd=>(if 0 ≤ jd.1 then (if jd.1 ≤ (a1.size:Int) then (bI.l0 k a1 mG (a1.extract 0 (jd.1:Int).toNat) jd.1 0) else (none)) else (none)))) = some r:=by rw [if_pos rfl] at H;exact H
    clear H
    have H:=H1
    clear H1
    replace H:=zbm H
    obtain ⟨mG,Sn,H⟩:=H
    replace H:((aH.f k a0).bind fun jd=>(if 0 ≤ jd.1 then (if jd.1 ≤ (a1.size:Int) then (bI.l0 k a1 mG (a1.extract 0 (jd.1:Int).toNat) jd.1 0) else (none)) else (none))) = some r:=H
    have A5:=aj.mk Sn
    clear Sn
    replace H:=zbm H
    obtain ⟨⟨qL,Nf,QN⟩,A60,H⟩:=H
    replace H:(if 0 ≤ qL then (if qL ≤ (a1.size:Int) then (bI.l0 k a1 mG (a1.extract 0 (qL:Int).toNat) qL 0) else (none)) else (none)) = some r:=H
    have A6:=aj.mk A60
    clear A60
    by_cases c7:0 ≤ qL
    · rw [if_pos c7] at H
      have uo:=eq_true c7
      have JH:decide (0 ≤ qL) = true:=decide_eq_true c7
      clear c7
      by_cases c8:qL ≤ (a1.size:Int)
      · rw [if_pos c8] at H
        have rR:=eq_true c8
        have rT:decide (qL ≤ (a1.size:Int)) = true:=decide_eq_true c8
        clear c8
        have H':=aj.mk H
        clear H
        go_enter Try.func84,Try.ntmps84
        go_wp2_with (first | ((with_reducible refine aQ (f:=83) rfl ?_);refine bP (some 12) rfl rfl Try.func83 (by kernel_rfl) rfl #[.int .i64 a0,.string a1] rfl (by (try simp only [List.map_toArray,List.map_cons,List.map_nil]);first | done | rfl | (simp only [List.length_drop,List.length_take];rfl) | (simp only [ByteArray.size_append,Int.natCast_add];rfl) | (rw [B.dO] <;> first | rfl | omega | (simp only [decide_eq_false_iff_not,decide_eq_true_eq,Int.not_lt,Nat.not_lt,gt_iff_lt] at * <;> omega))) ?_;(with_reducible refine (bR.calls k a0 a1 true _ A3.out).mono ?_);rintro e w9 ⟨rfl,hb⟩;refine ⟨_,rfl,?_⟩;have dZ:=aj.mk (bE (by repeat (first | (with_reducible first | exact HB.out | apply ak | apply ah | apply au) | exact HB.out)) hb);clear HB;have HB:=dZ;clear dZ;(try clear hb);(try clear hb2);(try clear hk);(try clear hi)) | ((with_reducible refine aQ (f:=105) rfl ?_);refine bP (some 16) rfl rfl Try.func105 (by kernel_rfl) rfl #[.int .i64 a0,.string a1] rfl (by (try simp only [List.map_toArray,List.map_cons,List.map_nil]);first | done | rfl | (simp only [List.length_drop,List.length_take];rfl) | (simp only [ByteArray.size_append,Int.natCast_add];rfl) | (rw [B.dO] <;> first | rfl | omega | (simp only [decide_eq_false_iff_not,decide_eq_true_eq,Int.not_lt,Nat.not_lt,gt_iff_lt] at * <;> omega))) ?_;(with_reducible refine (bg.calls k a0 a1 mG _ A5.out).mono ?_);rintro e w10 ⟨ae5,rfl,ho0,hb⟩;refine ⟨_,rfl,?_⟩;have dZ:=aj.mk (Kd.tL ho0 (bL (by repeat (first | (with_reducible first | exact HB.out | apply ak | apply ah | apply au) | exact HB.out))));have gW:=aj.mk (bE (by repeat (first | (with_reducible first | exact HB.out | apply ak | apply ah | apply au) | exact HB.out)) hb);clear HB;have yZ:=dZ;have HB:=gW;clear dZ gW;(try clear hb);(try clear hb2);(try clear hk);(try clear hi);(try clear ho0)) | ((with_reducible refine aQ (f:=106) rfl ?_);refine bP (some 18) rfl rfl Try.func106 (by kernel_rfl) rfl #[.int .i64 a0] rfl (by (try simp only [List.map_toArray,List.map_cons,List.map_nil]);first | done | rfl | (simp only [List.length_drop,List.length_take];rfl) | (simp only [ByteArray.size_append,Int.natCast_add];rfl) | (rw [B.dO] <;> first | rfl | omega | (simp only [decide_eq_false_iff_not,decide_eq_true_eq,Int.not_lt,Nat.not_lt,gt_iff_lt] at * <;> omega))) ?_;(with_reducible refine (aH.calls k a0 qL Nf QN _ A6.out).mono ?_);rintro e Vl ⟨rfl,hb⟩;refine ⟨_,rfl,?_⟩;have dZ:=aj.mk (Kd.ko (by (with_reducible repeat (first | apply Kd.eY | apply Kd.fH | apply Kd.fT));exact yZ.out) hb);have gW:=aj.mk (bE (by repeat (first | (with_reducible first | exact HB.out | apply ak | apply ah | apply au) | exact HB.out)) hb);clear yZ;clear HB;have yZ:=dZ;have HB:=gW;clear dZ gW;(try clear hb);(try clear hb2);(try clear hk);(try clear hi)) | ((with_reducible refine gH (N:=6) rfl ?_);refine fP ?hg (N:=6) ?hd (cs:=#[.int .i64 0,.int .i64 0,.int .i64 0]) (t:=142) ?hr ?_;(case hd=>rfl);(case hg=>rfl);(case hr=>first | (go_simp;done) | (go_simp;rfl));intro q9 hg w12 gT hb;have dZ:=aj.mk (Kd.ko (by (with_reducible repeat (first | apply Kd.eY | apply Kd.fH | apply Kd.fT));exact yZ.out) hb);have gW:=aj.mk (bE (by repeat (first | (with_reducible first | exact HB.out | apply ak | apply ah | apply au) | exact HB.out)) hb);have jf:=aj.mk (gT);have jK:=aj.mk ((by rw [hg];exact (bL (by repeat (first | (with_reducible first | exact HB.out | apply ak | apply ah | apply au) | exact HB.out))):w.heap.size ≤ q9));have qK:=aj.mk ((by rw [hg];exact (bL (by repeat (first | (with_reducible first | exact HB.out | apply ak | apply ah | apply au) | exact HB.out))):w.heap.size ≤ q9));clear yZ;clear HB;have yZ:=dZ;have HB:=gW;have nN:=jf;have ag7:=jK;have Iu:=qK;clear dZ gW jf jK qK;clear hb gT hg;have Cm:w12.cell? ⟨q9,0,none⟩ = some (.int .i64 0):=(aM nN.out 0).trans rfl;have Cn:w12.cell? ⟨q9,1,none⟩ = some (.int .i64 0):=(aM nN.out 1).trans rfl;have Co:w12.cell? ⟨q9,2,none⟩ = some (.int .i64 0):=(aM nN.out 2).trans rfl;have Cq:=ay nN.out 0;have Cr:=ay nN.out 1;have Ct:=ay nN.out 2))
        go_loopg [7,8,9] k (fun kq v7 v8 v9 w'=>∃ (dJ:ByteArray) (gI:Int) (iJ:Int),v7 = .string dJ ∧ v8 = .int .i64 gI ∧ v9 = .int .i64 iJ ∧ aj (bI.l0 kq a1 mG dJ gI iJ = some r) ∧ aj (kq ≤ k) ∧ aj (Kd.R Kd.string 9 w' w.heap.size (fun _=>True) ae5 mG) ∧ aj (w'.heap[q9]? = some (.cells #[.int .i64 qL,.int .i64 Nf,.int .i64 QN] 142 (0,0))) ∧ aj (Below w.heap.size w w'))
        case atStart=>exact ⟨(a1.extract 0 (qL:Int).toNat),(qL),(0),(by first | rfl | (simp;done) | (simp [*];done) | (simp [B.aV];done) | (simp [B.aW];done)),(by first | rfl | (simp;done) | (simp [*];done) | (simp [B.aV];done) | (simp [B.aW];done)),(by first | rfl | (simp;done) | (simp [*];done) | (simp [B.aV];done) | (simp [B.aW];done)),H',⟨Nat.le_refl _⟩,⟨by (with_reducible repeat (first | apply Kd.eY | apply Kd.fH | apply Kd.fT));exact Kd.pF (Kd.tN (p:=⟨q9,2,none⟩) (Kd.tN (p:=⟨q9,1,none⟩) (Kd.tN (p:=⟨q9,0,none⟩) (Kd.tO yZ.out nN.out (by decide)) (fun _ hk=>hk.2) (.int .i64 qL)) (fun _ hk=>hk.2) (.int .i64 Nf)) (fun _ hk=>hk.2) (.int .i64 QN)) (fun _ hk=>trivial)⟩,⟨by (with_reducible repeat (first | refine aG ?_ _ | refine aI ?_ | refine aA ?_ _));refine bU (cs:=#[.int .i64 qL,.int .i64 Nf,.int .i64 0]) ?_ 2 _ rfl;(with_reducible repeat (first | refine aG ?_ _ | refine aI ?_ | refine aA ?_ _));refine bU (cs:=#[.int .i64 qL,.int .i64 0,.int .i64 0]) ?_ 1 _ rfl;(with_reducible repeat (first | refine aG ?_ _ | refine aI ?_ | refine aA ?_ _));refine bU (cs:=#[.int .i64 0,.int .i64 0,.int .i64 0]) ?_ 0 _ rfl;(with_reducible repeat (first | refine aG ?_ _ | refine aI ?_ | refine aA ?_ _));exact nN.out⟩,⟨by repeat (first | (with_reducible first | exact HB.out | apply ak | apply ah | apply au | refine aR ?_ Iu.out) | exact HB.out)⟩⟩
        case round =>
          clear H'
          try clear c1
          try clear p2
          try clear c4
          try clear c7
          try clear uo
          try clear JH
          try clear c8
          try clear rR
          try clear rT
          try clear c10
          try clear Cm
          try clear Cn
          try clear Co
          try clear Cq
          try clear Cr
          try clear Ct
          obtain ⟨dJ,gI,iJ,rfl,rfl,rfl,HA,tY,vB,nN,HB⟩:=hrel
          cases gk with
          | zero=>exact absurd HA.out (by simp [bI.l0])
          | succ k1 =>
            have H:=HA.out
            clear HA
            simp only [bI.l0] at H
            by_cases c14:iJ < (mG.length:Int)
            · rw [if_pos c14] at H
              have Au:decide (iJ < (mG.length:Int)) = true:=decide_eq_true c14
              clear c14
              by_cases c15:0 ≤ iJ
              · rw [if_pos c15] at H
                have Zl:decide (0 ≤ iJ) = true:=decide_eq_true c15
                clear c15
                replace H:=zbm H
                obtain ⟨zK,aaL,H⟩:=H
                replace H:(if dJ.size + zK.size ≤ 9223372036854775807 then (bI.l0 k1 a1 mG (dJ ++ zK) (wrap64 (gI + ((pz ByteArray.empty mG iJ).size:Int))) (wrap64 (iJ + 1))) else (none)) = some r:=H
                have A16:=aj.mk aaL
                clear aaL
                by_cases c17:dJ.size + zK.size ≤ 9223372036854775807
                · rw [if_pos c17] at H
                  have Sk:=eq_true c17
                  have ag8:decide (dJ.size + zK.size ≤ 9223372036854775807) = true:=decide_eq_true c17
                  try have ag9:(9223372036854775807 < dJ.size + zK.size) = False:=eq_false (Nat.not_lt.2 c17)
                  have H':=aj.mk H
                  clear H
                  obtain ⟨ahu,ahv,ae6⟩:=Kd.wN vB.out
                  subst ae6
                  have Vs:0 ≤ (iJ:Int):=of_decide_eq_true (by first | (with_reducible assumption) | assumption)
                  have Vt:iJ < (mG.length:Int):=of_decide_eq_true (by first | (with_reducible assumption) | assumption)
                  obtain ⟨aaM,ae7,adu⟩:=Kd.Ai (Kd.pG vB.out).2.2 iJ Vs Vt
                  cases ae7
                  replace Vs:=eq_true Vs
                  replace Vt:=eq_true Vt
                  go_wp2_with (first | ((with_reducible refine aQ (f:=101) rfl ?_);refine bP (some 36) rfl rfl Try.func101 (by kernel_rfl) rfl #[.string (pz ByteArray.empty mG iJ)] rfl (by (try simp only [List.map_toArray,List.map_cons,List.map_nil]);first | done | rfl | (simp only [List.length_drop,List.length_take];rfl) | (simp only [ByteArray.size_append,Int.natCast_add];rfl) | (rw [B.dO] <;> first | rfl | omega | (simp only [decide_eq_false_iff_not,decide_eq_true_eq,Int.not_lt,Nat.not_lt,gt_iff_lt] at * <;> omega))) ?_;(with_reducible refine (fA.calls k1 (pz ByteArray.empty mG iJ) zK _ A16.out).mono ?_);rintro e w19 ⟨rfl,hb⟩;refine ⟨_,rfl,?_⟩;have dZ:=aj.mk (Kd.ko (by (with_reducible repeat (first | apply Kd.eY | apply Kd.fH | apply Kd.fT));exact vB.out) hb);have gW:=aj.mk (dM (g:=q9) (o:=.cells #[.int .i64 qL,.int .i64 Nf,.int .i64 QN] 142 (0,0)) (by (with_reducible repeat (first | refine aG ?_ _ | refine aI ?_ | refine aA ?_ _));exact nN.out) hb);have jf:=aj.mk (bE (by repeat (first | (with_reducible first | exact HB.out | apply ak | apply ah | apply au | refine aR ?_ Iu.out) | exact HB.out)) hb);clear vB;clear nN;clear HB;have vB:=dZ;have nN:=gW;have HB:=jf;clear dZ gW jf;(try clear hb);(try clear hb2);(try clear hk);(try clear hi);have Vu:0 ≤ (iJ:Int):=of_decide_eq_true (by first | (with_reducible assumption) | assumption);have Vv:iJ < (mG.length:Int):=of_decide_eq_true (by first | (with_reducible assumption) | assumption);obtain ⟨aaN,ae8,adv⟩:=Kd.Ai (Kd.pG vB.out).2.2 iJ Vu Vv;obtain rfl:aaM = aaN:=(by injection ae8);replace Vu:=eq_true Vu;replace Vv:=eq_true Vv))
                  go_roundg k1
                  case measure=>have:=tY.out;omega
                  case rel=>exact ⟨(dJ ++ zK),(wrap64 (gI + ((pz ByteArray.empty mG iJ).size:Int))),(wrap64 (iJ + 1)),(by first | rfl | (simp;done) | (simp [*];done) | (simp [B.aV];done) | (simp [B.aW];done)),(by first | rfl | (simp;done) | (simp [*];done) | (simp [B.aV];done) | (simp [B.aW];done)),(by first | rfl | (simp;done) | (simp [*];done) | (simp [B.aV];done) | (simp [B.aW];done)),H',⟨by have:=tY.out;omega⟩,⟨by (with_reducible repeat (first | apply Kd.eY | apply Kd.fH | apply Kd.fT));exact vB.out⟩,⟨by (with_reducible repeat (first | refine aG ?_ _ | refine aI ?_ | refine aA ?_ _));exact nN.out⟩,⟨by repeat (first | (with_reducible first | exact HB.out | apply ak | apply ah | apply au | refine aR ?_ Iu.out) | exact HB.out)⟩⟩
                · rw [if_neg c17] at H
                  exact absurd H (by simp)
              · rw [if_neg c15] at H
                exact absurd H (by simp)
            · rw [if_neg c14] at H
              have Au:decide (iJ < (mG.length:Int)) = false:=decide_eq_false c14
              clear c14
              by_cases c20:0 ≤ gI
              · rw [if_pos c20] at H
                have MV:=eq_true c20
                have ZN:decide (0 ≤ gI) = true:=decide_eq_true c20
                clear c20
                by_cases c21:gI ≤ (a1.size:Int)
                · rw [if_pos c21] at H
                  have Si:=eq_true c21
                  have Sj:decide (gI ≤ (a1.size:Int)) = true:=decide_eq_true c21
                  clear c21
                  by_cases EN:dJ.size + (a1.extract (gI:Int).toNat a1.size).size ≤ 9223372036854775807
                  · rw [if_pos EN] at H
                    have Na:=eq_true EN
                    have Nb:decide (dJ.size + (a1.extract (gI:Int).toNat a1.size).size ≤ 9223372036854775807) = true:=decide_eq_true EN
                    try have aha:(9223372036854775807 < dJ.size + (a1.extract (gI:Int).toNat a1.size).size) = False:=eq_false (Nat.not_lt.2 EN)
                    obtain rfl:=Option.some.inj H
                    obtain ⟨ahw,ahx,ae9⟩:=Kd.wN vB.out
                    subst ae9
                    go_wp2
                    go_ret
                    exact ⟨by first | rfl | (simp [aJ,aK] <;> rfl) | (simp [*,aJ,aK] <;> rfl),by repeat (first | (with_reducible first | exact HB.out | apply ak | apply ah | apply au | refine aR ?_ Iu.out) | exact HB.out)⟩
                  · rw [if_neg EN] at H
                    exact absurd H (by simp)
                · rw [if_neg c21] at H
                  exact absurd H (by simp)
              · rw [if_neg c20] at H
                exact absurd H (by simp)
      · rw [if_neg c8] at H
        exact absurd H (by simp)
    · rw [if_neg c7] at H
      exact absurd H (by simp)
  · replace c4:=Bool.eq_false_iff.mpr c4
    subst c4
    have H1:(some (⟨#[]⟩:ByteArray)) = some r:=by rw [if_neg (show ¬ (false = true) by decide)] at H;exact H
    clear H
    have H:=H1
    clear H1
    obtain rfl:=Option.some.inj H
    go_enter Try.func84,Try.ntmps84
    go_wp2_with (first | ((with_reducible refine aQ (f:=83) rfl ?_);refine bP (some 12) rfl rfl Try.func83 (by kernel_rfl) rfl #[.int .i64 a0,.string a1] rfl (by (try simp only [List.map_toArray,List.map_cons,List.map_nil]);first | done | rfl | (simp only [List.length_drop,List.length_take];rfl) | (simp only [ByteArray.size_append,Int.natCast_add];rfl) | (rw [B.dO] <;> first | rfl | omega | (simp only [decide_eq_false_iff_not,decide_eq_true_eq,Int.not_lt,Nat.not_lt,gt_iff_lt] at * <;> omega))) ?_;(with_reducible refine (bR.calls k a0 a1 false _ A3.out).mono ?_);rintro e w24 ⟨rfl,hb⟩;refine ⟨_,rfl,?_⟩;have dZ:=aj.mk (bE (by repeat (first | (with_reducible first | exact HB.out | apply ak | apply ah | apply au) | exact HB.out)) hb);clear HB;have HB:=dZ;clear dZ;(try clear hb);(try clear hb2);(try clear hk);(try clear hi)))
    go_ret
    exact ⟨by first | rfl | (simp [aJ,aK] <;> rfl) | (simp [*,aJ,aK] <;> rfl),by repeat (first | (with_reducible first | exact HB.out | apply ak | apply ah | apply au) | exact HB.out)⟩
end Go.Proofs.Ytdkkgecdhapfhaa.ZQ
namespace Go.Proofs.Ytdkkgecdhapfhaa.ZQ
open Go.RowKit Go.Proofs.YtdkkgecdhapfhaaW.bD Go.Proofs.YtdkkgecdhapfhaaW.dW Go.Proofs.YtdkkgecdhapfhaaW.eH Go.Proofs.Ytdkkgecdhapfhaa.B
def vT (msg:ByteArray) (i:Int):ByteArray × Int × Int:=(bF.f (rounds i) msg i).getD (⟨#[]⟩,0,0)
theorem Sv (msg:ByteArray) (i:Int) (hm:msg.size ≤ 100000):bF.f (rounds i) msg i = some (vT msg i):=by
  obtain ⟨R,h1,_⟩:=Aw (rounds i) msg i hm (Nat.le_refl _)
  unfold vT;rw [h1];rfl
theorem Sw (k:Nat) (msg:ByteArray) (i:Int) (hm:msg.size ≤ 100000) (hk:rounds i ≤ k):bF.f k msg i = some (vT msg i):=Es hk (Sv msg i hm)
theorem vC (k:Nat) (msg:ByteArray) (i:Int) (hm:msg.size ≤ 100000) (hk:rounds i ≤ k):aU.f k msg i = some (vT msg i):=by
  obtain ⟨R,h1,h2⟩:=Aw k msg i hm hk
  rw [Sw k msg i hm hk] at h1
  rw [h2,h1]
theorem uy (msg:ByteArray) (i:Int) (hm:msg.size ≤ 100000) :
    ((vT msg i).2.2 = 0 ∧ jJ (vT msg i).1 = true ∧ 0 ≤ i ∧ i < (vT msg i).2.1 ∧ (vT msg i).2.1 ≤ (msg.size:Int)) ∨ (((vT msg i).2.2 = 2 ∨ (vT msg i).2.2 = 3) ∧ (vT msg i).1 = ⟨#[]⟩ ∧ (vT msg i).2.1 = 0):=F8 hm (Sv msg i hm)
def ED (msg:ByteArray) (e:Int):Nat → Int → List ByteArray → Option (List ByteArray × Int)
  | 0,i,l=>some (l,i)
  | n + 1,i,l=>if (vT msg i).2.2 = 0 then (if (vT msg i).2.1 > e then none else ED msg e n (vT msg i).2.1 (l ++ [(vT msg i).1])) else none
theorem qz (msg:ByteArray) (e:Int) (hm:msg.size ≤ 100000):∀ (n:Nat) (i:Int) (l:List ByteArray) (R:List ByteArray × Int),ED msg e n i l = some R → i ≤ e → i ≤ R.2 ∧ R.2 ≤ e ∧ R.1.length = l.length + n ∧ (∃ l',R.1 = l ++ l' ∧ ∀ x ∈ l',jJ x = true)
  | 0,i,l,R,h,hi=>by cases h;exact ⟨Int.le_refl _,hi,rfl,[],by simp,by simp⟩
  | n + 1,i,l,R,h,hi=>by
    rw [ED] at h
    by_cases h0:(vT msg i).2.2 = 0
    · rw [if_pos h0] at h
      by_cases h1:(vT msg i).2.1 > e
      · rw [if_pos h1] at h;cases h
      · rw [if_neg h1] at h
        obtain ⟨a1,a2,a3,l',a4,a5⟩:=qz msg e hm n _ _ R h (by omega)
        rcases uy msg i hm with ⟨_,b2,_,b4,_⟩ | ⟨b1,_⟩
        · refine ⟨by omega,a2,by rw [a3,List.length_append,List.length_singleton];omega,(vT msg i).1 :: l',by rw [a4];simp,?_⟩
          intro x hx
          rcases List.mem_cons.mp hx with rfl | hx
          · exact b2
          · exact a5 x hx
        · omega
    · rw [if_neg h0] at h;cases h
def K0 : Nat:=101000
theorem qA {msg:ByteArray} {i:Int} {k:Nat} (hm:msg.size ≤ 100000) (hi:i ≤ (msg.size:Int)) (hk:K0 ≤ k):rounds i ≤ k:=by unfold rounds;unfold K0 at hk;omega
theorem CB (msg:ByteArray) (e s0 s1 s2:Int) (a b:ByteArray) (hm:msg.size ≤ 100000) (he:e ≤ (msg.size:Int)) (h2:0 ≤ s2 ∧ s2 ≤ 1000) (c:Int) (hc:c ≤ 100):∀ (n k:Nat) (i x:Int) (l:List ByteArray),K0 + n ≤ k → x + n = c → 0 ≤ x → 0 ≤ i → i ≤ e → l.length + n ≤ 1000 →
    bV.l0 (k + 1) msg i e c x s0 s1 s2 a b l = (match ED msg e n i l with
      | some R=>some (a,msg.extract R.2.toNat e.toNat,R.1,(((msg.extract R.2.toNat e.toNat).size:Int) == s2))
      | none=>some (⟨#[]⟩,⟨#[]⟩,[],false))
  | 0,k,i,x,l,hk,hx,hx0,hi,hie,hl=>by
    rw [bV.l0,if_neg (by omega),if_pos hi,if_pos hie,if_pos he,ED]
  | n + 1,k,i,x,l,hk,hx,hx0,hi,hie,hl=>by
    obtain ⟨k,rfl⟩:∃ m,k = m + 1:=⟨k - 1,by omega⟩
    rw [bV.l0,if_pos (by omega),Sw (k + 1) msg i hm (qA hm (by omega) (by omega)),ED]
    simp only [Option.bind_some]
    by_cases h0:(vT msg i).2.2 = 0
    · rw [if_pos h0,if_pos h0]
      by_cases h1:(vT msg i).2.1 > e
      · rw [if_pos h1,if_pos h1]
      · rcases uy msg i hm with ⟨_,_,_,b4,_⟩ | ⟨b1,_⟩
        · rw [if_neg h1,if_neg h1,if_pos (by omega),dO (by omega) (by omega)]
          exact CB msg e s0 s1 s2 a b hm he h2 c hc n k _ (x + 1) _ (by omega) (by omega) (by omega) (by omega) (by omega) (by rw [List.length_append,List.length_singleton];omega)
        · omega
    · rw [if_neg h0,if_neg h0]
def Ng (s:ByteArray):Nat → Int → Bool
  | 0,_=>false
  | k + 1,i=>if i < (s.size:Int) then Ng s k (i + 1 + bt s i) else decide (i = s.size)
def Gb (s:ByteArray):Bool:=decide (0 < s.size) && Ng s (s.size + 1) 0
theorem Vw (s:ByteArray) {k:Nat} {i:Int} (h:(s.size:Int) < i):Ng s k i = false:=by
  cases k with
  | zero=>rfl
  | succ k=>rw [Ng,if_neg (by omega)];simp;omega
theorem Nh (s:ByteArray) (hs:s.size ≤ 100000) (d:Nat):∀ (k m:Nat) (i:Int),0 ≤ i → i ≤ (s.size:Int) → s.size - i.toNat ≤ d → d + 1 ≤ k → d + 1 ≤ m → dK.l0 k (s.extract i.toNat s.size) = some (Ng s m i):=by
  induction d with
  | zero =>
    intro k m i h0 h1 h2 hk hm
    obtain ⟨k,rfl⟩:∃ j,k = j + 1:=⟨k - 1,by omega⟩
    obtain ⟨m,rfl⟩:∃ j,m = j + 1:=⟨m - 1,by omega⟩
    rw [dK.l0,if_pos (toList_nil.mpr (by rw [ByteArray.size_extract];omega)),Ng,if_neg (by omega),decide_eq_true (by omega)]
  | succ d ih =>
    intro k m i h0 h1 h2 hk hm
    obtain ⟨k,rfl⟩:∃ j,k = j + 1:=⟨k - 1,by omega⟩
    obtain ⟨m,rfl⟩:∃ j,m = j + 1:=⟨m - 1,by omega⟩
    have hz:(s.extract i.toNat s.size).size = s.size - i.toNat:=by rw [ByteArray.size_extract];omega
    by_cases hi:i < (s.size:Int)
    · have hb:bt (s.extract i.toNat s.size) 0 = bt s i:=by
        rw [mh (by omega) (by omega)];congr 1;omega
      have hr:=gy s i
      rw [dK.l0,if_neg (by rw [toList_nil];omega),if_pos (by omega),hb,dO (n:=bt s i) (by omega) (by omega),dO (n:=1 + bt s i) (by omega) (by omega),Ng,if_pos hi]
      by_cases h3:1 + bt s i > ((s.extract i.toNat s.size).size:Int)
      · rw [if_pos h3,Vw s (by omega)]
      · rw [if_neg h3,if_pos (by omega),if_pos (by omega)]
        have e:(s.extract i.toNat s.size).extract (1 + bt s i).toNat (s.extract i.toNat s.size).size = s.extract (i + 1 + bt s i).toNat s.size:=by
          rw [ByteArray.extract_extract,hz]
          congr 1 <;> omega
        rw [e]
        exact ih k m _ (by omega) (by omega) (by omega) (by omega) (by omega)
    · rw [dK.l0,if_pos (toList_nil.mpr (by omega)),Ng,if_neg hi,decide_eq_true (by omega)]
theorem Ni (k:Nat) (hk:K0 ≤ k) (s:ByteArray) (hs:s.size ≤ 100000):dK.f k s = some (Gb s):=by
  unfold dK.f Gb
  by_cases h:s.toList = ([]:List UInt8)
  · rw [if_pos h];rw [toList_nil] at h;rw [h];rfl
  · rw [if_neg h]
    rw [toList_nil] at h
    unfold K0 at hk
    have:=Nh s hs s.size k (s.size + 1) 0 (by omega) (by omega) (by omega) (by omega) (by omega)
    rw [show (0:Int).toNat = 0 from rfl,ByteArray.extract_zero_size] at this
    rw [this,decide_eq_true (by omega),Bool.true_and]
theorem CG (s:ByteArray) (hs:s.size ≤ 100000) (d:Nat):∀ (k m:Nat) (i:Int),0 ≤ i → (i:Int) ≤ s.size + 300 → 0 < i ∨ 0 < s.size → s.size - i.toNat ≤ d → d + 1 ≤ k → d + 1 ≤ m → bq.l0 k s i = some (Ng s m i):=by
  induction d with
  | zero =>
    intro k m i h0 h1 hp h2 hk hm
    obtain ⟨k,rfl⟩:∃ j,k = j + 1:=⟨k - 1,by omega⟩
    obtain ⟨m,rfl⟩:∃ j,m = j + 1:=⟨m - 1,by omega⟩
    have hlt:¬ i < (s.size:Int):=by omega
    rw [bq.l0,if_neg hlt,Ng,if_neg hlt]
    by_cases h:i = (s.size:Int)
    · rw [if_pos h,decide_eq_true (by omega),decide_eq_true h]
    · rw [if_neg h,decide_eq_false h]
  | succ d ih =>
    intro k m i h0 h1 hp h2 hk hm
    obtain ⟨k,rfl⟩:∃ j,k = j + 1:=⟨k - 1,by omega⟩
    obtain ⟨m,rfl⟩:∃ j,m = j + 1:=⟨m - 1,by omega⟩
    have hr:=gy s i
    rw [bq.l0,Ng]
    by_cases hi:i < (s.size:Int)
    · rw [if_pos hi,if_pos hi,if_pos h0,dO (n:=bt s i) (by omega) (by omega),dO (n:=i + 1) (by omega) (by omega),dO (by omega) (by omega)]
      exact ih k m _ (by omega) (by omega) (by omega) (by omega) (by omega) (by omega)
    · rw [if_neg hi,if_neg hi]
      by_cases h:i = (s.size:Int)
      · rw [if_pos h,decide_eq_true (by omega),decide_eq_true h]
      · rw [if_neg h,decide_eq_false h]
theorem CJ (k:Nat) (hk:K0 ≤ k) (s:ByteArray) (hs:s.size ≤ 100000):bq.f k s = some (Gb s):=by
  unfold bq.f Gb
  unfold K0 at hk
  by_cases h:0 < s.size
  · rw [CG s hs s.size k (s.size + 1) 0 (by omega) (by omega) (by omega) (by omega) (by omega) (by omega),decide_eq_true h,Bool.true_and]
  · obtain ⟨k,rfl⟩:∃ j,k = j + 1:=⟨k - 1,by omega⟩
    rw [bq.l0,if_neg (by omega),if_pos (by omega),decide_eq_false h];rfl
end Go.Proofs.Ytdkkgecdhapfhaa.ZQ
namespace Go.Proofs.Ytdkkgecdhapfhaa.ZQ
open Go.RowKit Go.Proofs.YtdkkgecdhapfhaaW.bD Go.Proofs.YtdkkgecdhapfhaaW.dW Go.Proofs.YtdkkgecdhapfhaaW.eH Go.Proofs.Ytdkkgecdhapfhaa.B
theorem Gc (l m:List ByteArray):strings_Join.cat (l ++ m) = strings_Join.cat l ++ strings_Join.cat m:=by
  induction l with
  | nil=>exact (empty_append _).symm
  | cons x l ih=>rw [List.cons_append,strings_Join.cat,ih,strings_Join.cat,ByteArray.append_assoc]
theorem QO (x:ByteArray):strings_Join.cat [x] = x:=append_empty x
theorem pU {n:ByteArray} (h:jJ n = true):n.size ≤ 255:=by
  obtain ⟨l,_,_,hz⟩:=Hg.mp h;exact hz
theorem uz : ∀ {l:List ByteArray},(∀ x ∈ l,jJ x = true) → (strings_Join.cat l).size ≤ 255 * l.length
  | [],_=>Nat.zero_le _
  | x :: l,h=>by
    have h1:=pU (h x (by simp))
    have h2:=uz (l:=l) (fun y hy=>h y (by simp [hy]))
    rw [strings_Join.cat,ByteArray.size_append,List.length_cons]
    omega
def y5 (d:ByteArray):ByteArray × Int:=if (d.size:Int) > 65535 then (⟨#[]⟩,4) else (d,0)
theorem vD (d:ByteArray):(if (d.size:Int) > 65535 then some ((⟨#[]⟩:ByteArray),(4:Int)) else some (d,0)) = some (y5 d):=by
  unfold y5;split <;> rfl
def JR (msg:ByteArray) (i size:Int) (s:Int × Int × Int):ByteArray × Int :=
  if s.1 ≤ size then (match ED msg (i + size) s.2.1.toNat (i + s.1) [] with
    | some R=>if R.2 + s.2.2 = i + size then y5 (msg.extract i.toNat (i + s.1).toNat ++ strings_Join.cat R.1 ++ msg.extract R.2.toNat (i + size).toNat) else (⟨#[]⟩,4)
    | none=>(⟨#[]⟩,4)) else (⟨#[]⟩,4)
def zL (msg:ByteArray) (i size kind:Int):ByteArray × Int :=
  if gQ msg i size then (match aD.yX kind with
    | some s=>JR msg i size s
    | none=>if kind = 16 then (if Gb (msg.extract i.toNat (i + size).toNat) = true then y5 (msg.extract i.toNat (i + size).toNat) else (⟨#[]⟩,4)) else y5 (msg.extract i.toNat (i + size).toNat))
  else (⟨#[]⟩,2)
theorem kS {kind:Int} {s:Int × Int × Int} (h:aD.yX kind = some s):0 ≤ s.1 ∧ s.1 ≤ 16 ∧ 0 ≤ s.2.1 ∧ s.2.1 ≤ 2 ∧ 0 ≤ s.2.2 ∧ s.2.2 ≤ 20 ∧ kind ≠ 16 ∧ (s.1 = 0 → s.2.1 = 0 → False):=by
  unfold aD.yX at h
  repeat' split at h
  all_goals (first | (cases h;subst_vars;decide) | cases h)
theorem Vx (k:Nat) (hk:K0 ≤ k) (kind:Int) (hkind:kind ≠ 16) (d:ByteArray):aD.fin k kind d true = some (y5 d):=by
  unfold aD.fin
  rw [if_pos rfl,if_neg hkind,vD]
theorem vE (k:Nat) (kind:Int) (d:ByteArray):aD.fin k kind d false = some (⟨#[]⟩,4):=by
  unfold aD.fin;rw [if_neg Bool.false_ne_true]
theorem AJ (msg:ByteArray) (i size kind:Int) (k:Nat) (hk:K0 ≤ k) (hm:msg.size ≤ 100000) (f:ByteArray → Option Bool) (hf:∀ s,s.size ≤ 100000 → f s = some (Gb s)) (t:ByteArray) (ht:t.size ≤ 100000) :
    (if kind = 16 then ((f t).bind fun b=>if b = true then (if (t.size:Int) > 65535 then some ((⟨#[]⟩:ByteArray),(4:Int)) else some (t,0)) else some (⟨#[]⟩,4)) else (if (t.size:Int) > 65535 then some (⟨#[]⟩,4) else some (t,0))) =
      some (if kind = 16 then (if Gb t = true then y5 t else (⟨#[]⟩,4)) else y5 t):=by
  rw [hf t ht,vD]
  simp only [Option.bind_some]
  split
  · split <;> rfl
  · rfl
theorem JU (k:Nat) (hk:K0 + 10 ≤ k) (msg:ByteArray) (i size kind:Int) (hm:msg.size ≤ 100000) (ht:gQ msg i size) (s:Int × Int × Int) (hs:aD.yX kind = some s):aD.g k msg i size kind s = some (JR msg i size s):=by
  obtain ⟨h0,h1,h2⟩:=ht
  obtain ⟨a1,a2,a3,a4,a5,a6,a7,a8⟩:=kS hs
  obtain ⟨s0,s1,s2⟩:=s
  simp only at a1 a2 a3 a4 a5 a6 a8
  have e1:wrap64 (i + size) = i + size:=dO (by omega) (by omega)
  have e2:wrap64 (i + size - i) = size:=by rw [dO (by omega) (by omega)];omega
  have e3:wrap64 (i + s0) = i + s0:=dO (by omega) (by omega)
  unfold aD.g bV.f JR
  simp only [e1,e2,e3]
  by_cases c:s0 ≤ size
  · rw [if_pos c,if_pos c,if_pos h0,if_pos (by omega),if_pos (by omega)]
    obtain ⟨k,rfl⟩:∃ j,k = j + 1:=⟨k - 1,by omega⟩
    rw [CB msg (i + size) s0 s1 s2 _ _ hm h2 ⟨a5,by omega⟩ s1 (by omega) s1.toNat k (i + s0) 0 [] (by omega) (by omega) (Int.le_refl _) (by omega) (by omega) (by simp only [List.length_nil];omega)]
    have hz:(msg.extract i.toNat (i + s0).toNat).size ≤ 16:=by rw [ByteArray.size_extract];omega
    cases hr:ED msg (i + size) s1.toNat (i + s0) [] with
    | none =>
      simp only [Option.bind_some]
      rw [if_pos (by decide),if_pos (by decide),vE]
    | some R =>
      obtain ⟨b1,b2,b3,l',b4,b5⟩:=qz msg _ hm _ _ _ R hr (by omega)
      have hcz:=uz b5
      rw [List.nil_append] at b4
      rw [← b4] at hcz
      rw [List.length_nil,Nat.zero_add] at b3
      have hbz:(msg.extract R.2.toNat (i + size).toNat).size = (i + size - R.2).toNat:=by rw [ByteArray.size_extract];omega
      simp only [Option.bind_some]
      rw [if_pos (by omega),if_pos (by omega)]
      by_cases d:R.2 + s2 = i + size
      · rw [if_pos d,show (((msg.extract R.2.toNat (i + size).toNat).size:Int) == s2) = true from beq_iff_eq.mpr (by omega),Vx k.succ (by omega) kind a7]
      · rw [if_neg d,show (((msg.extract R.2.toNat (i + size).toNat).size:Int) == s2) = false from beq_eq_false_iff_ne.mpr (by omega),vE]
  · rw [if_neg c,if_neg c]
    simp only [Option.bind_some]
    rw [if_pos (by decide),if_pos (by decide),vE]
theorem Vy (k:Nat) (hk:K0 + 10 ≤ k) (msg:ByteArray) (i size kind:Int) (hm:msg.size ≤ 100000):aD.f k msg i size kind = some (zL msg i size kind):=by
  unfold aD.f zL
  rw [um msg i size (by omega)]
  simp only [Option.bind_some]
  by_cases ht:gQ msg i size
  · rw [if_pos ht,if_pos ht]
    simp only [if_true]
    cases hs:aD.yX kind with
    | some s=>exact JU k hk msg i size kind hm ht s hs
    | none =>
      have hz:(msg.extract i.toNat (i + size).toNat).size ≤ 100000:=by rw [ByteArray.size_extract];omega
      have:=AJ msg i size kind k (by omega) hm (dK.f k) (fun s h=>Ni k (by omega) s h) _ hz
      unfold aD.fin
      rw [if_pos rfl]
      exact this
  · rw [if_neg ht,if_neg ht];rfl
theorem oq (k:Nat) (hk:1 ≤ k) (kind:Int):aH.f k kind = some ((aD.yX kind).getD (0,0,0)):=by
  obtain ⟨k,rfl⟩:∃ j,k = j + 1:=⟨k - 1,by omega⟩
  unfold aH.f aD.yX
  simp only [aH.j0]
  by_cases h1:kind = 1
  · subst h1;rfl
  by_cases h2:kind = 28
  · subst h2;rfl
  by_cases h3:kind = 2
  · subst h3;rfl
  by_cases h4:kind = 5
  · subst h4;rfl
  by_cases h5:kind = 12
  · subst h5;rfl
  by_cases h6:kind = 6
  · subst h6;rfl
  by_cases h7:kind = 15
  · subst h7;rfl
  by_cases h8:kind = 33
  · subst h8;rfl
  simp [h1,h2,h3,h4,h5,h6,h7,h8]
theorem EF (msg:ByteArray) (i size s0 s1 s2:Int) (hm:msg.size ≤ 100000) (ht:gQ msg i size) (h2:0 ≤ s2 ∧ s2 ≤ 1000) (hs:s1 ≤ 100):∀ (n k:Nat) (j x:Int) (out:ByteArray),K0 + n ≤ k → x + n = s1 → 0 ≤ x → i + size < j → j ≤ (msg.size:Int) → out.size + 300 * n ≤ 1000000 →
    aX.l0 (k + 1) msg i size out j x s0 s1 s2 = some (⟨#[]⟩,4)
  | 0,k,j,x,out,hk,hx,hx0,hj,hjm,ho=>by
    obtain ⟨t0,t1,t2⟩:=ht
    rw [aX.l0,if_neg (by omega),dO (n:=j + s2) (by omega) (by omega),dO (n:=i + size) (by omega) (by omega),if_neg (by omega)]
  | n + 1,k,j,x,out,hk,hx,hx0,hj,hjm,ho=>by
    obtain ⟨k,rfl⟩:∃ m,k = m + 1:=⟨k - 1,by omega⟩
    rw [aX.l0,if_pos (by omega),vC (k + 1) msg j hm (qA hm (by omega) (by omega))]
    simp only [Option.bind_some]
    rcases uy msg j hm with ⟨b1,b2,_,b4,b5⟩ | ⟨b1,_⟩
    · have hz:=pU b2
      rw [if_pos b1,if_pos (by omega),dO (n:=x + 1) (by omega) (by omega)]
      exact EF msg i size s0 s1 s2 hm ht h2 hs n k _ _ _ (by omega) (by omega) (by omega) (by omega) b5 (by rw [ByteArray.size_append];omega)
    · rw [if_neg (by omega)]
theorem Nj (msg:ByteArray) (i size s0 s1 s2:Int) (a:ByteArray) (hm:msg.size ≤ 100000) (ht:gQ msg i size) (h2:0 ≤ s2 ∧ s2 ≤ 1000) (hs:s1 ≤ 100):∀ (n k:Nat) (j x:Int) (l:List ByteArray),K0 + n ≤ k → x + n = s1 → 0 ≤ x → 0 ≤ j → j ≤ i + size → (a ++ strings_Join.cat l).size + 300 * n ≤ 800000 →
    aX.l0 (k + 1) msg i size (a ++ strings_Join.cat l) j x s0 s1 s2 = some (match ED msg (i + size) n j l with
      | some R=>if R.2 + s2 = i + size then y5 (a ++ strings_Join.cat R.1 ++ msg.extract R.2.toNat (i + size).toNat) else (⟨#[]⟩,4)
      | none=>(⟨#[]⟩,4))
  | 0,k,j,x,l,hk,hx,hx0,hj0,hj,ho=>by
    obtain ⟨t0,t1,t2⟩:=ht
    rw [aX.l0,if_neg (by omega),dO (n:=j + s2) (by omega) (by omega),dO (n:=i + size) (by omega) (by omega),ED]
    simp only
    by_cases c:j + s2 = i + size
    · have hz:(msg.extract j.toNat (i + size).toNat).size ≤ 100000:=by rw [ByteArray.size_extract];omega
      rw [if_pos c,if_pos c,if_pos hj0,if_pos hj,if_pos t2,if_pos (by omega),vD]
    · rw [if_neg c,if_neg c]
  | n + 1,k,j,x,l,hk,hx,hx0,hj0,hj,ho=>by
    have ht0:=ht
    obtain ⟨t0,t1,t2⟩:=ht
    obtain ⟨k,rfl⟩:∃ m,k = m + 1:=⟨k - 1,by omega⟩
    rw [aX.l0,if_pos (by omega),vC (k + 1) msg j hm (qA hm (by omega) (by omega)),ED]
    simp only [Option.bind_some]
    rcases uy msg j hm with ⟨b1,b2,_,b4,b5⟩ | ⟨b1,_⟩
    · have hz:=pU b2
      rw [if_pos b1,if_pos b1,if_pos (by omega),dO (n:=x + 1) (by omega) (by omega)]
      by_cases c:(vT msg j).2.1 > i + size
      · rw [if_pos c]
        exact EF msg i size s0 s1 s2 hm ht0 h2 hs n k _ _ _ (by omega) (by omega) (by omega) (by omega) b5 (by rw [ByteArray.size_append];omega)
      · rw [if_neg c]
        have e:a ++ strings_Join.cat l ++ (vT msg j).1 = a ++ strings_Join.cat (l ++ [(vT msg j).1]):=by rw [Gc,QO,ByteArray.append_assoc]
        rw [e]
        exact Nj msg i size s0 s1 s2 a hm ht0 h2 hs n k _ _ _ (by omega) (by omega) (by omega) (by omega) (by omega) (by rw [← e,ByteArray.size_append];omega)
    · rw [if_neg (by omega),if_neg (by omega)]
theorem Gd (k:Nat) (hk:K0 + 10 ≤ k) (msg:ByteArray) (i size kind:Int) (hm:msg.size ≤ 100000):aX.f k msg i size kind = some (zL msg i size kind):=by
  unfold aX.f zL
  rw [pO msg i size (by omega),oq k (by omega)]
  simp only [Option.bind_some]
  by_cases ht:gQ msg i size
  · rw [if_pos ht,if_pos ht]
    simp only [if_true]
    obtain ⟨t0,t1,t2⟩:=ht
    have hz:(msg.extract i.toNat (i + size).toNat).size = size.toNat:=by rw [ByteArray.size_extract];omega
    cases hs:aD.yX kind with
    | none =>
      simp only [Option.getD_none]
      rw [if_pos (by decide)]
      exact AJ msg i size kind k (by omega) hm (bq.f k) (fun s h=>CJ k (by omega) s h) _ (by omega)
    | some s =>
      obtain ⟨a1,a2,a3,a4,a5,a6,a7,a8⟩:=kS hs
      obtain ⟨s0,s1,s2⟩:=s
      simp only at a1 a2 a3 a4 a5 a6 a8
      simp only [Option.getD_some]
      have main:(if s0 > size then some ((⟨#[]⟩:ByteArray),(4:Int)) else (if 0 ≤ s0 then (if s0 ≤ ((msg.extract i.toNat (i + size).toNat).size:Int) then (aX.l0 k msg i size ((msg.extract i.toNat (i + size).toNat).extract 0 (s0:Int).toNat) (wrap64 (i + s0)) 0 s0 s1 s2) else none) else none)) = some (JR msg i size (s0,s1,s2)):=by
        unfold JR
        simp only
        by_cases c:s0 > size
        · rw [if_pos c,if_neg (by omega)]
        · rw [if_neg c,if_pos a1,if_pos (by omega),if_pos (by omega),dO (by omega) (by omega)]
          obtain ⟨k,rfl⟩:∃ j,k = j + 1:=⟨k - 1,by omega⟩
          have e:(msg.extract i.toNat (i + size).toNat).extract 0 s0.toNat = msg.extract i.toNat (i + s0).toNat:=by
            rw [ByteArray.extract_extract];congr 1 <;> omega
          have hz2:(msg.extract i.toNat (i + s0).toNat).size ≤ 16:=by rw [ByteArray.size_extract];omega
          have h:=Nj msg i size s0 s1 s2 (msg.extract i.toNat (i + s0).toNat) hm ⟨t0,t1,t2⟩ ⟨a5,by omega⟩ (by omega) s1.toNat k (i + s0) 0 [] (by omega) (by omega) (Int.le_refl _) (by omega) (by omega) (by simp only [strings_Join.cat,append_empty];omega)
          simp only [strings_Join.cat,append_empty] at h
          rw [e,h]
      have hne:¬ ((s0 == 0 && (s1 == 0 && (s2 == 0))) = true):=by
        intro h
        simp only [Bool.and_eq_true,beq_iff_eq] at h
        exact a8 h.1 h.2.1
      rw [if_neg hne]
      exact main
  · rw [if_neg ht,if_neg ht];rfl
end Go.Proofs.Ytdkkgecdhapfhaa.ZQ
namespace Go.Proofs.Ytdkkgecdhapfhaa.ZQ
open Go.RowKit Go.Proofs.YtdkkgecdhapfhaaW.bD Go.Proofs.YtdkkgecdhapfhaaW.dW Go.Proofs.YtdkkgecdhapfhaaW.eH Go.Proofs.Ytdkkgecdhapfhaa.B
def wK (kind:Int) (d:ByteArray):Bool:=decide (d.size ≤ 65535) && (decide ((zL d 0 d.size kind).2 = 0) && decide ((zL d 0 d.size kind).1 = d))
theorem uD {kind:Int} {d:ByteArray}:wK kind d = true ↔ d.size ≤ 65535 ∧ zL d 0 d.size kind = (d,0):=by
  unfold wK
  simp only [Bool.and_eq_true,decide_eq_true_eq]
  constructor
  · rintro ⟨h1,h2,h3⟩;exact ⟨h1,Prod.ext h3 h2⟩
  · rintro ⟨h1,h2⟩;rw [h2];exact ⟨h1,rfl,rfl⟩
theorem AL (k:Nat) (hk:K0 + 10 ≤ k) (kind:Int) (d:ByteArray):iR.f k kind d = some (wK kind d):=by
  unfold iR.f wK
  by_cases h:(d.size:Int) > 65535
  · rw [if_pos h,decide_eq_false (by omega)];rfl
  · rw [if_neg h,Vy k hk d 0 _ kind (by omega),decide_eq_true (by omega),Bool.true_and]
    simp only [Option.bind_some]
    by_cases h0:(zL d 0 d.size kind).2 = 0
    · rw [if_pos h0,decide_eq_true h0,yQ,Bool.true_and]
    · rw [if_neg h0,decide_eq_false h0,Bool.false_and]
theorem ng (k:Nat) (hk:K0 + 10 ≤ k) (kind:Int) (d:ByteArray):bR.f k kind d = some (wK kind d):=by
  unfold bR.f wK
  by_cases h:(d.size:Int) > 65535
  · rw [if_pos h,decide_eq_false (by omega)];rfl
  · rw [if_neg h,Gd k hk d 0 _ kind (by omega),decide_eq_true (by omega),Bool.true_and]
    simp only [Option.bind_some]
    by_cases h0:(zL d 0 d.size kind).2 = 0
    · rw [if_pos h0,decide_eq_true h0,yQ,Bool.true_and]
    · rw [if_neg h0,decide_eq_false h0,Bool.false_and]
theorem Gf (d:ByteArray):gQ d 0 d.size:=⟨Int.le_refl _,by omega,by omega⟩
theorem JV {x d:ByteArray} (h:y5 x = (d,0)):x = d ∧ x.size ≤ 65535:=by
  unfold y5 at h
  split at h
  · have:=congrArg Prod.snd h;cases this
  · exact ⟨congrArg Prod.fst h,by omega⟩
theorem pV {kind:Int} {d:ByteArray} {s:Int × Int × Int} (h:wK kind d = true) (hs:aD.yX kind = some s) :
    ∃ R,s.1 ≤ (d.size:Int) ∧ ED d d.size s.2.1.toNat s.1 [] = some R ∧ R.2 + s.2.2 = d.size ∧ d = d.extract 0 s.1.toNat ++ strings_Join.cat R.1 ++ d.extract R.2.toNat d.size ∧ s.1 ≤ R.2 ∧ R.2 ≤ (d.size:Int) ∧ R.1.length = s.2.1.toNat ∧ (∀ x ∈ R.1,jJ x = true) ∧ R.2 = s.1 + (strings_Join.cat R.1).size:=by
  obtain ⟨h0,h1⟩:=uD.mp h
  unfold zL JR at h1
  rw [if_pos (Gf d),hs] at h1
  simp only [Int.zero_add,Int.toNat_natCast] at h1
  obtain ⟨a1,a2,a3,a4,a5,a6,a7,a8⟩:=kS hs
  by_cases c:s.1 ≤ (d.size:Int)
  · rw [if_pos c] at h1
    cases hr:ED d d.size s.2.1.toNat s.1 [] with
    | none=>rw [hr] at h1;have:=congrArg Prod.snd h1;cases this
    | some R =>
      rw [hr] at h1
      simp only at h1
      by_cases e:R.2 + s.2.2 = d.size
      · rw [if_pos e] at h1
        obtain ⟨h2,_⟩:=JV h1
        obtain ⟨b1,b2,b3,l',b4,b5⟩:=qz d _ (by omega) _ _ _ R hr c
        rw [List.nil_append] at b4
        rw [← b4] at b5
        have hz:=congrArg ByteArray.size h2
        simp only [ByteArray.size_append,ByteArray.size_extract] at hz
        refine ⟨R,c,rfl,e,h2.symm,b1,b2,by rw [b3];simp,b5,?_⟩
        simp only [show (0:Int).toNat = 0 from rfl] at hz
        omega
      · rw [if_neg e] at h1;have:=congrArg Prod.snd h1;cases this
  · rw [if_neg c] at h1;have:=congrArg Prod.snd h1;cases this
def prt (kind:Int) (d:ByteArray):ByteArray × ByteArray × List ByteArray × Bool :=
  if wK kind d = true then (match aD.yX kind with
    | some s=>(match ED d d.size s.2.1.toNat s.1 [] with
      | some R=>(d.extract 0 s.1.toNat,d.extract R.2.toNat d.size,R.1,true)
      | none=>(⟨#[]⟩,⟨#[]⟩,[],false))
    | none=>(d,⟨#[]⟩,[],true)) else (⟨#[]⟩,⟨#[]⟩,[],false)
theorem vF : (⟨#[]⟩:ByteArray).size = 0:=rfl
theorem wD (k:Nat) (hk:K0 + 20 ≤ k) (d:ByteArray) (hd:d.size ≤ 65535) (s0 s1 s2:Int) (a1:0 ≤ s0) (a3:0 ≤ s1) (a4:s1 ≤ 2) (a5:0 ≤ s2) (a6:s2 ≤ 20) (R:List ByteArray × Int) (c1:s0 ≤ (d.size:Int)) (c2:ED d d.size s1.toNat s0 [] = some R) (c3:R.2 + s2 = d.size) :
    bV.f k d 0 (d.size:Int) s0 s1 s2 = some (d.extract 0 s0.toNat,d.extract R.2.toNat d.size,R.1,true):=by
  unfold bV.f
  have e2:wrap64 ((d.size:Int) - 0) = d.size:=by rw [dO (by omega) (by omega)];omega
  have e3:wrap64 (0 + s0) = s0:=by rw [dO (by omega) (by omega)];omega
  obtain ⟨b1,b2,_⟩:=qz d _ (by omega) _ _ _ R c2 c1
  have hz:((d.extract R.2.toNat d.size).size:Int) = s2:=by rw [ByteArray.size_extract];omega
  obtain ⟨k,rfl⟩:∃ j,k = j + 1:=⟨k - 1,by omega⟩
  have h:=CB d d.size s0 s1 s2 (d.extract 0 s0.toNat) ⟨#[]⟩ (by omega) (Int.le_refl _) ⟨a5,by omega⟩ s1 (by omega) s1.toNat k s0 0 [] (by omega) (by omega) (Int.le_refl _) a1 c1 (by simp only [List.length_nil];omega)
  rw [c2] at h
  simp only [Int.toNat_natCast] at h
  rw [show (((d.extract R.2.toNat d.size).size:Int) == s2) = true from beq_iff_eq.mpr hz] at h
  rw [e2,if_pos c1,if_pos (Int.le_refl _),e3,if_pos a1,if_pos c1]
  exact h
theorem JW (k:Nat) (hk:K0 + 20 ≤ k) (kind:Int) (d:ByteArray):dh.f k kind d = some (prt kind d):=by
  unfold dh.f prt
  rw [AL k (by omega)]
  simp only [Option.bind_some]
  by_cases h:wK kind d = true
  · rw [if_pos h,if_pos h]
    cases hs:aD.yX kind with
    | none=>rfl
    | some s =>
      obtain ⟨R,c1,c2,c3,c4,c5,c6,c7,c8,c9⟩:=pV h hs
      obtain ⟨a1,a2,a3,a4,a5,a6,a7,a8⟩:=kS hs
      obtain ⟨h0,_⟩:=uD.mp h
      obtain ⟨s0,s1,s2⟩:=s
      simp only at a1 a2 a3 a4 a5 a6 c1 c2 c3 c5
      simp only [c2]
      exact wD k hk d h0 s0 s1 s2 a1 a3 a4 a5 a6 R c1 c2 c3
  · rw [if_neg h,if_neg h]
theorem AO {kind:Int} {d:ByteArray}:(∀ x ∈ (prt kind d).2.2.1,jJ x = true) ∧ (prt kind d).2.2.1.length ≤ 2:=by
  unfold prt
  by_cases h:wK kind d = true
  · rw [if_pos h]
    cases hs:aD.yX kind with
    | none=>exact ⟨by simp,by simp⟩
    | some s =>
      obtain ⟨R,c1,c2,c3,c4,c5,c6,c7,c8,c9⟩:=pV h hs
      obtain ⟨a1,a2,a3,a4,a5,a6,a7,a8⟩:=kS hs
      simp only [c2]
      exact ⟨c8,by omega⟩
  · rw [if_neg h];exact ⟨by simp,by simp⟩
theorem vU (k:Nat) (hk:600 ≤ k) (n:ByteArray) (hs:n.size ≤ 1000000000):mD.f k n = some (if jJ n = true then oF n else ⟨#[]⟩):=by
  unfold mD.f
  rw [Ep k hk n hs,Va n hs]
  simp only [Option.bind_some]
  split <;> rfl
theorem y7 (k:Nat) (hk:600 ≤ k) (n:ByteArray) (hs:n.size ≤ 1000000000):fA.f k n = some (if jJ n = true then oF n else ⟨#[]⟩):=by
  unfold fA.f
  rw [uh k hk n hs,MP n hs]
  simp only [Option.bind_some]
  split <;> rfl
theorem all_eq (k:Nat) (hk:600 ≤ k):∀ l:List ByteArray,(∀ x ∈ l,jJ x = true) → eG.all k l = some (l.map oF)
  | [],_=>rfl
  | x :: l,h=>by
    have hx:=h x (by simp)
    have hz:=pU hx
    rw [eG.all,vU k hk x (by omega),if_pos hx]
    simp only [Option.bind_some]
    rw [all_eq k hk l (fun y hy=>h y (by simp [hy]))]
    rfl
theorem uE : ∀ l:List ByteArray,(strings_Join.cat (l.map oF)).size = (strings_Join.cat l).size
  | []=>rfl
  | x :: l=>by rw [List.map_cons,strings_Join.cat,strings_Join.cat,ByteArray.size_append,ByteArray.size_append,Ay,uE l]
def lw (kind:Int) (d:ByteArray):ByteArray:=(prt kind d).1 ++ strings_Join.cat ((prt kind d).2.2.1.map oF) ++ (prt kind d).2.1
theorem JX {kind:Int} {d:ByteArray}:(prt kind d).1.size ≤ 65535 ∧ (prt kind d).2.1.size ≤ 65535:=by
  unfold prt
  by_cases h:wK kind d = true
  · obtain ⟨h0,_⟩:=uD.mp h
    rw [if_pos h]
    cases hs:aD.yX kind with
    | none=>exact ⟨h0,by show (⟨#[]⟩:ByteArray).size ≤ 65535;decide⟩
    | some s =>
      obtain ⟨R,c1,c2,_⟩:=pV h hs
      simp only [c2]
      simp only [ByteArray.size_extract]
      omega
  · rw [if_neg h];exact ⟨by decide,by decide⟩
theorem QS (k:Nat) (hk:K0 + 20 ≤ k) (kind:Int) (d:ByteArray):eG.f k kind d = some (lw kind d):=by
  obtain ⟨p1,p2⟩:=@AO kind d
  obtain ⟨p3,p4⟩:=@JX kind d
  have hcz:=uz p1
  unfold eG.f
  rw [JW k hk]
  simp only [Option.bind_some]
  rw [all_eq k (by unfold K0 at hk;omega) _ p1]
  simp only [Option.bind_some]
  unfold eG.fin lw
  rw [if_pos (by rw [uE];omega),if_pos (by rw [List.length_map];omega)]
theorem uF (d:ByteArray) (e s0 s1 s2:Int) (hm:d.size ≤ 100000) (he:e ≤ (d.size:Int)) (hs:s1 ≤ 100):∀ (n k:Nat) (l:List ByteArray) (i x:Int) (R:List ByteArray × Int),K0 + n ≤ k → x + n = s1 → 0 ≤ x → i ≤ e → l.length + n ≤ 1000 → ED d e n i l = some R →
    bg.l0 (k + 1) d l i x s0 s1 s2 = some R.1
  | 0,k,l,i,x,R,hk,hx,hx0,hi,hl,h=>by
    cases h
    rw [bg.l0,if_neg (by omega)]
  | n + 1,k,l,i,x,R,hk,hx,hx0,hi,hl,h=>by
    obtain ⟨k,rfl⟩:∃ m,k = m + 1:=⟨k - 1,by omega⟩
    rw [ED] at h
    rw [bg.l0,if_pos (by omega),vC (k + 1) d i hm (qA hm (by omega) (by omega))]
    simp only [Option.bind_some]
    by_cases h0:(vT d i).2.2 = 0
    · rw [if_pos h0] at h
      by_cases h1:(vT d i).2.1 > e
      · rw [if_pos h1] at h;cases h
      · rw [if_neg h1] at h
        rw [if_pos (by omega),dO (by omega) (by omega)]
        exact uF d e s0 s1 s2 hm he hs n k _ _ _ R (by omega) (by omega) (by omega) (by omega) (by rw [List.length_append,List.length_singleton];omega) h
    · rw [if_neg h0] at h;cases h
theorem CK (k:Nat) (hk:K0 + 20 ≤ k) (kind:Int) (d:ByteArray):bg.f k kind d = some (prt kind d).2.2.1:=by
  unfold bg.f prt
  rw [ng k (by omega),oq k (by omega)]
  simp only [Option.bind_some]
  obtain ⟨k,rfl⟩:∃ j,k = j + 1:=⟨k - 1,by omega⟩
  by_cases h:wK kind d = true
  · rw [if_pos h,if_pos h]
    obtain ⟨h0,_⟩:=uD.mp h
    cases hs:aD.yX kind with
    | none =>
      rw [Option.getD_none,bg.l0,if_neg (by decide)]
    | some s =>
      obtain ⟨R,c1,c2,c3,c4,c5,c6,c7,c8,c9⟩:=pV h hs
      obtain ⟨a1,a2,a3,a4,a5,a6,a7,a8⟩:=kS hs
      simp only [c2,Option.getD_some]
      exact uF d d.size _ _ _ (by omega) (Int.le_refl _) (by omega) s.2.1.toNat k [] s.1 0 R (by omega) (by omega) (Int.le_refl _) c1 (by simp only [List.length_nil];omega) c2
  · rw [if_neg h,if_neg h]
theorem QT {α} (d:α) (p:List α) (x:α) (s:List α):pz d (p ++ x :: s) (p.length:Int) = x:=by
  unfold pz;simp
theorem rW (d:ByteArray) (hd:d.size ≤ 65535) (xs:List ByteArray) (hxs:xs.length ≤ 1000):∀ (suf pre:List ByteArray) (k:Nat) (out:ByteArray) (i:Int),xs = pre ++ suf → (∀ x ∈ suf,jJ x = true) → 700 + suf.length ≤ k → 0 ≤ i → i + (strings_Join.cat suf).size ≤ d.size → out.size + (strings_Join.cat suf).size ≤ 1000000 →
    bI.l0 (k + 1) d xs out i (pre.length:Int) = some (out ++ strings_Join.cat (suf.map oF) ++ d.extract (i + (strings_Join.cat suf).size).toNat d.size)
  | [],pre,k,out,i,hx,hn,hk,hi,hs,ho=>by
    rw [List.append_nil] at hx
    subst hx
    have hz:(d.extract i.toNat d.size).size ≤ 65535:=by rw [ByteArray.size_extract];omega
    simp only [strings_Join.cat,List.map_nil,Ec,append_empty] at hs ho ⊢
    rw [bI.l0,if_neg (by omega),if_pos hi,if_pos (by omega),if_pos (by omega)]
    congr 3
    omega
  | x :: suf,pre,k,out,i,hx,hn,hk,hi,hs,ho=>by
    obtain ⟨k,rfl⟩:∃ j,k = j + 1:=⟨k - 1,by simp only [List.length_cons] at hk;omega⟩
    have hxn:=hn x (by simp)
    have hz:=pU hxn
    have hrd:pz ByteArray.empty xs (pre.length:Int) = x:=by rw [hx];exact QT _ _ _ _
    have hl:(xs.length:Int) = pre.length + suf.length + 1:=by rw [hx];simp;omega
    simp only [List.length_cons,strings_Join.cat,ByteArray.size_append] at hk hs ho
    have hlz:=Ay x
    rw [bI.l0,if_pos (by omega),if_pos (by omega),hrd,y7 (k + 1) (by omega) x (by omega),if_pos hxn]
    simp only [Option.bind_some]
    rw [if_pos (by omega),dO (n:=i + (x.size:Int)) (by omega) (by omega),dO (by omega) (by omega),show ((pre.length:Int) + 1) = ((pre ++ [x]).length:Int) from by simp]
    have:=rW d hd xs hxs suf (pre ++ [x]) k (out ++ oF x) (i + x.size) (by rw [hx];simp) (fun y hy=>hn y (by simp [hy])) (by omega) (by omega) (by omega) (by rw [ByteArray.size_append];omega)
    rw [this]
    have e:i + (x.size:Int) + ((strings_Join.cat suf).size:Int) = i + ((x.size + (strings_Join.cat suf).size:Nat):Int):=by omega
    rw [e]
    simp only [List.map_cons,strings_Join.cat,ByteArray.size_append,ByteArray.append_assoc]
theorem Gg (k:Nat) (hk:K0 + 20 ≤ k) (kind:Int) (d:ByteArray):bI.f k kind d = some (lw kind d):=by
  obtain ⟨p1,p2⟩:=@AO kind d
  unfold bI.f
  rw [ng k (by omega),CK k hk,oq k (by omega)]
  simp only [Option.bind_some]
  unfold lw prt
  unfold prt at p1 p2
  unfold K0 at hk
  obtain ⟨k,rfl⟩:∃ j,k = j + 1:=⟨k - 1,by omega⟩
  by_cases h:wK kind d = true
  · simp only [if_pos h] at p1 p2 ⊢
    obtain ⟨h0,_⟩:=uD.mp h
    cases hs:aD.yX kind with
    | none =>
      simp only [Option.getD_none]
      rw [if_pos (Int.le_refl _),if_pos (by omega)]
      have:=rW d h0 [] (by simp) [] [] k (d.extract 0 0) 0 rfl (by simp) (by simp only [List.length_nil];omega) (Int.le_refl _) (by simp only [strings_Join.cat,vF];omega) (by simp only [strings_Join.cat,vF,ByteArray.size_extract];omega)
      simp only [List.length_nil] at this
      rw [show ((0:Int).toNat) = 0 from rfl,show ((0:Nat):Int) = 0 from rfl] at *
      rw [this]
      have e0:d.extract 0 0 = ⟨#[]⟩:=eq_empty (by rw [ByteArray.size_extract];omega)
      simp [strings_Join.cat,e0,empty_append,append_empty,vF,ByteArray.extract_zero_size]
    | some s =>
      obtain ⟨R,c1,c2,c3,c4,c5,c6,c7,c8,c9⟩:=pV h hs
      obtain ⟨a1,a2,a3,a4,a5,a6,a7,a8⟩:=kS hs
      simp only [hs,c2,Option.getD_some] at p1 p2 ⊢
      have hcz:=uz p1
      rw [if_pos a1,if_pos c1]
      have:=rW d h0 R.1 (by omega) R.1 [] k (d.extract 0 s.1.toNat) s.1 rfl p1 (by omega) a1 (by omega) (by rw [ByteArray.size_extract];omega)
      rw [show ((([]:List ByteArray).length:Nat):Int) = 0 from rfl] at this
      rw [this,c9]
  · simp only [if_neg h]
    rfl
end Go.Proofs.Ytdkkgecdhapfhaa.ZQ
set_option maxRecDepth 100000
namespace Go.Proofs.Ytdkkgecdhapfhaa.Kn
open Go Go.RowKit Ev
abbrev AG := List AV → Option (List AV × List AV)
def Vz (g:ByteArray → SV):AG:=fun fV=>match fV with
  | [.one (.f (.str q))]=>if q.size ≤ 1000000 then some (G5 [g q],G5 [.str q]) else none
  | _=>none
def VA (g:Int → ByteArray → SV):AG:=fun fV=>match fV with
  | [.one (.f (.int .i64 k)),.one (.f (.str q))]=>if q.size ≤ 1000000 then some (G5 [g k q],G5 [.int .i64 k,.str q]) else none
  | _=>none
theorem wQ {f:FuncId} {g:ByteArray → SV} (h:∀ q w,q.size ≤ 1000000 → Calls Try.prog f #[.string q] w fun e w'=>e = .returned (encS (g q)) ∧ Below w.heap.size w w'):Sat Try.prog f (Vz g):=by
  refine Sat.vW fun fV r he=>?_
  unfold Vz at he
  split at he
  · split at he
    · cases he;rename_i q hq;exact ⟨[.str q],[g q],rfl,rfl,fun w=>h q w hq⟩
    · cases he
  · cases he
theorem wR {f:FuncId} {g:Int → ByteArray → SV} (h:∀ k q w,q.size ≤ 1000000 → Calls Try.prog f #[.int .i64 k,.string q] w fun e w'=>e = .returned (encS (g k q)) ∧ Below w.heap.size w w'):Sat Try.prog f (VA g):=by
  refine Sat.vW fun fV r he=>?_
  unfold VA at he
  split at he
  · split at he
    · cases he;rename_i k q hq;exact ⟨[.int .i64 k,.str q],[g k q],rfl,rfl,fun w=>h k q w hq⟩
    · cases he
  · cases he
def WY (g:ByteArray → Int → Int → Int × Bool):AG:=fun fV=>match fV with
  | [.one (.f (.str q)),.one (.f (.int .i64 a)),.one (.f (.int .i64 z))]=>if q.size ≤ 1000000 then some (G5 [.int .i64 (g q a z).1,.bool (g q a z).2],G5 [.str q,.int .i64 a,.int .i64 z]) else none
  | _=>none
theorem Iw {f:FuncId} {g:ByteArray → Int → Int → Int × Bool} (h:∀ q a z w,q.size ≤ 1000000 → Calls Try.prog f #[.string q,.int .i64 a,.int .i64 z] w fun e w'=>e = .returned (.tuple #[.int .i64 (g q a z).1,.bool (g q a z).2]) ∧ Below w.heap.size w w'):Sat Try.prog f (WY g):=by
  refine Sat.vW fun fV r he=>?_
  unfold WY at he
  split at he
  · split at he
    · cases he;rename_i q a z hq;exact ⟨[.str q,.int .i64 a,.int .i64 z],[.int .i64 (g q a z).1,.bool (g q a z).2],rfl,rfl,fun w=>h q a z w hq⟩
    · cases he
  · cases he
def EG (s:ByteArray) (a z:Int):Int × Bool:=if ZQ.jW s a z then (ZQ.gX z.toNat s a,true) else (0,false)
def VB (q:ByteArray):ByteArray:=if B.jJ q = true then B.oF q else ⟨#[]⟩
def Nk : Th:=⟨B.jJ,VB,ZQ.wK,ZQ.lw⟩
def leafs : List (FuncId × AG):=[
  (91,Vz fun q=>.bool (B.jJ q)),(92,Vz fun q=>.str (VB q)),
  (100,Vz fun q=>.bool (B.jJ q)),(101,Vz fun q=>.str (VB q)),
  (94,VA fun k q=>.bool (ZQ.wK k q)),(95,VA fun k q=>.str (ZQ.lw k q)),
  (83,VA fun k q=>.bool (ZQ.wK k q)),(84,VA fun k q=>.str (ZQ.lw k q)),
  (88,Ph 1 false),(70,Ph 3 true),
  (74,WY EG),(75,WY EG),(82,gMC)]
theorem EH : ∀ p ∈ leafs,Sat Try.prog p.1 p.2:=by
  have hk:∀ q:ByteArray,q.size ≤ 1000000 → q.size ≤ 1000000000:=fun q h=>by omega
  intro p hp
  simp only [leafs,List.mem_cons,List.not_mem_nil,or_false] at hp
  rcases hp with rfl | rfl | rfl | rfl | rfl | rfl | rfl | rfl | rfl | rfl | rfl | rfl | rfl
  · exact wQ fun q w hq=>ZQ.iO.calls 600 q _ w (ZQ.Ep 600 (Nat.le_refl _) q (hk q hq))
  · exact wQ fun q w hq=>ZQ.mD.calls 600 q _ w (ZQ.vU 600 (Nat.le_refl _) q (hk q hq))
  · exact wQ fun q w hq=>ZQ.dB.calls 600 q _ w (ZQ.uh 600 (Nat.le_refl _) q (hk q hq))
  · exact wQ fun q w hq=>ZQ.fA.calls 600 q _ w (ZQ.y7 600 (Nat.le_refl _) q (hk q hq))
  · exact wR fun k q w hq=>ZQ.iR.calls _ k q _ w (ZQ.AL (ZQ.K0 + 20) (by omega) k q)
  · exact wR fun k q w hq=>ZQ.eG.calls _ k q _ w (ZQ.QS (ZQ.K0 + 20) (by omega) k q)
  · exact wR fun k q w hq=>ZQ.bR.calls _ k q _ w (ZQ.ng (ZQ.K0 + 20) (by omega) k q)
  · exact wR fun k q w hq=>ZQ.bI.calls _ k q _ w (ZQ.Gg (ZQ.K0 + 20) (by omega) k q)
  · exact Pj
  · exact Pk
  · refine Iw fun q a z w hq=>?_
    have h:=ZQ.get_eq 9 (Nat.le_refl _) q a z (by omega)
    exact (ZQ.bn.calls 9 q a z _ _ w h).mono fun e w' hh=>⟨hh.1,hh.2.below⟩
  · refine Iw fun q a z w hq=>?_
    have h:=ZQ.rV 9 (Nat.le_refl _) q a z hq
    exact (ZQ.av.calls 9 q a z _ _ w h).mono fun e w' hh=>⟨hh.1,hh.2.below⟩
  · exact Pm
theorem y8 : ∀ p ∈ leafs,∃ fn,Try.prog.funcs[p.1]? = some fn ∧ (fn.name == "runtime.NumGoroutine") = false ∧ fn.body.isSome = true:=by
  intro p hp
  simp only [leafs,List.mem_cons,List.not_mem_nil,or_false] at hp
  rcases hp with rfl | rfl | rfl | rfl | rfl | rfl | rfl | rfl | rfl | rfl | rfl | rfl | rfl
  · exact ⟨Try.f91,by kernel_rfl,by kernel_rfl,by kernel_rfl⟩
  · exact ⟨Try.f92,by kernel_rfl,by kernel_rfl,by kernel_rfl⟩
  · exact ⟨Try.f100,by kernel_rfl,by kernel_rfl,by kernel_rfl⟩
  · exact ⟨Try.f101,by kernel_rfl,by kernel_rfl,by kernel_rfl⟩
  · exact ⟨Try.f94,by kernel_rfl,by kernel_rfl,by kernel_rfl⟩
  · exact ⟨Try.f95,by kernel_rfl,by kernel_rfl,by kernel_rfl⟩
  · exact ⟨Try.f83,by kernel_rfl,by kernel_rfl,by kernel_rfl⟩
  · exact ⟨Try.f84,by kernel_rfl,by kernel_rfl,by kernel_rfl⟩
  · exact ⟨Try.f88,by kernel_rfl,by kernel_rfl,by kernel_rfl⟩
  · exact ⟨Try.f70,by kernel_rfl,by kernel_rfl,by kernel_rfl⟩
  · exact ⟨Try.f74,by kernel_rfl,by kernel_rfl,by kernel_rfl⟩
  · exact ⟨Try.f75,by kernel_rfl,by kernel_rfl,by kernel_rfl⟩
  · exact ⟨Try.f82,by kernel_rfl,by kernel_rfl,by kernel_rfl⟩
def JY : Env:=oW leafs
theorem QU : iE Try.prog JY:=yc EH
theorem JZ : eu Try.prog JY:=rJ y8
noncomputable def ins : List (FuncId × AG):=(50,UM JY 200000000000001 (0 + 4)) :: leafs
theorem VD : ∀ p ∈ ins,Sat Try.prog p.1 p.2:=by
  intro p hp
  rcases List.mem_cons.mp hp with rfl | hp
  · exact L8 QU JZ _ _
  · exact EH p hp
theorem Nl : ∀ p ∈ ins,∃ fn,Try.prog.funcs[p.1]? = some fn ∧ (fn.name == "runtime.NumGoroutine") = false ∧ fn.body.isSome = true:=by
  intro p hp
  rcases List.mem_cons.mp hp with rfl | hp
  · exact ⟨Try.f50,by kernel_rfl,by kernel_rfl,by kernel_rfl⟩
  · exact y8 p hp
noncomputable def ext1 : Env:=oW ins
theorem QV : iE Try.prog ext1:=yc VD
theorem J2 : eu Try.prog ext1:=rJ Nl
theorem VE : Nk.Ok ext1:=by
  constructor <;> intros <;> simp_all [ext1,ins,leafs,oW,Vz,VA,G5,WT,Nk,vs,vb,vi]
theorem Iy {α:Type} (sz:Nat) (own:Bool) (l:List α) (f:α → List FV) (hf:∀ x,(f x).length = sz) (h:l.length ≤ 1000000):Ph sz own [vl (l.map f)] = some ([.one (if own then .own sz (l.map f) else .f (.sl (l.map f)))],[vl (l.map f)]):=by
  have h1:((l.map f).all fun r=>r.length == sz) = true:=by
    rw [List.all_eq_true];intro r hr;obtain ⟨x, -,rfl⟩:=List.mem_map.mp hr;exact beq_iff_eq.mpr (hf x)
  show (if (l.map f).length ≤ 1000000 ∧ _ then _ else _) = _
  rw [if_pos ⟨by rw [List.length_map];exact h,h1⟩]
theorem aaO (l:List ByteArray) (h:l.length ≤ 1000000):Ph 1 false [vl (l.map iB)] = some ([vl (l.map iB)],[vl (l.map iB)]):=Iy 1 false l iB (fun _=>rfl) h
theorem aaP (l:List Qn) (h:l.length ≤ 1000000):Ph 3 true [vl (l.map rQ)] = some ([.one (.own 3 (l.map rQ))],[vl (l.map rQ)]):=Iy 3 true l rQ (fun _=>rfl) h
theorem aaQ : qE JY:=⟨fun l h=>aaP l h,fun l h=>aaO l h⟩
theorem VF : qE ext1:=⟨fun l h=>aaP l h,fun l h=>aaO l h⟩
theorem AP (fV:List AV):ext1 50 fV = UM JY 200000000000001 (0 + 4) fV:=by
  unfold ext1 ins oW;rw [if_pos rfl]
theorem VG : UN JY:=⟨fun m=>rfl⟩
theorem Nn : LQ ext1 where
  d0 q:=by rw [AP];exact LM q
  d1 s q h ho hm hc:=by rw [AP];exact LP aaQ VG (Nat.le_refl _) s q h ho hm hc
theorem VH : Fy EG ext1:=by
  refine ⟨fun s a z h=>?_,fun s a z h=>?_,fun s a z=>?_⟩
  · simp [ext1,ins,leafs,oW,WY,G5,WT,h,vs,vb,vi]
  · simp [ext1,ins,leafs,oW,WY,G5,WT,h,vs,vb,vi]
  · unfold EG
    split
    · exact (ZQ.oh _ _ _).1
    · exact Int.le_refl _
theorem QW : Nk.pq EG:=by constructor <;> decide +kernel
end Go.Proofs.Ytdkkgecdhapfhaa.Kn
namespace Go.Proofs.Ytdkkgecdhapfhaa.Ev
open Go Go.RowKit
structure Old (w w':World):Prop where
  os:w'.os = w.os
  output:w'.output = w.output
  size:w.heap.size ≤ w'.heap.size
  block:∀ k,k < w.heap.size → w'.heap[k]? = w.heap[k]?
theorem Old.frame {W w':World} (h:Old W w') (may:MemPlace → Prop):W.keptBut w' may:=by
  refine ⟨h.os,h.output,fun i hi=>?_⟩
  rw [h.block i hi]
  split <;> simp_all
theorem Old.same {W w':World} (h:Old W w') {p:MemPlace} (hp:p.block < W.heap.size):W.sameAt w' p:=by
  cases p with
  | cell b o=>exact World.cell?_of_block (w:=W) (h.block b hp)
  | map b=>exact h.block b hp
theorem Old.trod {H:Type} {enc:TypeId × Value → H} {P:Program} {t:TypeId} (hl:laidOutB P = true) (hr:P.readableRec t = true) (hrow:t < P.types.size) {W W':World} {v:Value} {d:DataW H} {ps:List MemPlace}
    (h:DataW.Trod enc P W 0 (fun _=>true) true t v d ps) (hb:Old W W') (hlt:∀ x ∈ ps,x.block < W.heap.size):DataW.Trod enc P W' 0 (fun b=>decide (b < W.heap.size)) true t v d ps :=
  WideElems.Trod_stays hl hr hrow h (fun x hx=>hb.same (hlt x hx)) (fun x hx=>by simpa using hlt x hx)
theorem J3 {P:Program} {Γ:Env} (kJ:iE P Γ) {f:FuncId} {fV rH:List AV} {b:Bool} {vals:List Value} {W:World} (h:Γ f fV = some ([.one (.f (.bool b))],rH)) (ha:fM (fun k=>k < W.heap.size) W fV vals []) :
    Calls P f vals.toArray W fun e W'=>e = .returned (.bool b) ∧ Old W W':=by
  refine (kJ f fV _ _ h (fun k=>k < W.heap.size) W vals [] ha List.nodup_nil (by simp) (fun _ h=>h)).mono fun e w' ⟨bK,uS,b1,b2,he,hp⟩=>?_
  refine ⟨?_,hp.kp.1,hp.kp.2,hp.big,fun k hk=>hp.ext k hk (by simp)⟩
  match uS,hp.rs with
  | [v],⟨c1,c2,h1,h2,h3⟩=>rw [he,show v = .bool b from h1.1];rfl
def Iz (P:Program) {α:Type} (T:TypeId) (f:α → List FV) (G:α → Prop):Prop :=
  ∀ {H:Type} (enc:TypeId × Value → H) (w:World) (spare:Nat → Bool) (held:Bool) (fuel:Nat) (cs:List Value) (x:DataW H × List MemPlace),
    DataW.trod enc P w 0 spare held fuel T cs = some x → (∀ n ∈ x.1.weights P T,n ≤ reachBytes) → ∃ a:α,bZ (fun k=>k < w.heap.size) w (f a) cs ∧ G a
section
variable {P : Program}
theorem uG {k:IntKind} {T:TypeId} (h:P.underlying T = some (.int k)):Iz P T (fun n=>[FV.int k n]) (fun n=>(Lit.int k n).wf = true):=by
  intro H enc w spare held fuel cs x hx _
  obtain ⟨n,rfl,rfl,hw⟩:=DataW.trod_int h hx
  exact ⟨n,⟨by simp only [fu],trivial⟩,hw⟩
theorem Np {T:TypeId} (h:P.underlying T = some .bool):Iz P T (fun b=>[FV.bool b]) (fun _=>True):=by
  intro H enc w spare held fuel cs x hx _
  obtain ⟨b,rfl,rfl⟩:=DataW.trod_bool h hx
  exact ⟨b,⟨by simp only [fu],trivial⟩,trivial⟩
theorem IB {T:TypeId} (h:P.underlying T = some .string):Iz P T (fun s=>[FV.str s]) (fun s=>s.size ≤ 140737488351232):=by
  intro H enc w spare held fuel cs x hx hz
  obtain ⟨s,rfl,rfl,hw⟩:=DataW.trod_string h hx
  refine ⟨s,⟨by simp only [fu],trivial⟩,?_⟩
  have:=hz s.data.toList.length (by simp [DataW.weights])
  rw [Array.length_toList] at this
  exact this
theorem nO {H:Type} {e:TypeId}:∀ {ds:List (DataW H)} {i:Nat} {d:DataW H},ds[i]? = some d → ∀ n ∈ d.weights P e,n ∈ DataW.weightsAll P e ds
  | [],i,d,h,_,_=>by simp at h
  | d0 :: ds,0,d,h,n,hn=>by
    simp at h;subst h
    exact List.mem_append.mpr (.inl hn)
  | d0 :: ds,i + 1,d,h,n,hn=>by
    simp at h
    exact List.mem_append.mpr (.inr (nO h n hn))
theorem EI {H:Type} {ts:List TypeId} {ds:List (DataW H)} (h:(DataW.weightsEach P ts ds).all (· ≤ reachBytes) = true) {j:Nat} {t:TypeId} {d:DataW H} (ht:ts[j]? = some t) (hd:ds[j]? = some d) :
    ∀ n ∈ d.weights P t,n ≤ reachBytes:=fun n hn=>by
  have:=List.all_eq_true.1 h n (DataW.weights_mem_each ht hd n hn)
  simpa using this
theorem uH {α:Type} {Q:Nat → α → Prop}:∀ n,(∀ i,i < n → ∃ y,Q i y) → ∃ ys:List α,ys.length = n ∧ ∀ i y,ys[i]? = some y → Q i y
  | 0,_=>⟨[],rfl,by simp⟩
  | n + 1,h=>by
    obtain ⟨ys,hl,hq⟩:=uH n (fun i hi=>h i (by omega))
    obtain ⟨y,hy⟩:=h n (by omega)
    refine ⟨ys ++ [y],by simp [hl],fun i z hz=>?_⟩
    by_cases hi:i < n
    · rw [List.getElem?_append_left (by omega)] at hz
      exact hq i z hz
    · have hlt:=(List.getElem?_eq_some_iff.1 hz).1
      simp only [List.length_append,List.length_singleton] at hlt
      obtain rfl:i = n:=by omega
      rw [List.getElem?_append_right (by omega),hl,Nat.sub_self] at hz
      simp at hz
      subst hz
      exact hy
theorem AQ {Fz:Nat → Prop} {w:World} {b:Nat}:∀ (xs:List FV) (cs:List Value) (o:Nat),bZ Fz w xs cs → (∀ i u,cs[i]? = some u → w.cell? ⟨b,o + i,none⟩ = some u) → dY Fz w b o xs
  | [],_,_,_,_=>by simp only [dY]
  | x :: xs,[],_,h,_=>h.elim
  | x :: xs,c :: cs,o,h,hc=>by
    simp only [dY]
    exact ⟨⟨c,hc 0 c rfl,h.1⟩,AQ xs cs (o + 1) h.2 fun i u hi=>by rw [show o + 1 + i = o + (i + 1) from by omega];exact hc (i + 1) u hi⟩
theorem y9 {Fz:Nat → Prop} {w:World} {sz b:Nat} {α:Type} {f:α → List FV} (hf:∀ a,(f a).length = sz):∀ (l:List α) (o:Nat),(∀ i y,l[i]? = some y → dY Fz w b (o + i * sz) (f y)) → cZ Fz w sz b o (l.map f)
  | [],_,_=>by simp only [List.map_nil,cZ]
  | y :: l,o,h=>by
    simp only [List.map_cons,cZ]
    refine ⟨hf y,by simpa using h 0 y rfl,y9 hf l (o + sz) fun i z hz=>?_⟩
    rw [show o + sz + i * sz = o + (i + 1) * sz from by rw [Nat.add_mul];omega]
    exact h (i + 1) z hz
theorem J4 (a:Addr) (x y:Nat):(a.add x).add y = a.add (x + y):=by
  unfold Addr.add
  by_cases hx:x = 0
  · subst hx;simp
  · by_cases hy:y = 0
    · subst hy;simp [hx]
    · simp [hx,hy,Nat.add_assoc]
theorem za {w:World} {a:Addr} {u:Value} (h:w.cell? a = some u):a = ⟨a.block,a.off,none⟩ ∧ a.block < w.heap.size:=by
  unfold World.cell? at h
  split at h
  · rename_i c _ _ hb
    split at h
    · cases h
    · rename_i hs
      obtain ⟨b,o,s⟩:=a
      cases s with
      | none=>exact ⟨rfl,by have:=(Array.getElem?_eq_some_iff.mp hb).1;exact this⟩
      | some s=>simp at hs
  · cases h
theorem J5 {α:Type} {f:α → List FV} {T e:TypeId} {G:α → Prop} (sz:Nat) (h:P.underlying T = some (.slice e)) (hc:P.cellsOf e = sz) (h0:0 < sz) (hf:∀ a,(f a).length = sz) (hby:decide (1 ≤ P.bytesOf e) = true) (hd:Iz P e f G) :
    Iz P T (fun l:List α=>[FV.sl (l.map f)]) (fun l=>l.length ≤ 140737488351232 ∧ ∀ x ∈ l,G x):=by
  intro H enc w spare held fuel cs x hx hz
  rcases DataW.trod_slice h hx with ⟨rfl,rfl⟩ | ⟨a,len,cap,elems,rest,n,_,rfl,rfl,hb,hl,hm,hlen,hel,_,_⟩
  · refine ⟨[],⟨?_,trivial⟩,by simp⟩
    simp only [fu]
    exact ⟨none,0,rfl,Nat.le_refl _,by simp,.inl rfl⟩
  · have hw:∀ m ∈ (elems.length + rest.length) * P.bytesOf e :: (DataW.weightsAll P e (elems.map (·.1)) ++ DataW.weightsAll P e (rest.map (·.1))),m ≤ reachBytes:=by
      intro m hm'
      refine hz m ?_
      simp only [DataW.weights,h,List.length_map]
      exact hm'
    obtain ⟨ys,hyl,hys⟩:=uH (α:=α) (Q:=fun i y=>∃ c,w.cells? 0 (a.add (i * P.cellsOf e)) (P.cellsOf e) = some c ∧ bZ (fun k=>k < w.heap.size) w (f y) c ∧ G y) len (fun i hi=>by
      have h1:=hel i hi
      rw [List.getElem?_eq_getElem (by omega),Option.bind_eq_some_iff] at h1
      obtain ⟨c,hc1,hc2⟩:=h1
      obtain ⟨y,hy,hg⟩:=hd enc w spare held n c _ hc2 (fun m hm'=>by
        refine hw m (List.mem_cons_of_mem _ (List.mem_append.mpr (.inl ?_)))
        exact nO (i:=i) (d:=(elems[i]'(by omega)).1) (by rw [List.getElem?_map,List.getElem?_eq_getElem (by omega)];rfl) m hm')
      exact ⟨y,c,hc1,hy,hg⟩)
    have hlen1:(elems.length + rest.length) * P.bytesOf e ≤ reachBytes:=hw _ (by simp)
    have hlm:cap ≤ 9223372036854775807:=by unfold maxLen at hm;omega
    refine ⟨ys,⟨?_,trivial⟩,?_,?_⟩
    · simp only [fu,List.length_map]
      refine ⟨some a,cap,by rw [hyl],by omega,by omega,?_⟩
      cases hy0:ys with
      | nil=>exact .inl rfl
      | cons y0 ys0 =>
        right
        obtain ⟨c0,k0,_,_⟩:=hys 0 y0 (by rw [hy0];rfl)
        rw [hc] at k0
        obtain ⟨_,kl,kc⟩:=World.cells?_some k0
        have k1:=kc 0 h0
        rw [List.getElem?_eq_getElem (by omega)] at k1
        obtain ⟨ea,eb⟩:=za k1
        have ea0:(a.add (0 * sz)).add 0 = a:=by simp [Addr.add]
        rw [ea0] at ea eb
        refine ⟨a.block,a.off,sz,congrArg some ea,eb,?_⟩
        rw [← hy0]
        refine y9 hf ys a.off fun i y hi=>?_
        obtain ⟨c,hc1,hk,_⟩:=hys i y hi
        rw [hc] at hc1
        obtain ⟨_,hcl,hcc⟩:=World.cells?_some hc1
        refine AQ _ c _ hk fun j u hj=>?_
        have hj':j < sz:=by have:=(List.getElem?_eq_some_iff.1 hj).1;omega
        have:=hcc j hj'
        rw [J4,hj] at this
        obtain ⟨e1,_⟩:=za this
        rw [e1] at this
        have e2:a.add (i * sz + j) = ⟨a.block,a.off + i * sz + j,none⟩:=by
          rw [ea];unfold Addr.add;split
          · rename_i hz;congr 1;simp only;omega
          · congr 1;simp only;omega
        rw [e2] at this
        exact this
    · rw [hyl,← hlen]
      have h1:elems.length * P.bytesOf e ≤ (elems.length + rest.length) * P.bytesOf e:=Nat.mul_le_mul_right _ (by omega)
      have h2:reachBytes = 140737488351232:=rfl
      have h3:elems.length * 1 ≤ elems.length * P.bytesOf e:=Nat.mul_le_mul_left _ (of_decide_eq_true hby)
      omega
    · intro y hy
      obtain ⟨i,hi,rfl⟩:=List.mem_iff_getElem.1 hy
      obtain ⟨_,_,_,hg⟩:=hys i _ (List.getElem?_eq_getElem hi)
      exact hg
def QX (P:Program) {α:Type} (sz:Nat) (f:α → List FV) (fs:List (TypeId × Nat)) (off:Nat) (G:α → Prop):Prop :=
  ∀ {H:Type} (enc:TypeId × Value → H) (w:World) (spare:Nat → Bool) (held:Bool) (n:Nat) (cs:List Value) (xs:List (DataW H × List MemPlace)),
    (∀ (i:Nat) (f:TypeId × Nat),fs[i]? = some f → DataW.trod enc P w 0 spare held n f.1 ((cs.drop f.2).take (P.cellsOf f.1)) = xs[i]?) → xs.length = fs.length →
    (∀ (i:Nat) (x:DataW H × List MemPlace) (f:TypeId × Nat),xs[i]? = some x → fs[i]? = some f → ∀ m ∈ x.1.weights P f.1,m ≤ reachBytes) → cs.length = off + sz → ∃ a,bZ (fun k=>k < w.heap.size) w (f a) (cs.drop off) ∧ G a
theorem vG {α:Type} {sz:Nat} {f:α → List FV} {t:TypeId} {off:Nat} {G:α → Prop} (hd:Iz P t f G) (hc:P.cellsOf t = sz):QX P sz f [(t,off)] off G:=by
  intro H enc w spare held n cs xs hf hl hw hn
  match xs,hl with
  | [y],_ =>
    have h1:=hf 0 _ rfl
    have h2:(cs.drop off).take (P.cellsOf t) = cs.drop off:=List.take_of_length_le (by rw [List.length_drop];omega)
    rw [h2] at h1
    exact hd enc w spare held n _ y h1 (hw 0 y _ rfl rfl)
theorem AU {Fz:Nat → Prop} {w:World}:∀ {xs ys:List FV} {cs ds:List Value},bZ Fz w xs cs → bZ Fz w ys ds → bZ Fz w (xs ++ ys) (cs ++ ds)
  | [],_,[],_,_,h=>h
  | [],_,_ :: _,_,h,_=>h.elim
  | _ :: _,_,[],_,h,_=>h.elim
  | x :: xs,ys,c :: cs,ds,h,k=>⟨h.1,AU h.2 k⟩
theorem j3 {α β:Type} {sz sz':Nat} {f:α → List FV} {g:β → List FV} {t:TypeId} {fs:List (TypeId × Nat)} {off:Nat} {G:α → Prop} {G':β → Prop} (hd:Iz P t f G) (hc:P.cellsOf t = sz)
    (hr:QX P sz' g fs (off + sz) G'):QX P (sz + sz') (fun p:α × β=>f p.1 ++ g p.2) ((t,off) :: fs) off (fun p=>G p.1 ∧ G' p.2):=by
  intro H enc w spare held n cs xs hf hl hw hn
  match xs,hl with
  | y :: ys,hl =>
    have h1:=hf 0 _ rfl
    obtain ⟨a,ha,ga⟩:=hd enc w spare held n _ y h1 (hw 0 y _ rfl rfl)
    obtain ⟨b,hb,gb⟩:=hr enc w spare held n cs ys (fun i f hi=>hf (i + 1) f hi) (by simpa using hl) (fun i x f hx hfi=>hw (i + 1) x f hx hfi) (by omega)
    refine ⟨(a,b),?_,ga,gb⟩
    have e:cs.drop off = (cs.drop off).take (P.cellsOf t) ++ cs.drop (off + sz):=by rw [← List.drop_drop,hc,List.take_append_drop]
    rw [e]
    exact AU ha hb
theorem rX {α:Type} {sz:Nat} {f:α → List FV} {T:TypeId} {fs:Array Field} {G:α → Prop} (h:P.underlying T = some (.struct fs)) (hc:P.cellsOf T = sz)
    (hd:QX P sz f (fs.toList.map fun f=>(f.type,f.offset)) 0 G):Iz P T f G:=by
  intro H enc w spare held fuel cs x hx hz
  obtain ⟨xs,n,_,rfl,hl,hlen,hf⟩:=DataW.trod_struct h hx
  have hd':=hd enc w spare held n cs xs ?_ (by rw [List.length_map,Array.length_toList];exact hlen) ?_ (by rw [Nat.zero_add,← hc];exact hl)
  · obtain ⟨a,ha,ga⟩:=hd'
    exact ⟨a,by simpa using ha,ga⟩
  · intro i f hi
    rw [List.getElem?_map,Option.map_eq_some_iff] at hi
    obtain ⟨f',hf',rfl⟩:=hi
    exact hf i f' (by rw [← Array.getElem?_toList];exact hf')
  · intro i x f hxi hfi m hm
    refine hz m ?_
    simp only [DataW.weights,h]
    refine DataW.weights_mem_each (j:=i) (t:=f.1) (d:=x.1) ?_ ?_ m hm
    · rw [List.getElem?_map] at hfi ⊢
      rw [Option.map_eq_some_iff] at hfi ⊢
      obtain ⟨f',hf',rfl⟩:=hfi
      exact ⟨f',hf',rfl⟩
    · rw [List.getElem?_map,hxi];rfl
theorem wS {α β:Type} {T:TypeId} {f:α → List FV} {f':β → List FV} {G:α → Prop} {G':β → Prop} (g:α → β) (hg:∀ a,f' (g a) = f a) (hG:∀ a,G a → G' (g a)) (hd:Iz P T f G):Iz P T f' G':=by
  intro H enc w spare held fuel cs x hx hz
  obtain ⟨a,ha,ga⟩:=hd enc w spare held fuel cs x hx hz
  exact ⟨g a,by rw [hg];exact ha,hG a ga⟩
theorem ze {w:World} {r:Reach} {base:Nat} {t:TypeId} {fs:Array Field} {v:Value} (ht:P.underlying t = some (.struct fs)) (h:Value.okWide P w r base t v):∃ cs,v = .agg cs:=by
  simp only [Value.okWide,ht] at h
  obtain ⟨cs,h1,_⟩:=h
  exact ⟨cs,h1⟩
theorem EJ {Fz:Nat → Prop} {w:World}:∀ {xs:List FV} {cs:List Value},bZ Fz w xs cs → lI Fz w (xs.map .f) cs []
  | [],[],_=>rfl
  | [],_ :: _,h=>h.elim
  | _ :: _,[],h=>h.elim
  | x :: xs,c :: cs,h=>⟨[],[],⟨h.1,rfl⟩,EJ h.2,rfl⟩
theorem Nq {Fz:Nat → Prop} {w:World} {xs:List FV} {cs:Array Value} (h:bZ Fz w xs cs.toList):qC Fz w (.agg (xs.map .f)) (.agg cs) []:=⟨cs,rfl,EJ h⟩
theorem Gh {Fz:Nat → Prop} {w:World} {x:AV} {v:Value} {xs:List AV} {vs:List Value} (h:qC Fz w x v []) (k:fM Fz w xs vs []):fM Fz w (x :: xs) (v :: vs) []:=⟨[],[],h,k,rfl⟩
theorem J6 {Fz:Nat → Prop} {w:World}:fM Fz w [] [] []:=rfl
end
end Go.Proofs.Ytdkkgecdhapfhaa.Ev
set_option maxRecDepth 100000
namespace Go.Proofs.Ytdkkgecdhapfhaa.Kn
open Go Ev
theorem opQ : Iz Try.prog 32 rQ (fun _=>True) :=
  wS (fun p:ByteArray × Int × Int=>⟨p.1,p.2.1,p.2.2⟩) (by exact fun _=>rfl) (by exact fun _ _=>trivial) (rX Try.underlying32 (by kernel_rfl) (j3 (sz:=1) (sz':=2) (IB Try.underlying9) (by kernel_rfl) (j3 (sz:=1) (sz':=1) (uG Try.underlying3) (by kernel_rfl) (vG (uG Try.underlying3) (by kernel_rfl)))))
theorem opD : Iz Try.prog 33 (fun d:List ByteArray=>[.sl (d.map iB)]) (fun d=>d.length ≤ 140737488351232) :=
  wS (fun d:List ByteArray=>d) (by exact fun _=>rfl) (by exact fun _ h=>h.1) (J5 1 Try.underlying33 (by kernel_rfl) (by decide) (fun _=>rfl) (by kernel_rfl) (IB Try.underlying9))
theorem opS : Iz Try.prog 35 rS (fun x=>x.d.length ≤ 140737488351232) :=
  wS (fun p:Qn × List ByteArray × Int=>⟨p.1.q,p.1.t,p.1.c,p.2.1,p.2.2⟩) (by exact fun _=>rfl) (by exact fun _ h=>h.2.1) (rX Try.underlying35 (by kernel_rfl) (j3 (sz:=3) (sz':=2) opQ (by kernel_rfl) (j3 (sz:=1) (sz':=1) opD (by kernel_rfl) (vG (uG Try.underlying3) (by kernel_rfl)))))
theorem opO : Iz Try.prog 80 OT (fun x=>x.s.d.length ≤ 140737488351232) :=
  wS (fun p:Int × Int × Qn × Bool × Se=>⟨p.1,p.2.1,p.2.2.1,p.2.2.2.1,p.2.2.2.2⟩) (by exact fun _=>rfl) (by exact fun _ h=>h.2.2.2.2) (rX Try.underlying80 (by kernel_rfl) (j3 (sz:=1) (sz':=10) (uG Try.underlying3) (by kernel_rfl) (j3 (sz:=1) (sz':=9) (uG Try.underlying3) (by kernel_rfl) (j3 (sz:=3) (sz':=6) opQ (by kernel_rfl) (j3 (sz:=1) (sz':=5) (Np Try.underlying4) (by kernel_rfl) (vG opS (by kernel_rfl)))))))
end Go.Proofs.Ytdkkgecdhapfhaa.Kn

/- A part of the proof of NegCovers: cut, joined and given short names by a program of this session (wip/tools/pack.py); Lean checks it. No condition. -/
import Derived.Test.YtdkkgecdhapfhaaPNCrsi
import Derived.Test.YtdkkgecdhapfhaaPNCrsk
import Derived.Test.YtdkkgecdhapfhaaPNCrsj
import Derived.Test.YtdkkgecdhapfhaaPNCrsh
import Derived.Test.YtdkkgecdhapfhaaPNCrse
import Derived.ProofKit
import Derived.OpenShut
import Derived.SizedLaws
import Derived.ChangeArms
import Derived.ChangeSlices
import Derived.Carry
import Derived.KernelRfl
import Derived.Test.YtdkkgecdhapfhaaPNCrsd
set_option linter.unusedSectionVars false
set_option linter.unusedSimpArgs false
set_option linter.unusedVariables false
namespace Go.Proofs.Ytdkkgecdhapfhaa.ZQ
open Go.RowKit Go.Proofs.YtdkkgecdhapfhaaW.bD Go.Proofs.YtdkkgecdhapfhaaW.dL Go.Proofs.YtdkkgecdhapfhaaW.eP
attribute [local go_sem] jv jw kF kG iG iH jy jA
attribute [local go_sem high] VZ
def aH.j0 : Nat → Int → Bool → Option (Int × Int × Int)
  | 0,_,_=>none
  | k + 1,x3,x4=>if x4 = true then (some (0,1,0)) else (if x3 = 6 then (some (0,2,20)) else (if x3 = 15 then (some (2,1,0)) else (if x3 = 33 then (some (6,1,0)) else (if x3 = 1 then (some (4,0,0)) else (if x3 = 28 then (some (16,0,0)) else (some (0,0,0)))))))
def aH.f (k:Nat) (a0:Int):Option (Int × Int × Int):=if a0 = 2 then (aH.j0 k a0 (a0 == 2)) else (if a0 = 5 then (aH.j0 k a0 (a0 == 5)) else (aH.j0 k a0 (a0 == 12)))
set_option maxHeartbeats 8000000 in
set_option maxRecDepth 100000 in
theorem aH.calls (k:Nat) (a0:Int) (r1:Int) (r2:Int) (r3:Int) (w:World) (h:aH.f k a0 = some (r1,r2,r3)) :
    Calls Try.prog 106 #[.int .i64 a0] w fun e w'=>e = .returned (.agg #[.int .i64 r1,.int .i64 r2,.int .i64 r3]) ∧ Below w.heap.size w w':=by
  have Ny:=Try.underlying142
  have HB:=aj.mk (Below.refl w.heap.size w)
  have H:(if a0 = 2 then (aH.j0 k a0 (a0 == 2)) else (if a0 = 5 then (aH.j0 k a0 (a0 == 5)) else (aH.j0 k a0 (a0 == 12)))) = some (r1,r2,r3):=h
  clear h
  have VH:=aj.mk H
  clear H
  go_enter Try.func106,Try.ntmps106
  go_upto_if 4 with (first | ((with_reducible refine gI (N:=2) rfl ?_);refine fQ ?hg (N:=2) ?hd (cs:=#[.int .i64 0,.int .i64 0,.int .i64 0]) (t:=142) ?hr ?_;(case hd=>rfl);(case hg=>rfl);(case hr=>first | (go_simp;done) | (go_simp;rfl));intro gV hg w3 gU hb;have d9:=aj.mk (bE (by repeat (first | (with_reducible first | exact HB.out | apply ak | apply ah | apply au) | exact HB.out)) hb);have gX:=aj.mk (gU);have jg:=aj.mk ((by rw [hg];exact (bL (by repeat (first | (with_reducible first | exact HB.out | apply ak | apply ah | apply au) | exact HB.out))):w.heap.size ≤ gV));have jN:=aj.mk ((by rw [hg];exact (bL (by repeat (first | (with_reducible first | exact HB.out | apply ak | apply ah | apply au) | exact HB.out))):w.heap.size ≤ gV));clear HB;have HB:=d9;have dW:=gX;have ahi:=jg;have rF:=jN;clear d9 gX jg jN;clear hb gU hg))
  (try simp only [Act.put,List.setIfInBounds_toArray,List.set_cons_zero,List.set_cons_succ])
  go_cut [4] (fun v4 wc=>∃ (kq:Nat) (qN:Bool),v4 = .bool qN ∧ aj (aH.j0 kq a0 qN = some (r1,r2,r3)) ∧ aj (kq ≤ k) ∧ aj (wc.heap[gV]? = some (.cells #[.int .i64 0,.int .i64 0,.int .i64 0] 142 (0,0))) ∧ aj (Below w.heap.size w wc))
  case first =>
    have H:=VH.out
    clear VH
    by_cases c4:a0 = 2
    · rw [if_pos c4] at H
      have qP:(a0 == 2) = true:=beq_iff_eq.mpr c4
      have J4:(a0 != 2) = false:=bne_eq_false_iff_eq.mpr c4
      clear c4
      (first | rw [qP] | rw [M8] | (simp only [gP,iy];rw [qP]) | skip)
      have H':=aj.mk H
      clear H
      go_wp2
      go_meet
      case rel=>exact ⟨_,((a0 == 2)),(by first | rfl | (simp;done) | (simp [*];done) | (simp [B.aV];done) | (simp [B.aW];done)),H',⟨by first | omega | exact Nat.le_refl _⟩,⟨by (with_reducible repeat (first | refine aG ?_ _ | refine aI ?_ | refine aA ?_ _));exact dW.out⟩,⟨by repeat (first | (with_reducible first | exact HB.out | apply ak | apply ah | apply au | refine aR ?_ rF.out) | exact HB.out)⟩⟩
    · rw [if_neg c4] at H
      have qP:(a0 == 2) = false:=beq_eq_false_iff_ne.mpr c4
      have J4:(a0 != 2) = true:=bne_iff_ne.mpr c4
      (first | rw [qP] | rw [M8] | (simp only [gP,iy];rw [qP]) | skip)
      by_cases c5:a0 = 5
      · rw [if_pos c5] at H
        have pX:(a0 == 5) = true:=beq_iff_eq.mpr c5
        have vJ:(a0 != 5) = false:=bne_eq_false_iff_eq.mpr c5
        clear c5
        have H':=aj.mk H
        clear H
        go_wp2
        go_meet
        case rel=>exact ⟨_,((a0 == 5)),(by first | rfl | (simp;done) | (simp [*];done) | (simp [B.aV];done) | (simp [B.aW];done)),H',⟨by first | omega | exact Nat.le_refl _⟩,⟨by (with_reducible repeat (first | refine aG ?_ _ | refine aI ?_ | refine aA ?_ _));exact dW.out⟩,⟨by repeat (first | (with_reducible first | exact HB.out | apply ak | apply ah | apply au | refine aR ?_ rF.out) | exact HB.out)⟩⟩
      · rw [if_neg c5] at H
        have pX:(a0 == 5) = false:=beq_eq_false_iff_ne.mpr c5
        have vJ:(a0 != 5) = true:=bne_iff_ne.mpr c5
        have H':=aj.mk H
        clear H
        go_wp2
        go_meet
        case rel=>exact ⟨_,((a0 == 12)),(by first | rfl | (simp;done) | (simp [*];done) | (simp [B.aV];done) | (simp [B.aW];done)),H',⟨by first | omega | exact Nat.le_refl _⟩,⟨by (with_reducible repeat (first | refine aG ?_ _ | refine aI ?_ | refine aA ?_ _));exact dW.out⟩,⟨by repeat (first | (with_reducible first | exact HB.out | apply ak | apply ah | apply au | refine aR ?_ rF.out) | exact HB.out)⟩⟩
  case rest =>
    clear VH
    try clear c1
    try clear p2
    try clear c4
    try clear qP
    try clear J4
    try clear M8
    try clear c5
    try clear pX
    try clear vJ
    obtain ⟨kq,qN,rfl,HA,HJ1,dW,HB⟩:=hcut
    cases kq with
    | zero=>exact absurd HA.out (by simp [aH.j0])
    | succ kj1 =>
      have H:=HA.out
      clear HA
      simp only [aH.j0] at H
      by_cases c6:qN = true
      · subst c6
        have H1:(some (0,1,0)) = some (r1,r2,r3):=by rw [if_pos rfl] at H;exact H
        clear H
        have H:=H1
        clear H1
        simp only [Option.some.injEq,Prod.mk.injEq] at H
        obtain ⟨rfl,rfl,rfl⟩:=H
        have afn:wc.cell? ⟨gV,0,none⟩ = some (.int .i64 0):=(aM dW.out 0).trans rfl
        have afo:wc.cell? ⟨gV,1,none⟩ = some (.int .i64 0):=(aM dW.out 1).trans rfl
        have afp:wc.cell? ⟨gV,2,none⟩ = some (.int .i64 0):=(aM dW.out 2).trans rfl
        have afq:=ay dW.out 0
        have afr:=ay dW.out 1
        have afs:=ay dW.out 2
        go_wp2
        refine bodyPost_ret (results_cell_row rfl _ _ gV 142 #[.int .i64 0,.int .i64 1,.int .i64 0] (0,0) _ rfl (by (with_reducible repeat (first | refine aG ?_ _ | refine aI ?_ | refine aA ?_ _));refine bU (cs:=#[.int .i64 0,.int .i64 1,.int .i64 0]) ?_ 2 _ rfl;(with_reducible repeat (first | refine aG ?_ _ | refine aI ?_ | refine aA ?_ _));refine bU (cs:=#[.int .i64 0,.int .i64 0,.int .i64 0]) ?_ 1 _ rfl;(with_reducible repeat (first | refine aG ?_ _ | refine aI ?_ | refine aA ?_ _));refine bU (cs:=#[.int .i64 0,.int .i64 0,.int .i64 0]) ?_ 0 _ rfl;(with_reducible repeat (first | refine aG ?_ _ | refine aI ?_ | refine aA ?_ _));exact dW.out) Try.underlying142 rfl (by kernel_rfl)) rfl ?_
        exact ⟨by first | rfl | (simp [aJ,aK] <;> rfl) | (simp [*,aJ,aK] <;> rfl),by repeat (first | (with_reducible first | exact HB.out | apply ak | apply ah | apply au | refine aR ?_ rF.out) | exact HB.out)⟩
      · replace c6:=Bool.eq_false_iff.mpr c6
        subst c6
        have H1:(if a0 = 6 then (some (0,2,20)) else (if a0 = 15 then (some (2,1,0)) else (if a0 = 33 then (some (6,1,0)) else (if a0 = 1 then (some (4,0,0)) else (if a0 = 28 then (some (16,0,0)) else (some (0,0,0))))))) = some (r1,r2,r3):=by rw [if_neg (show ¬ (false = true) by decide)] at H;exact H
        clear H
        have H:=H1
        clear H1
        by_cases c8:a0 = 6
        · rw [if_pos c8] at H
          have rZ:(a0 == 6) = true:=beq_iff_eq.mpr c8
          have r9:(a0 != 6) = false:=bne_eq_false_iff_eq.mpr c8
          clear c8
          simp only [Option.some.injEq,Prod.mk.injEq] at H
          obtain ⟨rfl,rfl,rfl⟩:=H
          have Nz:wc.cell? ⟨gV,0,none⟩ = some (.int .i64 0):=(aM dW.out 0).trans rfl
          have NA:wc.cell? ⟨gV,1,none⟩ = some (.int .i64 0):=(aM dW.out 1).trans rfl
          have NC:wc.cell? ⟨gV,2,none⟩ = some (.int .i64 0):=(aM dW.out 2).trans rfl
          have ND:=ay dW.out 0
          have NG:=ay dW.out 1
          have NH:=ay dW.out 2
          go_wp2
          refine bodyPost_ret (results_cell_row rfl _ _ gV 142 #[.int .i64 0,.int .i64 2,.int .i64 20] (0,0) _ rfl (by (with_reducible repeat (first | refine aG ?_ _ | refine aI ?_ | refine aA ?_ _));refine bU (cs:=#[.int .i64 0,.int .i64 2,.int .i64 0]) ?_ 2 _ rfl;(with_reducible repeat (first | refine aG ?_ _ | refine aI ?_ | refine aA ?_ _));refine bU (cs:=#[.int .i64 0,.int .i64 0,.int .i64 0]) ?_ 1 _ rfl;(with_reducible repeat (first | refine aG ?_ _ | refine aI ?_ | refine aA ?_ _));refine bU (cs:=#[.int .i64 0,.int .i64 0,.int .i64 0]) ?_ 0 _ rfl;(with_reducible repeat (first | refine aG ?_ _ | refine aI ?_ | refine aA ?_ _));exact dW.out) Try.underlying142 rfl (by kernel_rfl)) rfl ?_
          exact ⟨by first | rfl | (simp [aJ,aK] <;> rfl) | (simp [*,aJ,aK] <;> rfl),by repeat (first | (with_reducible first | exact HB.out | apply ak | apply ah | apply au | refine aR ?_ rF.out) | exact HB.out)⟩
        · rw [if_neg c8] at H
          have rZ:(a0 == 6) = false:=beq_eq_false_iff_ne.mpr c8
          have r9:(a0 != 6) = true:=bne_iff_ne.mpr c8
          by_cases c10:a0 = 15
          · rw [if_pos c10] at H
            have rE:(a0 == 15) = true:=beq_iff_eq.mpr c10
            have A8:(a0 != 15) = false:=bne_eq_false_iff_eq.mpr c10
            clear c10
            simp only [Option.some.injEq,Prod.mk.injEq] at H
            obtain ⟨rfl,rfl,rfl⟩:=H
            have adh:wc.cell? ⟨gV,0,none⟩ = some (.int .i64 0):=(aM dW.out 0).trans rfl
            have adi:wc.cell? ⟨gV,1,none⟩ = some (.int .i64 0):=(aM dW.out 1).trans rfl
            have adj:wc.cell? ⟨gV,2,none⟩ = some (.int .i64 0):=(aM dW.out 2).trans rfl
            have adk:=ay dW.out 0
            have adl:=ay dW.out 1
            have adn:=ay dW.out 2
            go_wp2
            refine bodyPost_ret (results_cell_row rfl _ _ gV 142 #[.int .i64 2,.int .i64 1,.int .i64 0] (0,0) _ rfl (by (with_reducible repeat (first | refine aG ?_ _ | refine aI ?_ | refine aA ?_ _));refine bU (cs:=#[.int .i64 2,.int .i64 1,.int .i64 0]) ?_ 2 _ rfl;(with_reducible repeat (first | refine aG ?_ _ | refine aI ?_ | refine aA ?_ _));refine bU (cs:=#[.int .i64 2,.int .i64 0,.int .i64 0]) ?_ 1 _ rfl;(with_reducible repeat (first | refine aG ?_ _ | refine aI ?_ | refine aA ?_ _));refine bU (cs:=#[.int .i64 0,.int .i64 0,.int .i64 0]) ?_ 0 _ rfl;(with_reducible repeat (first | refine aG ?_ _ | refine aI ?_ | refine aA ?_ _));exact dW.out) Try.underlying142 rfl (by kernel_rfl)) rfl ?_
            exact ⟨by first | rfl | (simp [aJ,aK] <;> rfl) | (simp [*,aJ,aK] <;> rfl),by repeat (first | (with_reducible first | exact HB.out | apply ak | apply ah | apply au | refine aR ?_ rF.out) | exact HB.out)⟩
          · rw [if_neg c10] at H
            have rE:(a0 == 15) = false:=beq_eq_false_iff_ne.mpr c10
            have A8:(a0 != 15) = true:=bne_iff_ne.mpr c10
            by_cases c12:a0 = 33
            · rw [if_pos c12] at H
              have uF:(a0 == 33) = true:=beq_iff_eq.mpr c12
              have uG:(a0 != 33) = false:=bne_eq_false_iff_eq.mpr c12
              clear c12
              simp only [Option.some.injEq,Prod.mk.injEq] at H
              obtain ⟨rfl,rfl,rfl⟩:=H
              have CY:wc.cell? ⟨gV,0,none⟩ = some (.int .i64 0):=(aM dW.out 0).trans rfl
              have CZ:wc.cell? ⟨gV,1,none⟩ = some (.int .i64 0):=(aM dW.out 1).trans rfl
              have C8:wc.cell? ⟨gV,2,none⟩ = some (.int .i64 0):=(aM dW.out 2).trans rfl
              have C9:=ay dW.out 0
              have Da:=ay dW.out 1
              have Db:=ay dW.out 2
              go_wp2
              refine bodyPost_ret (results_cell_row rfl _ _ gV 142 #[.int .i64 6,.int .i64 1,.int .i64 0] (0,0) _ rfl (by (with_reducible repeat (first | refine aG ?_ _ | refine aI ?_ | refine aA ?_ _));refine bU (cs:=#[.int .i64 6,.int .i64 1,.int .i64 0]) ?_ 2 _ rfl;(with_reducible repeat (first | refine aG ?_ _ | refine aI ?_ | refine aA ?_ _));refine bU (cs:=#[.int .i64 6,.int .i64 0,.int .i64 0]) ?_ 1 _ rfl;(with_reducible repeat (first | refine aG ?_ _ | refine aI ?_ | refine aA ?_ _));refine bU (cs:=#[.int .i64 0,.int .i64 0,.int .i64 0]) ?_ 0 _ rfl;(with_reducible repeat (first | refine aG ?_ _ | refine aI ?_ | refine aA ?_ _));exact dW.out) Try.underlying142 rfl (by kernel_rfl)) rfl ?_
              exact ⟨by first | rfl | (simp [aJ,aK] <;> rfl) | (simp [*,aJ,aK] <;> rfl),by repeat (first | (with_reducible first | exact HB.out | apply ak | apply ah | apply au | refine aR ?_ rF.out) | exact HB.out)⟩
            · rw [if_neg c12] at H
              have uF:(a0 == 33) = false:=beq_eq_false_iff_ne.mpr c12
              have uG:(a0 != 33) = true:=bne_iff_ne.mpr c12
              by_cases c14:a0 = 1
              · rw [if_pos c14] at H
                have A9:(a0 == 1) = true:=beq_iff_eq.mpr c14
                have S9:(a0 != 1) = false:=bne_eq_false_iff_eq.mpr c14
                clear c14
                simp only [Option.some.injEq,Prod.mk.injEq] at H
                obtain ⟨rfl,rfl,rfl⟩:=H
                have Dc:wc.cell? ⟨gV,0,none⟩ = some (.int .i64 0):=(aM dW.out 0).trans rfl
                have Df:wc.cell? ⟨gV,1,none⟩ = some (.int .i64 0):=(aM dW.out 1).trans rfl
                have Dg:wc.cell? ⟨gV,2,none⟩ = some (.int .i64 0):=(aM dW.out 2).trans rfl
                have Dh:=ay dW.out 0
                have Di:=ay dW.out 1
                have Dj:=ay dW.out 2
                go_wp2
                refine bodyPost_ret (results_cell_row rfl _ _ gV 142 #[.int .i64 4,.int .i64 0,.int .i64 0] (0,0) _ rfl (by (with_reducible repeat (first | refine aG ?_ _ | refine aI ?_ | refine aA ?_ _));refine bU (cs:=#[.int .i64 4,.int .i64 0,.int .i64 0]) ?_ 2 _ rfl;(with_reducible repeat (first | refine aG ?_ _ | refine aI ?_ | refine aA ?_ _));refine bU (cs:=#[.int .i64 4,.int .i64 0,.int .i64 0]) ?_ 1 _ rfl;(with_reducible repeat (first | refine aG ?_ _ | refine aI ?_ | refine aA ?_ _));refine bU (cs:=#[.int .i64 0,.int .i64 0,.int .i64 0]) ?_ 0 _ rfl;(with_reducible repeat (first | refine aG ?_ _ | refine aI ?_ | refine aA ?_ _));exact dW.out) Try.underlying142 rfl (by kernel_rfl)) rfl ?_
                exact ⟨by first | rfl | (simp [aJ,aK] <;> rfl) | (simp [*,aJ,aK] <;> rfl),by repeat (first | (with_reducible first | exact HB.out | apply ak | apply ah | apply au | refine aR ?_ rF.out) | exact HB.out)⟩
              · rw [if_neg c14] at H
                have A9:(a0 == 1) = false:=beq_eq_false_iff_ne.mpr c14
                have S9:(a0 != 1) = true:=bne_iff_ne.mpr c14
                by_cases c16:a0 = 28
                · rw [if_pos c16] at H
                  have Iw:(a0 == 28) = true:=beq_iff_eq.mpr c16
                  have aaK:(a0 != 28) = false:=bne_eq_false_iff_eq.mpr c16
                  clear c16
                  simp only [Option.some.injEq,Prod.mk.injEq] at H
                  obtain ⟨rfl,rfl,rfl⟩:=H
                  have ado:wc.cell? ⟨gV,0,none⟩ = some (.int .i64 0):=(aM dW.out 0).trans rfl
                  have adp:wc.cell? ⟨gV,1,none⟩ = some (.int .i64 0):=(aM dW.out 1).trans rfl
                  have adq:wc.cell? ⟨gV,2,none⟩ = some (.int .i64 0):=(aM dW.out 2).trans rfl
                  have adr:=ay dW.out 0
                  have ads:=ay dW.out 1
                  have adt:=ay dW.out 2
                  go_wp2
                  refine bodyPost_ret (results_cell_row rfl _ _ gV 142 #[.int .i64 16,.int .i64 0,.int .i64 0] (0,0) _ rfl (by (with_reducible repeat (first | refine aG ?_ _ | refine aI ?_ | refine aA ?_ _));refine bU (cs:=#[.int .i64 16,.int .i64 0,.int .i64 0]) ?_ 2 _ rfl;(with_reducible repeat (first | refine aG ?_ _ | refine aI ?_ | refine aA ?_ _));refine bU (cs:=#[.int .i64 16,.int .i64 0,.int .i64 0]) ?_ 1 _ rfl;(with_reducible repeat (first | refine aG ?_ _ | refine aI ?_ | refine aA ?_ _));refine bU (cs:=#[.int .i64 0,.int .i64 0,.int .i64 0]) ?_ 0 _ rfl;(with_reducible repeat (first | refine aG ?_ _ | refine aI ?_ | refine aA ?_ _));exact dW.out) Try.underlying142 rfl (by kernel_rfl)) rfl ?_
                  exact ⟨by first | rfl | (simp [aJ,aK] <;> rfl) | (simp [*,aJ,aK] <;> rfl),by repeat (first | (with_reducible first | exact HB.out | apply ak | apply ah | apply au | refine aR ?_ rF.out) | exact HB.out)⟩
                · rw [if_neg c16] at H
                  have Iw:(a0 == 28) = false:=beq_eq_false_iff_ne.mpr c16
                  have aaK:(a0 != 28) = true:=bne_iff_ne.mpr c16
                  simp only [Option.some.injEq,Prod.mk.injEq] at H
                  obtain ⟨rfl,rfl,rfl⟩:=H
                  have IX:wc.cell? ⟨gV,0,none⟩ = some (.int .i64 0):=(aM dW.out 0).trans rfl
                  have IY:wc.cell? ⟨gV,1,none⟩ = some (.int .i64 0):=(aM dW.out 1).trans rfl
                  have IZ:wc.cell? ⟨gV,2,none⟩ = some (.int .i64 0):=(aM dW.out 2).trans rfl
                  have I4:=ay dW.out 0
                  have I5:=ay dW.out 1
                  have I6:=ay dW.out 2
                  go_wp2
                  refine bodyPost_ret (results_cell_row rfl _ _ gV 142 #[.int .i64 0,.int .i64 0,.int .i64 0] (0,0) _ rfl (by (with_reducible repeat (first | refine aG ?_ _ | refine aI ?_ | refine aA ?_ _));refine bU (cs:=#[.int .i64 0,.int .i64 0,.int .i64 0]) ?_ 2 _ rfl;(with_reducible repeat (first | refine aG ?_ _ | refine aI ?_ | refine aA ?_ _));refine bU (cs:=#[.int .i64 0,.int .i64 0,.int .i64 0]) ?_ 1 _ rfl;(with_reducible repeat (first | refine aG ?_ _ | refine aI ?_ | refine aA ?_ _));refine bU (cs:=#[.int .i64 0,.int .i64 0,.int .i64 0]) ?_ 0 _ rfl;(with_reducible repeat (first | refine aG ?_ _ | refine aI ?_ | refine aA ?_ _));exact dW.out) Try.underlying142 rfl (by kernel_rfl)) rfl ?_
                  exact ⟨by first | rfl | (simp [aJ,aK] <;> rfl) | (simp [*,aJ,aK] <;> rfl),by repeat (first | (with_reducible first | exact HB.out | apply ak | apply ah | apply au | refine aR ?_ rF.out) | exact HB.out)⟩
def bq.l0 : Nat → ByteArray → Int → Option (Bool)
  | 0,_,_=>none
  | k + 1,x0,x3=>if x3 < (x0.size:Int) then (if 0 ≤ x3 then (bq.l0 k x0 (wrap64 ((wrap64 (x3 + 1)) + (wrap64 (bt x0 x3))))) else (none)) else (if x3 = (x0.size:Int) then (some (decide (x3 > 0))) else (some false))
def bq.f (k:Nat) (a0:ByteArray):Option (Bool):=bq.l0 k a0 0
set_option maxHeartbeats 8000000 in
set_option maxRecDepth 100000 in
theorem bq.calls (k:Nat) (a0:ByteArray) (r:Bool) (w:World) (h:bq.f k a0 = some r) :
    Calls Try.prog 117 #[.string a0] w fun e w'=>e = .returned (.bool r) ∧ aY w w':=by
  have H:(bq.l0 k a0 0) = some r:=h
  clear h
  have H':=aj.mk H
  clear H
  go_enter Try.func117,Try.ntmps117
  go_wp2
  go_loopg [3] k (fun kq v3 w'=>∃ (oL:Int),v3 = .int .i64 oL ∧ aj (bq.l0 kq a0 oL = some r) ∧ aj (kq ≤ k) ∧ aY w w')
  case atStart=>exact ⟨(0),(by first | rfl | (simp;done) | (simp [*];done) | (simp [B.aV];done) | (simp [B.aW];done)),H',⟨Nat.le_refl _⟩,by repeat (first | exact aY.refl _ | apply aY.step)⟩
  case round =>
    clear H'
    try clear c1
    obtain ⟨oL,rfl,HA,uD,⟨m1,rfl⟩⟩:=hrel
    cases gk with
    | zero=>exact absurd HA.out (by simp [bq.l0])
    | succ k1 =>
      have H:=HA.out
      clear HA
      simp only [bq.l0] at H
      by_cases c2:oL < (a0.size:Int)
      · rw [if_pos c2] at H
        have wL:decide (oL < (a0.size:Int)) = true:=decide_eq_true c2
        clear c2
        by_cases c3:0 ≤ oL
        · rw [if_pos c3] at H
          have qQ:decide (0 ≤ oL) = true:=decide_eq_true c3
          clear c3
          have H':=aj.mk H
          clear H
          have p4:0 ≤ (oL:Int):=of_decide_eq_true (by first | (with_reducible assumption) | assumption)
          have q4:oL < (a0.size:Int):=of_decide_eq_true (by first | (with_reducible assumption) | assumption)
          have hx4:=nL a0 oL
          replace p4:=eq_true p4
          replace q4:=eq_true q4
          go_wp2
          go_roundg k1
          case measure=>have:=uD.out;omega
          case rel=>exact ⟨(wrap64 ((wrap64 (oL + 1)) + (wrap64 (bt a0 oL)))),(by first | rfl | (simp;done) | (simp [*];done) | (simp [B.aV];done) | (simp [B.aW];done)),H',⟨by have:=uD.out;omega⟩,by repeat (first | exact aY.refl _ | apply aY.step)⟩
        · rw [if_neg c3] at H
          exact absurd H (by simp)
      · rw [if_neg c2] at H
        have wL:decide (oL < (a0.size:Int)) = false:=decide_eq_false c2
        clear c2
        by_cases c5:oL = (a0.size:Int)
        · rw [if_pos c5] at H
          have pX:(oL == (a0.size:Int)) = true:=beq_iff_eq.mpr c5
          have vJ:(oL != (a0.size:Int)) = false:=bne_eq_false_iff_eq.mpr c5
          clear c5
          obtain rfl:=Option.some.inj H
          go_wp2
          go_ret
          exact ⟨by first | rfl | (simp;done) | (simp [*];done),by repeat (first | exact aY.refl _ | apply aY.step)⟩
        · rw [if_neg c5] at H
          have pX:(oL == (a0.size:Int)) = false:=beq_eq_false_iff_ne.mpr c5
          have vJ:(oL != (a0.size:Int)) = true:=bne_iff_ne.mpr c5
          obtain rfl:=Option.some.inj H
          go_wp2
          go_ret
          exact ⟨by first | rfl | (simp;done) | (simp [*];done),by repeat (first | exact aY.refl _ | apply aY.step)⟩
def aX.l0 : Nat → ByteArray → Int → Int → ByteArray → Int → Int → Int → Int → Int → Option (ByteArray × Int)
  | 0,_,_,_,_,_,_,_,_,_=>none
  | k + 1,x0,x1,x2,x13,Qj,x15,QL,I7,I8=>if x15 < I7 then ((aU.f k x0 Qj).bind fun I9=>(if I9.2.2 = 0 then (if x13.size + I9.1.size ≤ 9223372036854775807 then (aX.l0 k x0 x1 x2 (x13 ++ I9.1) I9.2.1 (wrap64 (x15 + 1)) QL I7 I8) else (none)) else (some ((⟨#[]⟩:ByteArray),4)))) else (if (wrap64 (Qj + I8)) = (wrap64 (x1 + x2)) then (if 0 ≤ Qj then (if Qj ≤ (wrap64 (x1 + x2)) then (if (wrap64 (x1 + x2)) ≤ (x0.size:Int) then (if x13.size + (x0.extract (Qj:Int).toNat ((wrap64 (x1 + x2)):Int).toNat).size ≤ 9223372036854775807 then (if ((x13 ++ (x0.extract (Qj:Int).toNat ((wrap64 (x1 + x2)):Int).toNat)).size:Int) > 65535 then (some ((⟨#[]⟩:ByteArray),4)) else (some (x13 ++ (x0.extract (Qj:Int).toNat ((wrap64 (x1 + x2)):Int).toNat),0))) else (none)) else (none)) else (none)) else (none)) else (some ((⟨#[]⟩:ByteArray),4)))
def aX.f (k:Nat) (a0:ByteArray) (a1:Int) (a2:Int) (a3:Int):Option (ByteArray × Int):=(bC.f a0 a1 a2).bind fun lI=>(if lI.2 = true then ((aH.f k a3).bind fun eZ=>(if (eZ.1 == 0 && (eZ.2.1 == 0 && (eZ.2.2 == 0))) = true then (if a3 = 16 then ((bq.f k lI.1).bind fun wO=>(if wO = true then (if (lI.1.size:Int) > 65535 then (some ((⟨#[]⟩:ByteArray),4)) else (some (lI.1,0))) else (some ((⟨#[]⟩:ByteArray),4)))) else (if (lI.1.size:Int) > 65535 then (some ((⟨#[]⟩:ByteArray),4)) else (some (lI.1,0)))) else (if eZ.1 > a2 then (some ((⟨#[]⟩:ByteArray),4)) else (if 0 ≤ eZ.1 then (if eZ.1 ≤ (lI.1.size:Int) then (aX.l0 k a0 a1 a2 (lI.1.extract 0 (eZ.1:Int).toNat) (wrap64 (a1 + eZ.1)) 0 eZ.1 eZ.2.1 eZ.2.2) else (none)) else (none))))) else (some ((⟨#[]⟩:ByteArray),2)))
set_option maxHeartbeats 8000000 in
set_option maxRecDepth 100000 in
theorem aX.calls (k:Nat) (a0:ByteArray) (a1:Int) (a2:Int) (a3:Int) (r1:ByteArray) (r2:Int) (w:World) (h:aX.f k a0 a1 a2 a3 = some (r1,r2)) :
    Calls Try.prog 104 #[.string a0,.int .i64 a1,.int .i64 a2,.int .i64 a3] w fun e w'=>e = .returned (.tuple #[.string r1,.int .i64 r2]) ∧ Below w.heap.size w w':=by
  have Ny:=Try.underlying142
  have HB:=aj.mk (Below.refl w.heap.size w)
  have H:((bC.f a0 a1 a2).bind fun lI=>(if lI.2 = true then ((aH.f k a3).bind fun eZ=>(if (eZ.1 == 0 && (eZ.2.1 == 0 && (eZ.2.2 == 0))) = true then (if a3 = 16 then ((bq.f k lI.1).bind fun wO=>(if wO = true then (if (lI.1.size:Int) > 65535 then (some ((⟨#[]⟩:ByteArray),4)) else (some (lI.1,0))) else (some ((⟨#[]⟩:ByteArray),4)))) else (if (lI.1.size:Int) > 65535 then (some ((⟨#[]⟩:ByteArray),4)) else (some (lI.1,0)))) else (if eZ.1 > a2 then (some ((⟨#[]⟩:ByteArray),4)) else (if 0 ≤ eZ.1 then (if eZ.1 ≤ (lI.1.size:Int) then (aX.l0 k a0 a1 a2 (lI.1.extract 0 (eZ.1:Int).toNat) (wrap64 (a1 + eZ.1)) 0 eZ.1 eZ.2.1 eZ.2.2) else (none)) else (none))))) else (some ((⟨#[]⟩:ByteArray),2)))) = some (r1,r2):=h
  clear h
  replace H:=zbm H
  obtain ⟨⟨t160,aaL⟩,Tj,H⟩:=H
  replace H:(if aaL = true then ((aH.f k a3).bind fun eZ=>(if (eZ.1 == 0 && (eZ.2.1 == 0 && (eZ.2.2 == 0))) = true then (if a3 = 16 then ((bq.f k t160).bind fun wO=>(if wO = true then (if (t160.size:Int) > 65535 then (some ((⟨#[]⟩:ByteArray),4)) else (some (t160,0))) else (some ((⟨#[]⟩:ByteArray),4)))) else (if (t160.size:Int) > 65535 then (some ((⟨#[]⟩:ByteArray),4)) else (some (t160,0)))) else (if eZ.1 > a2 then (some ((⟨#[]⟩:ByteArray),4)) else (if 0 ≤ eZ.1 then (if eZ.1 ≤ (t160.size:Int) then (aX.l0 k a0 a1 a2 (t160.extract 0 (eZ.1:Int).toNat) (wrap64 (a1 + eZ.1)) 0 eZ.1 eZ.2.1 eZ.2.2) else (none)) else (none))))) else (some ((⟨#[]⟩:ByteArray),2))) = some (r1,r2):=H
  have A5:=aj.mk Tj
  clear Tj
  by_cases c6:aaL = true
  · subst c6
    have H1:((aH.f k a3).bind fun eZ=>(if (eZ.1 == 0 && (eZ.2.1 == 0 && (eZ.2.2 == 0))) = true then (if a3 = 16 then ((bq.f k t160).bind fun wO=>(if wO = true then (if (t160.size:Int) > 65535 then (some ((⟨#[]⟩:ByteArray),4)) else (some (t160,0))) else (some ((⟨#[]⟩:ByteArray),4)))) else (if (t160.size:Int) > 65535 then (some ((⟨#[]⟩:ByteArray),4)) else (some (t160,0)))) else (if eZ.1 > a2 then (some ((⟨#[]⟩:ByteArray),4)) else (if 0 ≤ eZ.1 then (if eZ.1 ≤ (t160.size:Int) then (aX.l0 k a0 a1 a2 (t160.extract 0 (eZ.1:Int).toNat) (wrap64 (a1 + eZ.1)) 0 eZ.1 eZ.2.1 eZ.2.2) else (none)) else (none))))) = some (r1,r2):=by rw [if_pos rfl] at H;exact H
    clear H
    have H:=H1
    clear H1
    replace H:=zbm H
    obtain ⟨⟨t162,kM,t164⟩,Z5,H⟩:=H
    replace H:(if (t162 == 0 && (kM == 0 && (t164 == 0))) = true then (if a3 = 16 then ((bq.f k t160).bind fun wO=>(if wO = true then (if (t160.size:Int) > 65535 then (some ((⟨#[]⟩:ByteArray),4)) else (some (t160,0))) else (some ((⟨#[]⟩:ByteArray),4)))) else (if (t160.size:Int) > 65535 then (some ((⟨#[]⟩:ByteArray),4)) else (some (t160,0)))) else (if t162 > a2 then (some ((⟨#[]⟩:ByteArray),4)) else (if 0 ≤ t162 then (if t162 ≤ (t160.size:Int) then (aX.l0 k a0 a1 a2 (t160.extract 0 (t162:Int).toNat) (wrap64 (a1 + t162)) 0 t162 kM t164) else (none)) else (none)))) = some (r1,r2):=H
    have A7:=aj.mk Z5
    clear Z5
    by_cases c8:(t162 == 0 && (kM == 0 && (t164 == 0))) = true
    · rw [if_pos c8] at H
      have rZ:(t162 == 0 && (kM == 0 && (t164 == 0))) = true:=c8
      (try (have r9:decide (t162 = 0 && (kM == 0 && (t164 == 0))) = true:=by simpa using c8))
      (try (have Ng:(t162 == 0 && (kM == 0 && (t164 == 0))) = true:=by simpa using c8))
      clear c8
      by_cases c9:a3 = 16
      · rw [if_pos c9] at H
        have uE:(a3 == 16) = true:=beq_iff_eq.mpr c9
        have EP:(a3 != 16) = false:=bne_eq_false_iff_eq.mpr c9
        clear c9
        replace H:=zbm H
        obtain ⟨wO,Np,H⟩:=H
        replace H:(if wO = true then (if (t160.size:Int) > 65535 then (some ((⟨#[]⟩:ByteArray),4)) else (some (t160,0))) else (some ((⟨#[]⟩:ByteArray),4))) = some (r1,r2):=H
        have Tc:=aj.mk Np
        clear Np
        by_cases c11:wO = true
        · subst c11
          have H1:(if (t160.size:Int) > 65535 then (some ((⟨#[]⟩:ByteArray),4)) else (some (t160,0))) = some (r1,r2):=by rw [if_pos rfl] at H;exact H
          clear H
          have H:=H1
          clear H1
          by_cases c12:(t160.size:Int) > 65535
          · rw [if_pos c12] at H
            have uF:decide (65535 < (t160.size:Int)) = true:=decide_eq_true c12
            have uG:decide (65535 < t160.size) = true:=decide_eq_true (by omega)
            clear c12
            simp only [Option.some.injEq,Prod.mk.injEq] at H
            obtain ⟨rfl,rfl⟩:=H
            go_enter Try.func104,Try.ntmps104
            go_wp2_with (first | ((with_reducible refine aQ (f:=99) rfl ?_);refine bP (some 23) rfl rfl Try.func99 (by kernel_rfl) rfl #[.string a0,.int .i64 a1,.int .i64 a2] rfl (by (try simp only [List.map_toArray,List.map_cons,List.map_nil]);first | done | rfl | (simp only [List.length_drop,List.length_take];rfl) | (simp only [ByteArray.size_append,Int.natCast_add];rfl) | (rw [B.dQ] <;> first | rfl | omega | (simp only [decide_eq_false_iff_not,decide_eq_true_eq,Int.not_lt,Nat.not_lt,gt_iff_lt] at * <;> omega))) ?_;(with_reducible refine (bC.calls a0 a1 a2 t160 true _ A5.out).mono ?_);rintro e w' ⟨rfl,⟨nd,rfl⟩⟩;refine ⟨_,rfl,?_⟩) | ((with_reducible refine aQ (f:=106) rfl ?_);refine bP (some 29) rfl rfl Try.func106 (by kernel_rfl) rfl #[.int .i64 a3] rfl (by (try simp only [List.map_toArray,List.map_cons,List.map_nil]);first | done | rfl | (simp only [List.length_drop,List.length_take];rfl) | (simp only [ByteArray.size_append,Int.natCast_add];rfl) | (rw [B.dQ] <;> first | rfl | omega | (simp only [decide_eq_false_iff_not,decide_eq_true_eq,Int.not_lt,Nat.not_lt,gt_iff_lt] at * <;> omega))) ?_;(with_reducible refine (aH.calls k a3 t162 kM t164 _ A7.out).mono ?_);rintro e w13 ⟨rfl,hb⟩;refine ⟨_,rfl,?_⟩;have d9:=aj.mk (bE (by repeat (first | (with_reducible first | exact HB.out | apply ak | apply ah | apply au) | exact HB.out)) hb);clear HB;have HB:=d9;clear d9;(try clear hb);(try clear hb2);(try clear hk);(try clear hi)) | ((with_reducible refine gI (N:=12) rfl ?_);(try (refine jB (by rfl) ?_;dsimp only));refine fQ ?hg (N:=12) ?hd (cs:=#[.int .i64 0,.int .i64 0,.int .i64 0]) (t:=142) ?hr ?_;(case hd=>rfl);(case hg=>rfl);(case hr=>first | (go_simp;done) | (go_simp;rfl));intro dM hg w14 gU hb;have d9:=aj.mk (bE (by repeat (first | (with_reducible first | exact HB.out | apply ak | apply ah | apply au) | exact HB.out)) hb);have gX:=aj.mk (gU);have jg:=aj.mk ((by rw [hg];exact (bL (by repeat (first | (with_reducible first | exact HB.out | apply ak | apply ah | apply au) | exact HB.out))):w.heap.size ≤ dM));have jN:=aj.mk ((by rw [hg];exact (bL (by repeat (first | (with_reducible first | exact HB.out | apply ak | apply ah | apply au) | exact HB.out))):w.heap.size ≤ dM));clear HB;have HB:=d9;have bT:=gX;have Bg:=jg;have kS:=jN;clear d9 gX jg jN;clear hb gU hg;have Dc:w14.cell? ⟨dM,0,none⟩ = some (.int .i64 0):=(aM bT.out 0).trans rfl;have Df:w14.cell? ⟨dM,1,none⟩ = some (.int .i64 0):=(aM bT.out 1).trans rfl;have Dg:w14.cell? ⟨dM,2,none⟩ = some (.int .i64 0):=(aM bT.out 2).trans rfl;have Dh:=ay bT.out 0;have Di:=ay bT.out 1;have Dj:=ay bT.out 2) | (go_at_call 117;(with_reducible refine (bq.calls k t160 true _ Tc.out).mono ?_);rintro e w' ⟨rfl,⟨nd,rfl⟩⟩))
            go_ret2
            exact ⟨by first | rfl | (simp [aJ,aK] <;> rfl) | (simp [*,aJ,aK] <;> rfl),by repeat (first | (with_reducible first | exact HB.out | apply ak | apply ah | apply au | refine aR ?_ kS.out) | exact HB.out)⟩
          · rw [if_neg c12] at H
            have uF:decide (65535 < (t160.size:Int)) = false:=decide_eq_false c12
            have uG:decide (65535 < t160.size) = false:=decide_eq_false (by omega)
            clear c12
            simp only [Option.some.injEq,Prod.mk.injEq] at H
            obtain ⟨rfl,rfl⟩:=H
            go_enter Try.func104,Try.ntmps104
            go_wp2_with (first | ((with_reducible refine aQ (f:=99) rfl ?_);refine bP (some 23) rfl rfl Try.func99 (by kernel_rfl) rfl #[.string a0,.int .i64 a1,.int .i64 a2] rfl (by (try simp only [List.map_toArray,List.map_cons,List.map_nil]);first | done | rfl | (simp only [List.length_drop,List.length_take];rfl) | (simp only [ByteArray.size_append,Int.natCast_add];rfl) | (rw [B.dQ] <;> first | rfl | omega | (simp only [decide_eq_false_iff_not,decide_eq_true_eq,Int.not_lt,Nat.not_lt,gt_iff_lt] at * <;> omega))) ?_;(with_reducible refine (bC.calls a0 a1 a2 t160 true _ A5.out).mono ?_);rintro e w' ⟨rfl,⟨nd,rfl⟩⟩;refine ⟨_,rfl,?_⟩) | ((with_reducible refine aQ (f:=106) rfl ?_);refine bP (some 29) rfl rfl Try.func106 (by kernel_rfl) rfl #[.int .i64 a3] rfl (by (try simp only [List.map_toArray,List.map_cons,List.map_nil]);first | done | rfl | (simp only [List.length_drop,List.length_take];rfl) | (simp only [ByteArray.size_append,Int.natCast_add];rfl) | (rw [B.dQ] <;> first | rfl | omega | (simp only [decide_eq_false_iff_not,decide_eq_true_eq,Int.not_lt,Nat.not_lt,gt_iff_lt] at * <;> omega))) ?_;(with_reducible refine (aH.calls k a3 t162 kM t164 _ A7.out).mono ?_);rintro e w16 ⟨rfl,hb⟩;refine ⟨_,rfl,?_⟩;have d9:=aj.mk (bE (by repeat (first | (with_reducible first | exact HB.out | apply ak | apply ah | apply au) | exact HB.out)) hb);clear HB;have HB:=d9;clear d9;(try clear hb);(try clear hb2);(try clear hk);(try clear hi)) | ((with_reducible refine gI (N:=12) rfl ?_);(try (refine jB (by rfl) ?_;dsimp only));refine fQ ?hg (N:=12) ?hd (cs:=#[.int .i64 0,.int .i64 0,.int .i64 0]) (t:=142) ?hr ?_;(case hd=>rfl);(case hg=>rfl);(case hr=>first | (go_simp;done) | (go_simp;rfl));intro dM hg w17 gU hb;have d9:=aj.mk (bE (by repeat (first | (with_reducible first | exact HB.out | apply ak | apply ah | apply au) | exact HB.out)) hb);have gX:=aj.mk (gU);have jg:=aj.mk ((by rw [hg];exact (bL (by repeat (first | (with_reducible first | exact HB.out | apply ak | apply ah | apply au) | exact HB.out))):w.heap.size ≤ dM));have jN:=aj.mk ((by rw [hg];exact (bL (by repeat (first | (with_reducible first | exact HB.out | apply ak | apply ah | apply au) | exact HB.out))):w.heap.size ≤ dM));clear HB;have HB:=d9;have bT:=gX;have Bg:=jg;have kS:=jN;clear d9 gX jg jN;clear hb gU hg;have IX:w17.cell? ⟨dM,0,none⟩ = some (.int .i64 0):=(aM bT.out 0).trans rfl;have IY:w17.cell? ⟨dM,1,none⟩ = some (.int .i64 0):=(aM bT.out 1).trans rfl;have IZ:w17.cell? ⟨dM,2,none⟩ = some (.int .i64 0):=(aM bT.out 2).trans rfl;have I4:=ay bT.out 0;have I5:=ay bT.out 1;have I6:=ay bT.out 2) | (go_at_call 117;(with_reducible refine (bq.calls k t160 true _ Tc.out).mono ?_);rintro e w' ⟨rfl,⟨nd,rfl⟩⟩))
            go_ret2
            exact ⟨by first | rfl | (simp [aJ,aK] <;> rfl) | (simp [*,aJ,aK] <;> rfl),by repeat (first | (with_reducible first | exact HB.out | apply ak | apply ah | apply au | refine aR ?_ kS.out) | exact HB.out)⟩
        · replace c11:=Bool.eq_false_iff.mpr c11
          subst c11
          have H1:(some ((⟨#[]⟩:ByteArray),4)) = some (r1,r2):=by rw [if_neg (show ¬ (false = true) by decide)] at H;exact H
          clear H
          have H:=H1
          clear H1
          simp only [Option.some.injEq,Prod.mk.injEq] at H
          obtain ⟨rfl,rfl⟩:=H
          go_enter Try.func104,Try.ntmps104
          go_wp2_with (first | ((with_reducible refine aQ (f:=99) rfl ?_);refine bP (some 23) rfl rfl Try.func99 (by kernel_rfl) rfl #[.string a0,.int .i64 a1,.int .i64 a2] rfl (by (try simp only [List.map_toArray,List.map_cons,List.map_nil]);first | done | rfl | (simp only [List.length_drop,List.length_take];rfl) | (simp only [ByteArray.size_append,Int.natCast_add];rfl) | (rw [B.dQ] <;> first | rfl | omega | (simp only [decide_eq_false_iff_not,decide_eq_true_eq,Int.not_lt,Nat.not_lt,gt_iff_lt] at * <;> omega))) ?_;(with_reducible refine (bC.calls a0 a1 a2 t160 true _ A5.out).mono ?_);rintro e w' ⟨rfl,⟨nd,rfl⟩⟩;refine ⟨_,rfl,?_⟩) | ((with_reducible refine aQ (f:=106) rfl ?_);refine bP (some 29) rfl rfl Try.func106 (by kernel_rfl) rfl #[.int .i64 a3] rfl (by (try simp only [List.map_toArray,List.map_cons,List.map_nil]);first | done | rfl | (simp only [List.length_drop,List.length_take];rfl) | (simp only [ByteArray.size_append,Int.natCast_add];rfl) | (rw [B.dQ] <;> first | rfl | omega | (simp only [decide_eq_false_iff_not,decide_eq_true_eq,Int.not_lt,Nat.not_lt,gt_iff_lt] at * <;> omega))) ?_;(with_reducible refine (aH.calls k a3 t162 kM t164 _ A7.out).mono ?_);rintro e w19 ⟨rfl,hb⟩;refine ⟨_,rfl,?_⟩;have d9:=aj.mk (bE (by repeat (first | (with_reducible first | exact HB.out | apply ak | apply ah | apply au) | exact HB.out)) hb);clear HB;have HB:=d9;clear d9;(try clear hb);(try clear hb2);(try clear hk);(try clear hi)) | ((with_reducible refine gI (N:=12) rfl ?_);(try (refine jB (by rfl) ?_;dsimp only));refine fQ ?hg (N:=12) ?hd (cs:=#[.int .i64 0,.int .i64 0,.int .i64 0]) (t:=142) ?hr ?_;(case hd=>rfl);(case hg=>rfl);(case hr=>first | (go_simp;done) | (go_simp;rfl));intro dM hg w20 gU hb;have d9:=aj.mk (bE (by repeat (first | (with_reducible first | exact HB.out | apply ak | apply ah | apply au) | exact HB.out)) hb);have gX:=aj.mk (gU);have jg:=aj.mk ((by rw [hg];exact (bL (by repeat (first | (with_reducible first | exact HB.out | apply ak | apply ah | apply au) | exact HB.out))):w.heap.size ≤ dM));have jN:=aj.mk ((by rw [hg];exact (bL (by repeat (first | (with_reducible first | exact HB.out | apply ak | apply ah | apply au) | exact HB.out))):w.heap.size ≤ dM));clear HB;have HB:=d9;have bT:=gX;have Bg:=jg;have kS:=jN;clear d9 gX jg jN;clear hb gU hg;have QM:w20.cell? ⟨dM,0,none⟩ = some (.int .i64 0):=(aM bT.out 0).trans rfl;have QN:w20.cell? ⟨dM,1,none⟩ = some (.int .i64 0):=(aM bT.out 1).trans rfl;have QO:w20.cell? ⟨dM,2,none⟩ = some (.int .i64 0):=(aM bT.out 2).trans rfl;have QS:=ay bT.out 0;have QT:=ay bT.out 1;have QU:=ay bT.out 2) | (go_at_call 117;(with_reducible refine (bq.calls k t160 false _ Tc.out).mono ?_);rintro e w' ⟨rfl,⟨nd,rfl⟩⟩))
          go_ret2
          exact ⟨by first | rfl | (simp [aJ,aK] <;> rfl) | (simp [*,aJ,aK] <;> rfl),by repeat (first | (with_reducible first | exact HB.out | apply ak | apply ah | apply au | refine aR ?_ kS.out) | exact HB.out)⟩
      · rw [if_neg c9] at H
        have uE:(a3 == 16) = false:=beq_eq_false_iff_ne.mpr c9
        have EP:(a3 != 16) = true:=bne_iff_ne.mpr c9
        by_cases Fx:(t160.size:Int) > 65535
        · rw [if_pos Fx] at H
          have NI:decide (65535 < (t160.size:Int)) = true:=decide_eq_true Fx
          have NJ:decide (65535 < t160.size) = true:=decide_eq_true (by omega)
          clear Fx
          simp only [Option.some.injEq,Prod.mk.injEq] at H
          obtain ⟨rfl,rfl⟩:=H
          go_enter Try.func104,Try.ntmps104
          go_wp2_with (first | ((with_reducible refine aQ (f:=99) rfl ?_);refine bP (some 23) rfl rfl Try.func99 (by kernel_rfl) rfl #[.string a0,.int .i64 a1,.int .i64 a2] rfl (by (try simp only [List.map_toArray,List.map_cons,List.map_nil]);first | done | rfl | (simp only [List.length_drop,List.length_take];rfl) | (simp only [ByteArray.size_append,Int.natCast_add];rfl) | (rw [B.dQ] <;> first | rfl | omega | (simp only [decide_eq_false_iff_not,decide_eq_true_eq,Int.not_lt,Nat.not_lt,gt_iff_lt] at * <;> omega))) ?_;(with_reducible refine (bC.calls a0 a1 a2 t160 true _ A5.out).mono ?_);rintro e w' ⟨rfl,⟨nd,rfl⟩⟩;refine ⟨_,rfl,?_⟩) | ((with_reducible refine aQ (f:=106) rfl ?_);refine bP (some 29) rfl rfl Try.func106 (by kernel_rfl) rfl #[.int .i64 a3] rfl (by (try simp only [List.map_toArray,List.map_cons,List.map_nil]);first | done | rfl | (simp only [List.length_drop,List.length_take];rfl) | (simp only [ByteArray.size_append,Int.natCast_add];rfl) | (rw [B.dQ] <;> first | rfl | omega | (simp only [decide_eq_false_iff_not,decide_eq_true_eq,Int.not_lt,Nat.not_lt,gt_iff_lt] at * <;> omega))) ?_;(with_reducible refine (aH.calls k a3 t162 kM t164 _ A7.out).mono ?_);rintro e w23 ⟨rfl,hb⟩;refine ⟨_,rfl,?_⟩;have d9:=aj.mk (bE (by repeat (first | (with_reducible first | exact HB.out | apply ak | apply ah | apply au) | exact HB.out)) hb);clear HB;have HB:=d9;clear d9;(try clear hb);(try clear hb2);(try clear hk);(try clear hi)) | ((with_reducible refine gI (N:=12) rfl ?_);(try (refine jB (by rfl) ?_;dsimp only));refine fQ ?hg (N:=12) ?hd (cs:=#[.int .i64 0,.int .i64 0,.int .i64 0]) (t:=142) ?hr ?_;(case hd=>rfl);(case hg=>rfl);(case hr=>first | (go_simp;done) | (go_simp;rfl));intro dM hg w24 gU hb;have d9:=aj.mk (bE (by repeat (first | (with_reducible first | exact HB.out | apply ak | apply ah | apply au) | exact HB.out)) hb);have gX:=aj.mk (gU);have jg:=aj.mk ((by rw [hg];exact (bL (by repeat (first | (with_reducible first | exact HB.out | apply ak | apply ah | apply au) | exact HB.out))):w.heap.size ≤ dM));have jN:=aj.mk ((by rw [hg];exact (bL (by repeat (first | (with_reducible first | exact HB.out | apply ak | apply ah | apply au) | exact HB.out))):w.heap.size ≤ dM));clear HB;have HB:=d9;have bT:=gX;have Bg:=jg;have kS:=jN;clear d9 gX jg jN;clear hb gU hg;have QV:w24.cell? ⟨dM,0,none⟩ = some (.int .i64 0):=(aM bT.out 0).trans rfl;have QW:w24.cell? ⟨dM,1,none⟩ = some (.int .i64 0):=(aM bT.out 1).trans rfl;have QX:w24.cell? ⟨dM,2,none⟩ = some (.int .i64 0):=(aM bT.out 2).trans rfl;have QY:=ay bT.out 0;have QZ:=ay bT.out 1;have Q0:=ay bT.out 2))
          go_ret2
          exact ⟨by first | rfl | (simp [aJ,aK] <;> rfl) | (simp [*,aJ,aK] <;> rfl),by repeat (first | (with_reducible first | exact HB.out | apply ak | apply ah | apply au | refine aR ?_ kS.out) | exact HB.out)⟩
        · rw [if_neg Fx] at H
          have NI:decide (65535 < (t160.size:Int)) = false:=decide_eq_false Fx
          have NJ:decide (65535 < t160.size) = false:=decide_eq_false (by omega)
          clear Fx
          simp only [Option.some.injEq,Prod.mk.injEq] at H
          obtain ⟨rfl,rfl⟩:=H
          go_enter Try.func104,Try.ntmps104
          go_wp2_with (first | ((with_reducible refine aQ (f:=99) rfl ?_);refine bP (some 23) rfl rfl Try.func99 (by kernel_rfl) rfl #[.string a0,.int .i64 a1,.int .i64 a2] rfl (by (try simp only [List.map_toArray,List.map_cons,List.map_nil]);first | done | rfl | (simp only [List.length_drop,List.length_take];rfl) | (simp only [ByteArray.size_append,Int.natCast_add];rfl) | (rw [B.dQ] <;> first | rfl | omega | (simp only [decide_eq_false_iff_not,decide_eq_true_eq,Int.not_lt,Nat.not_lt,gt_iff_lt] at * <;> omega))) ?_;(with_reducible refine (bC.calls a0 a1 a2 t160 true _ A5.out).mono ?_);rintro e w' ⟨rfl,⟨nd,rfl⟩⟩;refine ⟨_,rfl,?_⟩) | ((with_reducible refine aQ (f:=106) rfl ?_);refine bP (some 29) rfl rfl Try.func106 (by kernel_rfl) rfl #[.int .i64 a3] rfl (by (try simp only [List.map_toArray,List.map_cons,List.map_nil]);first | done | rfl | (simp only [List.length_drop,List.length_take];rfl) | (simp only [ByteArray.size_append,Int.natCast_add];rfl) | (rw [B.dQ] <;> first | rfl | omega | (simp only [decide_eq_false_iff_not,decide_eq_true_eq,Int.not_lt,Nat.not_lt,gt_iff_lt] at * <;> omega))) ?_;(with_reducible refine (aH.calls k a3 t162 kM t164 _ A7.out).mono ?_);rintro e w26 ⟨rfl,hb⟩;refine ⟨_,rfl,?_⟩;have d9:=aj.mk (bE (by repeat (first | (with_reducible first | exact HB.out | apply ak | apply ah | apply au) | exact HB.out)) hb);clear HB;have HB:=d9;clear d9;(try clear hb);(try clear hb2);(try clear hk);(try clear hi)) | ((with_reducible refine gI (N:=12) rfl ?_);(try (refine jB (by rfl) ?_;dsimp only));refine fQ ?hg (N:=12) ?hd (cs:=#[.int .i64 0,.int .i64 0,.int .i64 0]) (t:=142) ?hr ?_;(case hd=>rfl);(case hg=>rfl);(case hr=>first | (go_simp;done) | (go_simp;rfl));intro dM hg w27 gU hb;have d9:=aj.mk (bE (by repeat (first | (with_reducible first | exact HB.out | apply ak | apply ah | apply au) | exact HB.out)) hb);have gX:=aj.mk (gU);have jg:=aj.mk ((by rw [hg];exact (bL (by repeat (first | (with_reducible first | exact HB.out | apply ak | apply ah | apply au) | exact HB.out))):w.heap.size ≤ dM));have jN:=aj.mk ((by rw [hg];exact (bL (by repeat (first | (with_reducible first | exact HB.out | apply ak | apply ah | apply au) | exact HB.out))):w.heap.size ≤ dM));clear HB;have HB:=d9;have bT:=gX;have Bg:=jg;have kS:=jN;clear d9 gX jg jN;clear hb gU hg;have Q5:w27.cell? ⟨dM,0,none⟩ = some (.int .i64 0):=(aM bT.out 0).trans rfl;have Q6:w27.cell? ⟨dM,1,none⟩ = some (.int .i64 0):=(aM bT.out 1).trans rfl;have Q7:w27.cell? ⟨dM,2,none⟩ = some (.int .i64 0):=(aM bT.out 2).trans rfl;have Q8:=ay bT.out 0;have Q9:=ay bT.out 1;have Ra:=ay bT.out 2))
          go_ret2
          exact ⟨by first | rfl | (simp [aJ,aK] <;> rfl) | (simp [*,aJ,aK] <;> rfl),by repeat (first | (with_reducible first | exact HB.out | apply ak | apply ah | apply au | refine aR ?_ kS.out) | exact HB.out)⟩
    · rw [if_neg c8] at H
      have rZ:(t162 == 0 && (kM == 0 && (t164 == 0))) = false:=by simpa using c8
      (try (have r9:decide (t162 = 0 && (kM == 0 && (t164 == 0))) = false:=by simpa using c8))
      (try (have Ng:(t162 == 0 && (kM == 0 && (t164 == 0))) = false:=by simpa using c8))
      (try (have ZV:¬ (t162 = 0 && (kM == 0 && (t164 == 0))):=by simpa using c8))
      clear c8
      by_cases V3:t162 > a2
      · rw [if_pos V3] at H
        have Tk:decide (a2 < t162) = true:=decide_eq_true V3
        clear V3
        simp only [Option.some.injEq,Prod.mk.injEq] at H
        obtain ⟨rfl,rfl⟩:=H
        go_enter Try.func104,Try.ntmps104
        go_wp2_with (first | ((with_reducible refine aQ (f:=99) rfl ?_);refine bP (some 23) rfl rfl Try.func99 (by kernel_rfl) rfl #[.string a0,.int .i64 a1,.int .i64 a2] rfl (by (try simp only [List.map_toArray,List.map_cons,List.map_nil]);first | done | rfl | (simp only [List.length_drop,List.length_take];rfl) | (simp only [ByteArray.size_append,Int.natCast_add];rfl) | (rw [B.dQ] <;> first | rfl | omega | (simp only [decide_eq_false_iff_not,decide_eq_true_eq,Int.not_lt,Nat.not_lt,gt_iff_lt] at * <;> omega))) ?_;(with_reducible refine (bC.calls a0 a1 a2 t160 true _ A5.out).mono ?_);rintro e w' ⟨rfl,⟨nd,rfl⟩⟩;refine ⟨_,rfl,?_⟩) | ((with_reducible refine aQ (f:=106) rfl ?_);refine bP (some 29) rfl rfl Try.func106 (by kernel_rfl) rfl #[.int .i64 a3] rfl (by (try simp only [List.map_toArray,List.map_cons,List.map_nil]);first | done | rfl | (simp only [List.length_drop,List.length_take];rfl) | (simp only [ByteArray.size_append,Int.natCast_add];rfl) | (rw [B.dQ] <;> first | rfl | omega | (simp only [decide_eq_false_iff_not,decide_eq_true_eq,Int.not_lt,Nat.not_lt,gt_iff_lt] at * <;> omega))) ?_;(with_reducible refine (aH.calls k a3 t162 kM t164 _ A7.out).mono ?_);rintro e w30 ⟨rfl,hb⟩;refine ⟨_,rfl,?_⟩;have d9:=aj.mk (bE (by repeat (first | (with_reducible first | exact HB.out | apply ak | apply ah | apply au) | exact HB.out)) hb);clear HB;have HB:=d9;clear d9;(try clear hb);(try clear hb2);(try clear hk);(try clear hi)) | ((with_reducible refine gI (N:=12) rfl ?_);(try (refine jB (by rfl) ?_;dsimp only));refine fQ ?hg (N:=12) ?hd (cs:=#[.int .i64 0,.int .i64 0,.int .i64 0]) (t:=142) ?hr ?_;(case hd=>rfl);(case hg=>rfl);(case hr=>first | (go_simp;done) | (go_simp;rfl));intro dM hg w31 gU hb;have d9:=aj.mk (bE (by repeat (first | (with_reducible first | exact HB.out | apply ak | apply ah | apply au) | exact HB.out)) hb);have gX:=aj.mk (gU);have jg:=aj.mk ((by rw [hg];exact (bL (by repeat (first | (with_reducible first | exact HB.out | apply ak | apply ah | apply au) | exact HB.out))):w.heap.size ≤ dM));have jN:=aj.mk ((by rw [hg];exact (bL (by repeat (first | (with_reducible first | exact HB.out | apply ak | apply ah | apply au) | exact HB.out))):w.heap.size ≤ dM));clear HB;have HB:=d9;have bT:=gX;have Bg:=jg;have kS:=jN;clear d9 gX jg jN;clear hb gU hg;have IK:w31.cell? ⟨dM,0,none⟩ = some (.int .i64 0):=(aM bT.out 0).trans rfl;have IL:w31.cell? ⟨dM,1,none⟩ = some (.int .i64 0):=(aM bT.out 1).trans rfl;have IQ:w31.cell? ⟨dM,2,none⟩ = some (.int .i64 0):=(aM bT.out 2).trans rfl;have IU:=ay bT.out 0;have IV:=ay bT.out 1;have IW:=ay bT.out 2))
        go_ret2
        exact ⟨by first | rfl | (simp [aJ,aK] <;> rfl) | (simp [*,aJ,aK] <;> rfl),by repeat (first | (with_reducible first | exact HB.out | apply ak | apply ah | apply au | refine aR ?_ kS.out) | exact HB.out)⟩
      · rw [if_neg V3] at H
        have Tk:decide (a2 < t162) = false:=decide_eq_false V3
        clear V3
        by_cases Pf:0 ≤ t162
        · rw [if_pos Pf] at H
          have aaM:=eq_true Pf
          have aaN:decide (0 ≤ t162) = true:=decide_eq_true Pf
          clear Pf
          by_cases c34:t162 ≤ (t160.size:Int)
          · rw [if_pos c34] at H
            have aaO:=eq_true c34
            have aaP:decide (t162 ≤ (t160.size:Int)) = true:=decide_eq_true c34
            clear c34
            have H':=aj.mk H
            clear H
            go_enter Try.func104,Try.ntmps104
            go_wp2_with (first | ((with_reducible refine aQ (f:=99) rfl ?_);refine bP (some 23) rfl rfl Try.func99 (by kernel_rfl) rfl #[.string a0,.int .i64 a1,.int .i64 a2] rfl (by (try simp only [List.map_toArray,List.map_cons,List.map_nil]);first | done | rfl | (simp only [List.length_drop,List.length_take];rfl) | (simp only [ByteArray.size_append,Int.natCast_add];rfl) | (rw [B.dQ] <;> first | rfl | omega | (simp only [decide_eq_false_iff_not,decide_eq_true_eq,Int.not_lt,Nat.not_lt,gt_iff_lt] at * <;> omega))) ?_;(with_reducible refine (bC.calls a0 a1 a2 t160 true _ A5.out).mono ?_);rintro e w' ⟨rfl,⟨nd,rfl⟩⟩;refine ⟨_,rfl,?_⟩) | ((with_reducible refine aQ (f:=106) rfl ?_);refine bP (some 29) rfl rfl Try.func106 (by kernel_rfl) rfl #[.int .i64 a3] rfl (by (try simp only [List.map_toArray,List.map_cons,List.map_nil]);first | done | rfl | (simp only [List.length_drop,List.length_take];rfl) | (simp only [ByteArray.size_append,Int.natCast_add];rfl) | (rw [B.dQ] <;> first | rfl | omega | (simp only [decide_eq_false_iff_not,decide_eq_true_eq,Int.not_lt,Nat.not_lt,gt_iff_lt] at * <;> omega))) ?_;(with_reducible refine (aH.calls k a3 t162 kM t164 _ A7.out).mono ?_);rintro e w35 ⟨rfl,hb⟩;refine ⟨_,rfl,?_⟩;have d9:=aj.mk (bE (by repeat (first | (with_reducible first | exact HB.out | apply ak | apply ah | apply au) | exact HB.out)) hb);clear HB;have HB:=d9;clear d9;(try clear hb);(try clear hb2);(try clear hk);(try clear hi)) | ((with_reducible refine gI (N:=12) rfl ?_);(try (refine jB (by rfl) ?_;dsimp only));refine fQ ?hg (N:=12) ?hd (cs:=#[.int .i64 0,.int .i64 0,.int .i64 0]) (t:=142) ?hr ?_;(case hd=>rfl);(case hg=>rfl);(case hr=>first | (go_simp;done) | (go_simp;rfl));intro dM hg w36 gU hb;have d9:=aj.mk (bE (by repeat (first | (with_reducible first | exact HB.out | apply ak | apply ah | apply au) | exact HB.out)) hb);have gX:=aj.mk (gU);have jg:=aj.mk ((by rw [hg];exact (bL (by repeat (first | (with_reducible first | exact HB.out | apply ak | apply ah | apply au) | exact HB.out))):w.heap.size ≤ dM));have jN:=aj.mk ((by rw [hg];exact (bL (by repeat (first | (with_reducible first | exact HB.out | apply ak | apply ah | apply au) | exact HB.out))):w.heap.size ≤ dM));clear HB;have HB:=d9;have bT:=gX;have Bg:=jg;have kS:=jN;clear d9 gX jg jN;clear hb gU hg;have Rb:w36.cell? ⟨dM,0,none⟩ = some (.int .i64 0):=(aM bT.out 0).trans rfl;have Rc:w36.cell? ⟨dM,1,none⟩ = some (.int .i64 0):=(aM bT.out 1).trans rfl;have Rf:w36.cell? ⟨dM,2,none⟩ = some (.int .i64 0):=(aM bT.out 2).trans rfl;have Rh:=ay bT.out 0;have Ri:=ay bT.out 1;have Rj:=ay bT.out 2))
            go_loopg [13,14,15] k (fun kq v13 v14 v15 w'=>∃ (dG:ByteArray) (bQ:Int) (wz:Int),v13 = .string dG ∧ v14 = .int .i64 bQ ∧ v15 = .int .i64 wz ∧ aj (aX.l0 kq a0 a1 a2 dG bQ wz t162 kM t164 = some (r1,r2)) ∧ aj (kq ≤ k) ∧ aj (w'.heap[dM]? = some (.cells #[.int .i64 t162,.int .i64 kM,.int .i64 t164] 142 (0,0))) ∧ aj (Below w.heap.size w w'))
            case atStart=>exact ⟨(t160.extract 0 (t162:Int).toNat),(wrap64 (a1 + t162)),(0),(by first | rfl | (simp;done) | (simp [*];done) | (simp [B.aV];done) | (simp [B.aW];done)),(by first | rfl | (simp;done) | (simp [*];done) | (simp [B.aV];done) | (simp [B.aW];done)),(by first | rfl | (simp;done) | (simp [*];done) | (simp [B.aV];done) | (simp [B.aW];done)),H',⟨Nat.le_refl _⟩,⟨by (with_reducible repeat (first | refine aG ?_ _ | refine aI ?_ | refine aA ?_ _));refine bU (cs:=#[.int .i64 t162,.int .i64 kM,.int .i64 0]) ?_ 2 _ rfl;(with_reducible repeat (first | refine aG ?_ _ | refine aI ?_ | refine aA ?_ _));refine bU (cs:=#[.int .i64 t162,.int .i64 0,.int .i64 0]) ?_ 1 _ rfl;(with_reducible repeat (first | refine aG ?_ _ | refine aI ?_ | refine aA ?_ _));refine bU (cs:=#[.int .i64 0,.int .i64 0,.int .i64 0]) ?_ 0 _ rfl;(with_reducible repeat (first | refine aG ?_ _ | refine aI ?_ | refine aA ?_ _));exact bT.out⟩,⟨by repeat (first | (with_reducible first | exact HB.out | apply ak | apply ah | apply au | refine aR ?_ kS.out) | exact HB.out)⟩⟩
            case round =>
              clear H'
              try clear c1
              try clear c2
              try clear p2
              try clear c3
              try clear c6
              try clear p6
              try clear c8
              try clear rZ
              try clear r9
              try clear Ng
              try clear c9
              try clear uE
              try clear EP
              try clear c10
              try clear c11
              try clear c12
              try clear uF
              try clear uG
              try clear Fx
              try clear NI
              try clear NJ
              try clear V3
              try clear Tk
              try clear Pf
              try clear aaM
              try clear aaN
              try clear c34
              try clear aaO
              try clear aaP
              try clear Dc
              try clear Df
              try clear Dg
              try clear IX
              try clear IY
              try clear IZ
              try clear QM
              try clear QN
              try clear QO
              try clear QV
              try clear QW
              try clear QX
              try clear Q5
              try clear Q6
              try clear Q7
              try clear IK
              try clear IL
              try clear IQ
              try clear Rb
              try clear Rc
              try clear Rf
              try clear Dh
              try clear Di
              try clear Dj
              try clear I4
              try clear I5
              try clear I6
              try clear QS
              try clear QT
              try clear QU
              try clear QY
              try clear QZ
              try clear Q0
              try clear Q8
              try clear Q9
              try clear Ra
              try clear IU
              try clear IV
              try clear IW
              try clear Rh
              try clear Ri
              try clear Rj
              obtain ⟨dG,bQ,wz,rfl,rfl,rfl,HA,uD,bT,HB⟩:=hrel
              cases gk with
              | zero=>exact absurd HA.out (by simp [aX.l0])
              | succ k1 =>
                have H:=HA.out
                clear HA
                simp only [aX.l0] at H
                by_cases Eh:wz < kM
                · rw [if_pos Eh] at H
                  have Ti:decide (wz < kM) = true:=decide_eq_true Eh
                  clear Eh
                  replace H:=zbm H
                  obtain ⟨⟨t167,t168,E8⟩,aaQ,H⟩:=H
                  replace H:(if E8 = 0 then (if dG.size + t167.size ≤ 9223372036854775807 then (aX.l0 k1 a0 a1 a2 (dG ++ t167) t168 (wrap64 (wz + 1)) t162 kM t164) else (none)) else (some ((⟨#[]⟩:ByteArray),4))) = some (r1,r2):=H
                  have A39:=aj.mk aaQ
                  clear aaQ
                  by_cases c40:E8 = 0
                  · rw [if_pos c40] at H
                    have aaR:(E8 == 0) = true:=beq_iff_eq.mpr c40
                    have aaS:(E8 != 0) = false:=bne_eq_false_iff_eq.mpr c40
                    clear c40
                    by_cases KI:dG.size + t167.size ≤ 9223372036854775807
                    · rw [if_pos KI] at H
                      have ahj:=eq_true KI
                      have ahk:decide (dG.size + t167.size ≤ 9223372036854775807) = true:=decide_eq_true KI
                      try have ahl:(9223372036854775807 < dG.size + t167.size) = False:=eq_false (Nat.not_lt.2 KI)
                      have H':=aj.mk H
                      clear H
                      have QE:wr.cell? ⟨dM,0,none⟩ = some (.int .i64 t162):=(aM bT.out 0).trans rfl
                      have QF:wr.cell? ⟨dM,1,none⟩ = some (.int .i64 kM):=(aM bT.out 1).trans rfl
                      have QG:wr.cell? ⟨dM,2,none⟩ = some (.int .i64 t164):=(aM bT.out 2).trans rfl
                      have QH:=ay bT.out 0
                      have QI:=ay bT.out 1
                      have QJ:=ay bT.out 2
                      go_wp2_with (first | ((with_reducible refine aQ (f:=118) rfl ?_);refine bP (some 67) rfl rfl Try.func118 (by kernel_rfl) rfl #[.string a0,.int .i64 bQ] rfl (by (try simp only [List.map_toArray,List.map_cons,List.map_nil]);first | done | rfl | (simp only [List.length_drop,List.length_take];rfl) | (simp only [ByteArray.size_append,Int.natCast_add];rfl) | (rw [B.dQ] <;> first | rfl | omega | (simp only [decide_eq_false_iff_not,decide_eq_true_eq,Int.not_lt,Nat.not_lt,gt_iff_lt] at * <;> omega))) ?_;(with_reducible refine (aU.calls k1 a0 bQ t167 t168 E8 _ A39.out).mono ?_);rintro e w' ⟨rfl,⟨nd,rfl⟩⟩;refine ⟨_,rfl,?_⟩))
                      go_roundg k1
                      case measure=>have:=uD.out;omega
                      case rel=>exact ⟨(dG ++ t167),(t168),(wrap64 (wz + 1)),(by first | rfl | (simp;done) | (simp [*];done) | (simp [B.aV];done) | (simp [B.aW];done)),(by first | rfl | (simp;done) | (simp [*];done) | (simp [B.aV];done) | (simp [B.aW];done)),(by first | rfl | (simp;done) | (simp [*];done) | (simp [B.aV];done) | (simp [B.aW];done)),H',⟨by have:=uD.out;omega⟩,⟨by (with_reducible repeat (first | refine aG ?_ _ | refine aI ?_ | refine aA ?_ _));exact bT.out⟩,⟨by repeat (first | (with_reducible first | exact HB.out | apply ak | apply ah | apply au | refine aR ?_ kS.out) | exact HB.out)⟩⟩
                    · rw [if_neg KI] at H
                      exact absurd H (by simp)
                  · rw [if_neg c40] at H
                    have aaR:(E8 == 0) = false:=beq_eq_false_iff_ne.mpr c40
                    have aaS:(E8 != 0) = true:=bne_iff_ne.mpr c40
                    simp only [Option.some.injEq,Prod.mk.injEq] at H
                    obtain ⟨rfl,rfl⟩:=H
                    have adu:wr.cell? ⟨dM,0,none⟩ = some (.int .i64 t162):=(aM bT.out 0).trans rfl
                    have adv:wr.cell? ⟨dM,1,none⟩ = some (.int .i64 kM):=(aM bT.out 1).trans rfl
                    have adw:wr.cell? ⟨dM,2,none⟩ = some (.int .i64 t164):=(aM bT.out 2).trans rfl
                    have adx:=ay bT.out 0
                    have ady:=ay bT.out 1
                    have adz:=ay bT.out 2
                    go_wp2_with (first | ((with_reducible refine aQ (f:=118) rfl ?_);refine bP (some 67) rfl rfl Try.func118 (by kernel_rfl) rfl #[.string a0,.int .i64 bQ] rfl (by (try simp only [List.map_toArray,List.map_cons,List.map_nil]);first | done | rfl | (simp only [List.length_drop,List.length_take];rfl) | (simp only [ByteArray.size_append,Int.natCast_add];rfl) | (rw [B.dQ] <;> first | rfl | omega | (simp only [decide_eq_false_iff_not,decide_eq_true_eq,Int.not_lt,Nat.not_lt,gt_iff_lt] at * <;> omega))) ?_;(with_reducible refine (aU.calls k1 a0 bQ t167 t168 E8 _ A39.out).mono ?_);rintro e w' ⟨rfl,⟨nd,rfl⟩⟩;refine ⟨_,rfl,?_⟩))
                    go_ret2
                    exact ⟨by first | rfl | (simp [aJ,aK] <;> rfl) | (simp [*,aJ,aK] <;> rfl),by repeat (first | (with_reducible first | exact HB.out | apply ak | apply ah | apply au | refine aR ?_ kS.out) | exact HB.out)⟩
                · rw [if_neg Eh] at H
                  have Ti:decide (wz < kM) = false:=decide_eq_false Eh
                  clear Eh
                  by_cases Av:(wrap64 (bQ + t164)) = (wrap64 (a1 + a2))
                  · rw [if_pos Av] at H
                    have aaT:((wrap64 (bQ + t164)) == (wrap64 (a1 + a2))) = true:=beq_iff_eq.mpr Av
                    have aaU:((wrap64 (bQ + t164)) != (wrap64 (a1 + a2))) = false:=bne_eq_false_iff_eq.mpr Av
                    (try (have aaV:(((bQ + t164)) == ((a1 + a2))) = true:=by have h_:((wrap64 (bQ + t164)) == (wrap64 (a1 + a2))) = true:=beq_iff_eq.mpr Av;rw [B.dQ (by omega) (by omega)] at h_;rw [B.dQ (by omega) (by omega)] at h_;exact h_))
                    (try (have aaW:(((bQ + t164)) != ((a1 + a2))) = false:=by have h_:((wrap64 (bQ + t164)) != (wrap64 (a1 + a2))) = false:=bne_eq_false_iff_eq.mpr Av;rw [B.dQ (by omega) (by omega)] at h_;rw [B.dQ (by omega) (by omega)] at h_;exact h_))
                    clear Av
                    by_cases Sv:0 ≤ bQ
                    · rw [if_pos Sv] at H
                      have ahm:=eq_true Sv
                      have ahn:decide (0 ≤ bQ) = true:=decide_eq_true Sv
                      clear Sv
                      by_cases c46:bQ ≤ (wrap64 (a1 + a2))
                      · rw [if_pos c46] at H
                        have aho:=eq_true c46
                        have ahp:decide (bQ ≤ (wrap64 (a1 + a2))) = true:=decide_eq_true c46
                        by_cases U9:(wrap64 (a1 + a2)) ≤ (a0.size:Int)
                        · rw [if_pos U9] at H
                          have ahq:=eq_true U9
                          have ahr:decide ((wrap64 (a1 + a2)) ≤ (a0.size:Int)) = true:=decide_eq_true U9
                          by_cases Sw:dG.size + (a0.extract (bQ:Int).toNat ((wrap64 (a1 + a2)):Int).toNat).size ≤ 9223372036854775807
                          · rw [if_pos Sw] at H
                            have ahs:=eq_true Sw
                            have aht:decide (dG.size + (a0.extract (bQ:Int).toNat ((wrap64 (a1 + a2)):Int).toNat).size ≤ 9223372036854775807) = true:=decide_eq_true Sw
                            try have ahu:(9223372036854775807 < dG.size + (a0.extract (bQ:Int).toNat ((wrap64 (a1 + a2)):Int).toNat).size) = False:=eq_false (Nat.not_lt.2 Sw)
                            by_cases c49:((dG ++ (a0.extract (bQ:Int).toNat ((wrap64 (a1 + a2)):Int).toNat)).size:Int) > 65535
                            · rw [if_pos c49] at H
                              have aaX:decide (65535 < ((dG ++ (a0.extract (bQ:Int).toNat ((wrap64 (a1 + a2)):Int).toNat)).size:Int)) = true:=decide_eq_true c49
                              have aaY:decide (65535 < (dG ++ (a0.extract (bQ:Int).toNat ((wrap64 (a1 + a2)):Int).toNat)).size) = true:=decide_eq_true (by omega)
                              (try (have aaZ:decide (65535 < ((dG.size:Int) + ((a0.extract (bQ:Int).toNat ((wrap64 (a1 + a2)):Int).toNat).size:Int))) = true:=by have h_:decide (65535 < ((dG ++ (a0.extract (bQ:Int).toNat ((wrap64 (a1 + a2)):Int).toNat)).size:Int)) = true:=decide_eq_true c49;rw [show ((dG ++ (a0.extract (bQ:Int).toNat ((wrap64 (a1 + a2)):Int).toNat)).size:Int) = ((dG.size:Int) + ((a0.extract (bQ:Int).toNat ((wrap64 (a1 + a2)):Int).toNat).size:Int)) from by (simp only [ByteArray.size_append,Int.natCast_add];first | done | rfl)] at h_;(first | exact h_ | (simp only [Int.add_sub_cancel] at h_;exact h_))))
                              (try (have aa0:decide (65535 < ((dG.size:Int) + ((((wrap64 (a1 + a2)):Int).toNat - (bQ:Int).toNat:Nat):Int))) = true:=by have h_:decide (65535 < ((dG ++ (a0.extract (bQ:Int).toNat ((wrap64 (a1 + a2)):Int).toNat)).size:Int)) = true:=decide_eq_true c49;rw [show ((dG ++ (a0.extract (bQ:Int).toNat ((wrap64 (a1 + a2)):Int).toNat)).size:Int) = ((dG.size:Int) + ((a0.extract (bQ:Int).toNat ((wrap64 (a1 + a2)):Int).toNat).size:Int)) from by (simp only [ByteArray.size_append,Int.natCast_add];first | done | rfl)] at h_;rw [show ((a0.extract (bQ:Int).toNat ((wrap64 (a1 + a2)):Int).toNat).size:Int) = ((((wrap64 (a1 + a2)):Int).toNat - (bQ:Int).toNat:Nat):Int) from by (have h1_:(wrap64 (a1 + a2)) ≤ (a0.size:Int):=of_decide_eq_true (by assumption);rw [ByteArray.size_extract];omega)] at h_;exact h_))
                              (try (have aa1:decide (65535 < ((dG ++ (a0.extract (bQ:Int).toNat (((a1 + a2)):Int).toNat)).size:Int)) = true:=by have h_:decide (65535 < ((dG ++ (a0.extract (bQ:Int).toNat ((wrap64 (a1 + a2)):Int).toNat)).size:Int)) = true:=decide_eq_true c49;rw [B.dQ (by omega) (by omega)] at h_;exact h_))
                              (try (have aa2:decide (65535 < (dG ++ (a0.extract (bQ:Int).toNat (((a1 + a2)):Int).toNat)).size) = true:=by have h_:decide (65535 < (dG ++ (a0.extract (bQ:Int).toNat ((wrap64 (a1 + a2)):Int).toNat)).size) = true:=decide_eq_true (by omega);rw [B.dQ (by omega) (by omega)] at h_;exact h_))
                              (try (have aa3:decide (65535 < ((dG.size:Int) + ((a0.extract (bQ:Int).toNat (((a1 + a2)):Int).toNat).size:Int))) = true:=by have h_:decide (65535 < ((dG.size:Int) + ((a0.extract (bQ:Int).toNat ((wrap64 (a1 + a2)):Int).toNat).size:Int))) = true:=by have h_:decide (65535 < ((dG ++ (a0.extract (bQ:Int).toNat ((wrap64 (a1 + a2)):Int).toNat)).size:Int)) = true:=decide_eq_true c49;rw [show ((dG ++ (a0.extract (bQ:Int).toNat ((wrap64 (a1 + a2)):Int).toNat)).size:Int) = ((dG.size:Int) + ((a0.extract (bQ:Int).toNat ((wrap64 (a1 + a2)):Int).toNat).size:Int)) from by (simp only [ByteArray.size_append,Int.natCast_add];first | done | rfl)] at h_;(first | exact h_ | (simp only [Int.add_sub_cancel] at h_;exact h_));rw [B.dQ (by omega) (by omega)] at h_;exact h_))
                              (try (have aa4:decide (65535 < ((dG.size:Int) + (((((a1 + a2)):Int).toNat - (bQ:Int).toNat:Nat):Int))) = true:=by have h_:decide (65535 < ((dG.size:Int) + ((((wrap64 (a1 + a2)):Int).toNat - (bQ:Int).toNat:Nat):Int))) = true:=by have h_:decide (65535 < ((dG ++ (a0.extract (bQ:Int).toNat ((wrap64 (a1 + a2)):Int).toNat)).size:Int)) = true:=decide_eq_true c49;rw [show ((dG ++ (a0.extract (bQ:Int).toNat ((wrap64 (a1 + a2)):Int).toNat)).size:Int) = ((dG.size:Int) + ((a0.extract (bQ:Int).toNat ((wrap64 (a1 + a2)):Int).toNat).size:Int)) from by (simp only [ByteArray.size_append,Int.natCast_add];first | done | rfl)] at h_;rw [show ((a0.extract (bQ:Int).toNat ((wrap64 (a1 + a2)):Int).toNat).size:Int) = ((((wrap64 (a1 + a2)):Int).toNat - (bQ:Int).toNat:Nat):Int) from by (have h1_:(wrap64 (a1 + a2)) ≤ (a0.size:Int):=of_decide_eq_true (by assumption);rw [ByteArray.size_extract];omega)] at h_;exact h_;rw [B.dQ (by omega) (by omega)] at h_;exact h_))
                              clear c49
                              simp only [Option.some.injEq,Prod.mk.injEq] at H
                              obtain ⟨rfl,rfl⟩:=H
                              have adA:wr.cell? ⟨dM,0,none⟩ = some (.int .i64 t162):=(aM bT.out 0).trans rfl
                              have adB:wr.cell? ⟨dM,1,none⟩ = some (.int .i64 kM):=(aM bT.out 1).trans rfl
                              have adC:wr.cell? ⟨dM,2,none⟩ = some (.int .i64 t164):=(aM bT.out 2).trans rfl
                              have adD:=ay bT.out 0
                              have adE:=ay bT.out 1
                              have adF:=ay bT.out 2
                              go_wp2
                              go_ret2
                              exact ⟨by first | rfl | (simp [aJ,aK] <;> rfl) | (simp [*,aJ,aK] <;> rfl),by repeat (first | (with_reducible first | exact HB.out | apply ak | apply ah | apply au | refine aR ?_ kS.out) | exact HB.out)⟩
                            · rw [if_neg c49] at H
                              have aaX:decide (65535 < ((dG ++ (a0.extract (bQ:Int).toNat ((wrap64 (a1 + a2)):Int).toNat)).size:Int)) = false:=decide_eq_false c49
                              have aaY:decide (65535 < (dG ++ (a0.extract (bQ:Int).toNat ((wrap64 (a1 + a2)):Int).toNat)).size) = false:=decide_eq_false (by omega)
                              (try (have aaZ:decide (65535 < ((dG.size:Int) + ((a0.extract (bQ:Int).toNat ((wrap64 (a1 + a2)):Int).toNat).size:Int))) = false:=by have h_:decide (65535 < ((dG ++ (a0.extract (bQ:Int).toNat ((wrap64 (a1 + a2)):Int).toNat)).size:Int)) = false:=decide_eq_false c49;rw [show ((dG ++ (a0.extract (bQ:Int).toNat ((wrap64 (a1 + a2)):Int).toNat)).size:Int) = ((dG.size:Int) + ((a0.extract (bQ:Int).toNat ((wrap64 (a1 + a2)):Int).toNat).size:Int)) from by (simp only [ByteArray.size_append,Int.natCast_add];first | done | rfl)] at h_;(first | exact h_ | (simp only [Int.add_sub_cancel] at h_;exact h_))))
                              (try (have aa0:decide (65535 < ((dG.size:Int) + ((((wrap64 (a1 + a2)):Int).toNat - (bQ:Int).toNat:Nat):Int))) = false:=by have h_:decide (65535 < ((dG ++ (a0.extract (bQ:Int).toNat ((wrap64 (a1 + a2)):Int).toNat)).size:Int)) = false:=decide_eq_false c49;rw [show ((dG ++ (a0.extract (bQ:Int).toNat ((wrap64 (a1 + a2)):Int).toNat)).size:Int) = ((dG.size:Int) + ((a0.extract (bQ:Int).toNat ((wrap64 (a1 + a2)):Int).toNat).size:Int)) from by (simp only [ByteArray.size_append,Int.natCast_add];first | done | rfl)] at h_;rw [show ((a0.extract (bQ:Int).toNat ((wrap64 (a1 + a2)):Int).toNat).size:Int) = ((((wrap64 (a1 + a2)):Int).toNat - (bQ:Int).toNat:Nat):Int) from by (have h1_:(wrap64 (a1 + a2)) ≤ (a0.size:Int):=of_decide_eq_true (by assumption);rw [ByteArray.size_extract];omega)] at h_;exact h_))
                              (try (have aa1:decide (65535 < ((dG ++ (a0.extract (bQ:Int).toNat (((a1 + a2)):Int).toNat)).size:Int)) = false:=by have h_:decide (65535 < ((dG ++ (a0.extract (bQ:Int).toNat ((wrap64 (a1 + a2)):Int).toNat)).size:Int)) = false:=decide_eq_false c49;rw [B.dQ (by omega) (by omega)] at h_;exact h_))
                              (try (have aa2:decide (65535 < (dG ++ (a0.extract (bQ:Int).toNat (((a1 + a2)):Int).toNat)).size) = false:=by have h_:decide (65535 < (dG ++ (a0.extract (bQ:Int).toNat ((wrap64 (a1 + a2)):Int).toNat)).size) = false:=decide_eq_false (by omega);rw [B.dQ (by omega) (by omega)] at h_;exact h_))
                              (try (have aa3:decide (65535 < ((dG.size:Int) + ((a0.extract (bQ:Int).toNat (((a1 + a2)):Int).toNat).size:Int))) = false:=by have h_:decide (65535 < ((dG.size:Int) + ((a0.extract (bQ:Int).toNat ((wrap64 (a1 + a2)):Int).toNat).size:Int))) = false:=by have h_:decide (65535 < ((dG ++ (a0.extract (bQ:Int).toNat ((wrap64 (a1 + a2)):Int).toNat)).size:Int)) = false:=decide_eq_false c49;rw [show ((dG ++ (a0.extract (bQ:Int).toNat ((wrap64 (a1 + a2)):Int).toNat)).size:Int) = ((dG.size:Int) + ((a0.extract (bQ:Int).toNat ((wrap64 (a1 + a2)):Int).toNat).size:Int)) from by (simp only [ByteArray.size_append,Int.natCast_add];first | done | rfl)] at h_;(first | exact h_ | (simp only [Int.add_sub_cancel] at h_;exact h_));rw [B.dQ (by omega) (by omega)] at h_;exact h_))
                              (try (have aa4:decide (65535 < ((dG.size:Int) + (((((a1 + a2)):Int).toNat - (bQ:Int).toNat:Nat):Int))) = false:=by have h_:decide (65535 < ((dG.size:Int) + ((((wrap64 (a1 + a2)):Int).toNat - (bQ:Int).toNat:Nat):Int))) = false:=by have h_:decide (65535 < ((dG ++ (a0.extract (bQ:Int).toNat ((wrap64 (a1 + a2)):Int).toNat)).size:Int)) = false:=decide_eq_false c49;rw [show ((dG ++ (a0.extract (bQ:Int).toNat ((wrap64 (a1 + a2)):Int).toNat)).size:Int) = ((dG.size:Int) + ((a0.extract (bQ:Int).toNat ((wrap64 (a1 + a2)):Int).toNat).size:Int)) from by (simp only [ByteArray.size_append,Int.natCast_add];first | done | rfl)] at h_;rw [show ((a0.extract (bQ:Int).toNat ((wrap64 (a1 + a2)):Int).toNat).size:Int) = ((((wrap64 (a1 + a2)):Int).toNat - (bQ:Int).toNat:Nat):Int) from by (have h1_:(wrap64 (a1 + a2)) ≤ (a0.size:Int):=of_decide_eq_true (by assumption);rw [ByteArray.size_extract];omega)] at h_;exact h_;rw [B.dQ (by omega) (by omega)] at h_;exact h_))
                              clear c49
                              simp only [Option.some.injEq,Prod.mk.injEq] at H
                              obtain ⟨rfl,rfl⟩:=H
                              have adG:wr.cell? ⟨dM,0,none⟩ = some (.int .i64 t162):=(aM bT.out 0).trans rfl
                              have adH:wr.cell? ⟨dM,1,none⟩ = some (.int .i64 kM):=(aM bT.out 1).trans rfl
                              have adI:wr.cell? ⟨dM,2,none⟩ = some (.int .i64 t164):=(aM bT.out 2).trans rfl
                              have adJ:=ay bT.out 0
                              have adK:=ay bT.out 1
                              have adL:=ay bT.out 2
                              go_wp2
                              go_ret2
                              exact ⟨by first | rfl | (simp [aJ,aK] <;> rfl) | (simp [*,aJ,aK] <;> rfl),by repeat (first | (with_reducible first | exact HB.out | apply ak | apply ah | apply au | refine aR ?_ kS.out) | exact HB.out)⟩
                          · rw [if_neg Sw] at H
                            exact absurd H (by simp)
                        · rw [if_neg U9] at H
                          exact absurd H (by simp)
                      · rw [if_neg c46] at H
                        exact absurd H (by simp)
                    · rw [if_neg Sv] at H
                      exact absurd H (by simp)
                  · rw [if_neg Av] at H
                    have aaT:((wrap64 (bQ + t164)) == (wrap64 (a1 + a2))) = false:=beq_eq_false_iff_ne.mpr Av
                    have aaU:((wrap64 (bQ + t164)) != (wrap64 (a1 + a2))) = true:=bne_iff_ne.mpr Av
                    (try (have aaV:(((bQ + t164)) == ((a1 + a2))) = false:=by have h_:((wrap64 (bQ + t164)) == (wrap64 (a1 + a2))) = false:=beq_eq_false_iff_ne.mpr Av;rw [B.dQ (by omega) (by omega)] at h_;rw [B.dQ (by omega) (by omega)] at h_;exact h_))
                    (try (have aaW:(((bQ + t164)) != ((a1 + a2))) = true:=by have h_:((wrap64 (bQ + t164)) != (wrap64 (a1 + a2))) = true:=bne_iff_ne.mpr Av;rw [B.dQ (by omega) (by omega)] at h_;rw [B.dQ (by omega) (by omega)] at h_;exact h_))
                    simp only [Option.some.injEq,Prod.mk.injEq] at H
                    obtain ⟨rfl,rfl⟩:=H
                    have adM:wr.cell? ⟨dM,0,none⟩ = some (.int .i64 t162):=(aM bT.out 0).trans rfl
                    have adN:wr.cell? ⟨dM,1,none⟩ = some (.int .i64 kM):=(aM bT.out 1).trans rfl
                    have adO:wr.cell? ⟨dM,2,none⟩ = some (.int .i64 t164):=(aM bT.out 2).trans rfl
                    have adP:=ay bT.out 0
                    have adQ:=ay bT.out 1
                    have adR:=ay bT.out 2
                    go_wp2
                    go_ret2
                    exact ⟨by first | rfl | (simp [aJ,aK] <;> rfl) | (simp [*,aJ,aK] <;> rfl),by repeat (first | (with_reducible first | exact HB.out | apply ak | apply ah | apply au | refine aR ?_ kS.out) | exact HB.out)⟩
          · rw [if_neg c34] at H
            exact absurd H (by simp)
        · rw [if_neg Pf] at H
          exact absurd H (by simp)
  · replace c6:=Bool.eq_false_iff.mpr c6
    subst c6
    have H1:(some ((⟨#[]⟩:ByteArray),2)) = some (r1,r2):=by rw [if_neg (show ¬ (false = true) by decide)] at H;exact H
    clear H
    have H:=H1
    clear H1
    simp only [Option.some.injEq,Prod.mk.injEq] at H
    obtain ⟨rfl,rfl⟩:=H
    go_enter Try.func104,Try.ntmps104
    go_wp2_with (first | ((with_reducible refine aQ (f:=99) rfl ?_);refine bP (some 23) rfl rfl Try.func99 (by kernel_rfl) rfl #[.string a0,.int .i64 a1,.int .i64 a2] rfl (by (try simp only [List.map_toArray,List.map_cons,List.map_nil]);first | done | rfl | (simp only [List.length_drop,List.length_take];rfl) | (simp only [ByteArray.size_append,Int.natCast_add];rfl) | (rw [B.dQ] <;> first | rfl | omega | (simp only [decide_eq_false_iff_not,decide_eq_true_eq,Int.not_lt,Nat.not_lt,gt_iff_lt] at * <;> omega))) ?_;(with_reducible refine (bC.calls a0 a1 a2 t160 false _ A5.out).mono ?_);rintro e w' ⟨rfl,⟨nd,rfl⟩⟩;refine ⟨_,rfl,?_⟩))
    go_ret2
    exact ⟨by first | rfl | (simp [aJ,aK] <;> rfl) | (simp [*,aJ,aK] <;> rfl),by repeat (first | (with_reducible first | exact HB.out | apply ak | apply ah | apply au) | exact HB.out)⟩
def bR.f (k:Nat) (a0:Int) (a1:ByteArray):Option (Bool):=if (a1.size:Int) > 65535 then (some false) else ((aX.f k a1 0 (a1.size:Int) a0).bind fun E9=>(if E9.2 = 0 then (some (E9.1.toList == a1.toList)) else (some false)))
set_option maxHeartbeats 8000000 in
set_option maxRecDepth 100000 in
theorem bR.calls (k:Nat) (a0:Int) (a1:ByteArray) (r:Bool) (w:World) (h:bR.f k a0 a1 = some r) :
    Calls Try.prog 83 #[.int .i64 a0,.string a1] w fun e w'=>e = .returned (.bool r) ∧ Below w.heap.size w w':=by
  have HB:=aj.mk (Below.refl w.heap.size w)
  have H:(if (a1.size:Int) > 65535 then (some false) else ((aX.f k a1 0 (a1.size:Int) a0).bind fun E9=>(if E9.2 = 0 then (some (E9.1.toList == a1.toList)) else (some false)))) = some r:=h
  clear h
  by_cases c3:(a1.size:Int) > 65535
  · rw [if_pos c3] at H
    have qQ:decide (65535 < (a1.size:Int)) = true:=decide_eq_true c3
    have CQ:decide (65535 < a1.size) = true:=decide_eq_true (by omega)
    clear c3
    obtain rfl:=Option.some.inj H
    go_enter Try.func83,Try.ntmps83
    go_wp2
    go_ret
    exact ⟨by first | rfl | (simp [aJ,aK] <;> rfl) | (simp [*,aJ,aK] <;> rfl),by repeat (first | (with_reducible first | exact HB.out | apply ak | apply ah | apply au) | exact HB.out)⟩
  · rw [if_neg c3] at H
    have qQ:decide (65535 < (a1.size:Int)) = false:=decide_eq_false c3
    have CQ:decide (65535 < a1.size) = false:=decide_eq_false (by omega)
    clear c3
    replace H:=zbm H
    obtain ⟨⟨V4,t171⟩,ER,H⟩:=H
    replace H:(if t171 = 0 then (some (V4.toList == a1.toList)) else (some false)) = some r:=H
    have A4:=aj.mk ER
    clear ER
    by_cases c5:t171 = 0
    · rw [if_pos c5] at H
      have pX:(t171 == 0) = true:=beq_iff_eq.mpr c5
      have vJ:(t171 != 0) = false:=bne_eq_false_iff_eq.mpr c5
      clear c5
      obtain rfl:=Option.some.inj H
      go_enter Try.func83,Try.ntmps83
      go_wp2_with (first | ((with_reducible refine aQ (f:=104) rfl ?_);refine bP (some 15) rfl rfl Try.func104 (by kernel_rfl) rfl #[.string a1,.int .i64 0,.int .i64 (a1.size:Int),.int .i64 a0] rfl (by (try simp only [List.map_toArray,List.map_cons,List.map_nil]);first | done | rfl | (simp only [List.length_drop,List.length_take];rfl) | (simp only [ByteArray.size_append,Int.natCast_add];rfl) | (rw [B.dQ] <;> first | rfl | omega | (simp only [decide_eq_false_iff_not,decide_eq_true_eq,Int.not_lt,Nat.not_lt,gt_iff_lt] at * <;> omega))) ?_;(with_reducible refine (aX.calls k a1 0 (a1.size:Int) a0 V4 t171 _ A4.out).mono ?_);rintro e w6 ⟨rfl,hb⟩;refine ⟨_,rfl,?_⟩;have d9:=aj.mk (bE (by repeat (first | (with_reducible first | exact HB.out | apply ak | apply ah | apply au) | exact HB.out)) hb);clear HB;have HB:=d9;clear d9;(try clear hb);(try clear hb2);(try clear hk);(try clear hi)))
      go_ret
      exact ⟨by first | rfl | (simp [aJ,aK] <;> rfl) | (simp [*,aJ,aK] <;> rfl),by repeat (first | (with_reducible first | exact HB.out | apply ak | apply ah | apply au) | exact HB.out)⟩
    · rw [if_neg c5] at H
      have pX:(t171 == 0) = false:=beq_eq_false_iff_ne.mpr c5
      have vJ:(t171 != 0) = true:=bne_iff_ne.mpr c5
      obtain rfl:=Option.some.inj H
      go_enter Try.func83,Try.ntmps83
      go_wp2_with (first | ((with_reducible refine aQ (f:=104) rfl ?_);refine bP (some 15) rfl rfl Try.func104 (by kernel_rfl) rfl #[.string a1,.int .i64 0,.int .i64 (a1.size:Int),.int .i64 a0] rfl (by (try simp only [List.map_toArray,List.map_cons,List.map_nil]);first | done | rfl | (simp only [List.length_drop,List.length_take];rfl) | (simp only [ByteArray.size_append,Int.natCast_add];rfl) | (rw [B.dQ] <;> first | rfl | omega | (simp only [decide_eq_false_iff_not,decide_eq_true_eq,Int.not_lt,Nat.not_lt,gt_iff_lt] at * <;> omega))) ?_;(with_reducible refine (aX.calls k a1 0 (a1.size:Int) a0 V4 t171 _ A4.out).mono ?_);rintro e w7 ⟨rfl,hb⟩;refine ⟨_,rfl,?_⟩;have d9:=aj.mk (bE (by repeat (first | (with_reducible first | exact HB.out | apply ak | apply ah | apply au) | exact HB.out)) hb);clear HB;have HB:=d9;clear d9;(try clear hb);(try clear hb2);(try clear hk);(try clear hi)))
      go_ret
      exact ⟨by first | rfl | (simp [aJ,aK] <;> rfl) | (simp [*,aJ,aK] <;> rfl),by repeat (first | (with_reducible first | exact HB.out | apply ak | apply ah | apply au) | exact HB.out)⟩
def bg.l0 : Nat → ByteArray → List ByteArray → Int → Int → Int → Int → Int → Option (List ByteArray)
  | 0,_,_,_,_,_,_,_=>none
  | k + 1,x1,x5,x7,x8,Rk,Ja,Rm=>if x8 < Ja then ((aU.f k x1 x7).bind fun Tm=>(if x5.length < 8796093022208 then (bg.l0 k x1 (x5 ++ [Tm.1]) Tm.2.1 (wrap64 (x8 + 1)) Rk Ja Rm) else (none))) else (some x5)
def bg.f (k:Nat) (a0:Int) (a1:ByteArray):Option (List ByteArray):=(bR.f k a0 a1).bind fun Kk=>(if Kk = true then ((aH.f k a0).bind fun kN=>(bg.l0 k a1 ([]:List ByteArray) kN.1 0 kN.1 kN.2.1 kN.2.2)) else (some ([]:List ByteArray)))
set_option maxHeartbeats 8000000 in
set_option maxRecDepth 100000 in
theorem bg.calls (k:Nat) (a0:Int) (a1:ByteArray) (r:List ByteArray) (w:World) (h:bg.f k a0 a1 = some r) :
    Calls Try.prog 105 #[.int .i64 a0,.string a1] w fun e w'=>∃ SS:Value,e = .returned (SS) ∧ Kd.R Kd.string 9 w' w.heap.size (fun _=>True) SS r ∧ Below w.heap.size w w':=by
  have Ny:=Try.underlying142
  have HB:=aj.mk (Below.refl w.heap.size w)
  have H:((bR.f k a0 a1).bind fun Kk=>(if Kk = true then ((aH.f k a0).bind fun kN=>(bg.l0 k a1 ([]:List ByteArray) kN.1 0 kN.1 kN.2.1 kN.2.2)) else (some ([]:List ByteArray)))) = some r:=h
  clear h
  replace H:=zbm H
  obtain ⟨Kk,Ta,H⟩:=H
  replace H:(if Kk = true then ((aH.f k a0).bind fun kN=>(bg.l0 k a1 ([]:List ByteArray) kN.1 0 kN.1 kN.2.1 kN.2.2)) else (some ([]:List ByteArray))) = some r:=H
  have A3:=aj.mk Ta
  clear Ta
  by_cases c4:Kk = true
  · subst c4
    have H1:((aH.f k a0).bind fun kN=>(bg.l0 k a1 ([]:List ByteArray) kN.1 0 kN.1 kN.2.1 kN.2.2)) = some r:=by rw [if_pos rfl] at H;exact H
    clear H
    have H:=H1
    clear H1
    replace H:=zbm H
    obtain ⟨⟨t173,vK,t175⟩,Tj,H⟩:=H
    replace H:(bg.l0 k a1 ([]:List ByteArray) t173 0 t173 vK t175) = some r:=H
    have A5:=aj.mk Tj
    clear Tj
    have H':=aj.mk H
    clear H
    go_enter Try.func105,Try.ntmps105
    go_wp2_with (first | ((with_reducible refine aQ (f:=83) rfl ?_);refine bP (some 14) rfl rfl Try.func83 (by kernel_rfl) rfl #[.int .i64 a0,.string a1] rfl (by (try simp only [List.map_toArray,List.map_cons,List.map_nil]);first | done | rfl | (simp only [List.length_drop,List.length_take];rfl) | (simp only [ByteArray.size_append,Int.natCast_add];rfl) | (rw [B.dQ] <;> first | rfl | omega | (simp only [decide_eq_false_iff_not,decide_eq_true_eq,Int.not_lt,Nat.not_lt,gt_iff_lt] at * <;> omega))) ?_;(with_reducible refine (bR.calls k a0 a1 true _ A3.out).mono ?_);rintro e w6 ⟨rfl,hb⟩;refine ⟨_,rfl,?_⟩;have d9:=aj.mk (bE (by repeat (first | (with_reducible first | exact HB.out | apply ak | apply ah | apply au) | exact HB.out)) hb);clear HB;have HB:=d9;clear d9;(try clear hb);(try clear hb2);(try clear hk);(try clear hi)) | ((with_reducible refine aQ (f:=106) rfl ?_);refine bP (some 17) rfl rfl Try.func106 (by kernel_rfl) rfl #[.int .i64 a0] rfl (by (try simp only [List.map_toArray,List.map_cons,List.map_nil]);first | done | rfl | (simp only [List.length_drop,List.length_take];rfl) | (simp only [ByteArray.size_append,Int.natCast_add];rfl) | (rw [B.dQ] <;> first | rfl | omega | (simp only [decide_eq_false_iff_not,decide_eq_true_eq,Int.not_lt,Nat.not_lt,gt_iff_lt] at * <;> omega))) ?_;(with_reducible refine (aH.calls k a0 t173 vK t175 _ A5.out).mono ?_);rintro e w7 ⟨rfl,hb⟩;refine ⟨_,rfl,?_⟩;have d9:=aj.mk (bE (by repeat (first | (with_reducible first | exact HB.out | apply ak | apply ah | apply au) | exact HB.out)) hb);clear HB;have HB:=d9;clear d9;(try clear hb);(try clear hb2);(try clear hk);(try clear hi)) | ((with_reducible refine gI (N:=6) rfl ?_);refine fQ ?hg (N:=6) ?hd (cs:=#[.int .i64 0,.int .i64 0,.int .i64 0]) (t:=142) ?hr ?_;(case hd=>rfl);(case hg=>rfl);(case hr=>first | (go_simp;done) | (go_simp;rfl));intro nO hg w8 gU hb;have d9:=aj.mk (bE (by repeat (first | (with_reducible first | exact HB.out | apply ak | apply ah | apply au) | exact HB.out)) hb);have gX:=aj.mk (gU);have jg:=aj.mk ((by rw [hg];exact (bL (by repeat (first | (with_reducible first | exact HB.out | apply ak | apply ah | apply au) | exact HB.out))):w.heap.size ≤ nO));have jN:=aj.mk ((by rw [hg];exact (bL (by repeat (first | (with_reducible first | exact HB.out | apply ak | apply ah | apply au) | exact HB.out))):w.heap.size ≤ nO));clear HB;have HB:=d9;have iY:=gX;have ahv:=jg;have Fa:=jN;clear d9 gX jg jN;clear hb gU hg;have Nz:w8.cell? ⟨nO,0,none⟩ = some (.int .i64 0):=(aM iY.out 0).trans rfl;have NA:w8.cell? ⟨nO,1,none⟩ = some (.int .i64 0):=(aM iY.out 1).trans rfl;have NC:w8.cell? ⟨nO,2,none⟩ = some (.int .i64 0):=(aM iY.out 2).trans rfl;have ND:=ay iY.out 0;have NG:=ay iY.out 1;have NH:=ay iY.out 2))
    go_loopg [5,7,8] k (fun kq v5 v7 v8 w'=>∃ (Fb:List ByteArray) (dJ:Int) (gJ:Int),v7 = .int .i64 dJ ∧ v8 = .int .i64 gJ ∧ aj (bg.l0 kq a1 Fb dJ gJ t173 vK t175 = some r) ∧ aj (kq ≤ k) ∧ aj (Kd.R Kd.string 9 w' w.heap.size (fun _=>True) v5 Fb) ∧ aj (w'.heap[nO]? = some (.cells #[.int .i64 t173,.int .i64 vK,.int .i64 t175] 142 (0,0))) ∧ aj (Below w.heap.size w w'))
    case atStart=>exact ⟨(([]:List ByteArray)),(t173),(0),(by first | rfl | (simp;done) | (simp [*];done) | (simp [B.aV];done) | (simp [B.aW];done)),(by first | rfl | (simp;done) | (simp [*];done) | (simp [B.aV];done) | (simp [B.aW];done)),H',⟨Nat.le_refl _⟩,⟨by first | exact Kd.jG _ _ _ _ _ | exact Kd.lD _ _ _ _ _ | exact Kd.lF _ _ _ _ _ | exact Kd.lu _ _ _ _ _ | exact Kd.lC _ _ _ _ _⟩,⟨by (with_reducible repeat (first | refine aG ?_ _ | refine aI ?_ | refine aA ?_ _));refine bU (cs:=#[.int .i64 t173,.int .i64 vK,.int .i64 0]) ?_ 2 _ rfl;(with_reducible repeat (first | refine aG ?_ _ | refine aI ?_ | refine aA ?_ _));refine bU (cs:=#[.int .i64 t173,.int .i64 0,.int .i64 0]) ?_ 1 _ rfl;(with_reducible repeat (first | refine aG ?_ _ | refine aI ?_ | refine aA ?_ _));refine bU (cs:=#[.int .i64 0,.int .i64 0,.int .i64 0]) ?_ 0 _ rfl;(with_reducible repeat (first | refine aG ?_ _ | refine aI ?_ | refine aA ?_ _));exact iY.out⟩,⟨by repeat (first | (with_reducible first | exact HB.out | apply ak | apply ah | apply au | refine aR ?_ Fa.out) | exact HB.out)⟩⟩
    case round =>
      clear H'
      try clear c1
      try clear p2
      try clear c4
      try clear c8
      try clear Nz
      try clear NA
      try clear NC
      try clear ND
      try clear NG
      try clear NH
      obtain ⟨Fb,dJ,gJ,rfl,rfl,HA,uD,vL,iY,HB⟩:=hrel
      cases gk with
      | zero=>exact absurd HA.out (by simp [bg.l0])
      | succ k1 =>
        have H:=HA.out
        clear HA
        simp only [bg.l0] at H
        by_cases c10:gJ < vK
        · rw [if_pos c10] at H
          have rE:decide (gJ < vK) = true:=decide_eq_true c10
          clear c10
          replace H:=zbm H
          obtain ⟨⟨NK,Ro,afu⟩,aa5,H⟩:=H
          replace H:(if Fb.length < 8796093022208 then (bg.l0 k1 a1 (Fb ++ [NK]) Ro (wrap64 (gJ + 1)) t173 vK t175) else (none)) = some r:=H
          have A11:=aj.mk aa5
          clear aa5
          by_cases c12:Fb.length < 8796093022208
          · rw [if_pos c12] at H
            have aa6:=aj.mk c12
            clear c12
            obtain ⟨aa7,Fe⟩:∃ y_:List ByteArray,y_ = (Fb ++ [NK]):=⟨_,rfl⟩
            replace H:(bg.l0 k1 a1 aa7 Ro (wrap64 (gJ + 1)) t173 vK t175) = some r:=by first | (rw [Fe];with_reducible exact H) | (have Gw:=(Option.bind_some _ _).symm.trans H;rw [Fe];with_reducible exact Gw) | (have Gw:=(Option.bind_some _ _).symm.trans H;with_reducible exact Gw) | with_reducible exact H | (rw [Fe];exact H) | exact H
            have aa8:=aj.mk Fe
            clear Fe
            have H':=aj.mk H
            clear H
            have CY:wr.cell? ⟨nO,0,none⟩ = some (.int .i64 t173):=(aM iY.out 0).trans rfl
            have CZ:wr.cell? ⟨nO,1,none⟩ = some (.int .i64 vK):=(aM iY.out 1).trans rfl
            have C8:wr.cell? ⟨nO,2,none⟩ = some (.int .i64 t175):=(aM iY.out 2).trans rfl
            have C9:=ay iY.out 0
            have Da:=ay iY.out 1
            have Db:=ay iY.out 2
            go_wp2_with (first | ((with_reducible refine aQ (f:=118) rfl ?_);refine bP (some 29) rfl rfl Try.func118 (by kernel_rfl) rfl #[.string a1,.int .i64 dJ] rfl (by (try simp only [List.map_toArray,List.map_cons,List.map_nil]);first | done | rfl | (simp only [List.length_drop,List.length_take];rfl) | (simp only [ByteArray.size_append,Int.natCast_add];rfl) | (rw [B.dQ] <;> first | rfl | omega | (simp only [decide_eq_false_iff_not,decide_eq_true_eq,Int.not_lt,Nat.not_lt,gt_iff_lt] at * <;> omega))) ?_;(with_reducible refine (aU.calls k1 a1 dJ NK Ro afu _ A11.out).mono ?_);rintro e w' ⟨rfl,⟨nd,rfl⟩⟩;refine ⟨_,rfl,?_⟩) | ((with_reducible refine oh (b:=.append) (xs:=#[.tmp 33,.tmp 35]) rfl ?_);at_builtin;refine Kd.yR Kd.string (w0:=w) w.heap.size rfl (.tmp 33) (.tmp 35) 33 9 (.string ⟨#[]⟩) 16 rfl Try.underlying33 Ir rfl (by decide) (by omega) u5 Fb NK [.string NK] (fun _=>True) (fun _=>False) rfl rfl ?aP (fun _ hk=>hk.elim) ?aF ?aO ?aB ?aS ?aL ?_;(case aP=>exact rfl);(case aB=>exact (by repeat (first | (with_reducible first | exact HB.out | apply ak | apply ah | apply au | refine aR ?_ Fa.out) | exact HB.out)));(case aF=>exact (fun _ _=>trivial));(case aO=>exact (by (with_reducible repeat (first | apply Kd.fu | apply Kd.fI | apply Kd.fU));exact vL.out));(case aS=>exact (bL (by repeat (first | (with_reducible first | exact HB.out | apply ak | apply ah | apply au | refine aR ?_ Fa.out) | exact HB.out))));(case aL=>have:=aa6.out;omega);intro ahS w14 ho hb hg hat;rw [← aa8.out] at ho;have d9:=aj.mk (qy (g:=nO) (o:=.cells #[.int .i64 t173,.int .i64 vK,.int .i64 t175] 142 (0,0)) (by (with_reducible repeat (first | refine aG ?_ _ | refine aI ?_ | refine aA ?_ _));exact iY.out) hg (Kd.Qb vL.out iY.out (by decide)));have gX:=aj.mk (hb);have jg:=aj.mk (ho);clear iY;clear HB;clear vL;have iY:=d9;have HB:=gX;have aa9:=jg;clear d9 gX jg;clear ho hb hg hat))
            go_roundg k1
            case measure=>have:=uD.out;omega
            case rel=>exact ⟨(aa7),(Ro),(wrap64 (gJ + 1)),(by first | rfl | (simp;done) | (simp [*];done) | (simp [B.aV];done) | (simp [B.aW];done)),(by first | rfl | (simp;done) | (simp [*];done) | (simp [B.aV];done) | (simp [B.aW];done)),H',⟨by have:=uD.out;omega⟩,⟨by (with_reducible repeat (first | apply Kd.fu | apply Kd.fI | apply Kd.fU));exact aa9.out⟩,⟨by (with_reducible repeat (first | refine aG ?_ _ | refine aI ?_ | refine aA ?_ _));exact iY.out⟩,⟨by repeat (first | (with_reducible first | exact HB.out | apply ak | apply ah | apply au | refine aR ?_ Fa.out) | exact HB.out)⟩⟩
          · rw [if_neg c12] at H
            exact absurd H (by simp)
        · rw [if_neg c10] at H
          have rE:decide (gJ < vK) = false:=decide_eq_false c10
          clear c10
          obtain rfl:=Option.some.inj H
          have Dc:wr.cell? ⟨nO,0,none⟩ = some (.int .i64 t173):=(aM iY.out 0).trans rfl
          have Df:wr.cell? ⟨nO,1,none⟩ = some (.int .i64 vK):=(aM iY.out 1).trans rfl
          have Dg:wr.cell? ⟨nO,2,none⟩ = some (.int .i64 t175):=(aM iY.out 2).trans rfl
          have Dh:=ay iY.out 0
          have Di:=ay iY.out 1
          have Dj:=ay iY.out 2
          go_wp2
          go_ret
          exact ⟨_,by first | rfl | (simp [aJ,aK] <;> rfl) | (simp [*,aJ,aK] <;> rfl),by (with_reducible repeat (first | apply Kd.fu | apply Kd.fI | apply Kd.fU));exact vL.out,by repeat (first | (with_reducible first | exact HB.out | apply ak | apply ah | apply au | refine aR ?_ Fa.out) | exact HB.out)⟩
  · replace c4:=Bool.eq_false_iff.mpr c4
    subst c4
    have H1:(some ([]:List ByteArray)) = some r:=by rw [if_neg (show ¬ (false = true) by decide)] at H;exact H
    clear H
    have H:=H1
    clear H1
    obtain rfl:=Option.some.inj H
    go_enter Try.func105,Try.ntmps105
    go_wp2_with (first | ((with_reducible refine aQ (f:=83) rfl ?_);refine bP (some 14) rfl rfl Try.func83 (by kernel_rfl) rfl #[.int .i64 a0,.string a1] rfl (by (try simp only [List.map_toArray,List.map_cons,List.map_nil]);first | done | rfl | (simp only [List.length_drop,List.length_take];rfl) | (simp only [ByteArray.size_append,Int.natCast_add];rfl) | (rw [B.dQ] <;> first | rfl | omega | (simp only [decide_eq_false_iff_not,decide_eq_true_eq,Int.not_lt,Nat.not_lt,gt_iff_lt] at * <;> omega))) ?_;(with_reducible refine (bR.calls k a0 a1 false _ A3.out).mono ?_);rintro e w16 ⟨rfl,hb⟩;refine ⟨_,rfl,?_⟩;have d9:=aj.mk (bE (by repeat (first | (with_reducible first | exact HB.out | apply ak | apply ah | apply au) | exact HB.out)) hb);clear HB;have HB:=d9;clear d9;(try clear hb);(try clear hb2);(try clear hk);(try clear hi)))
    go_ret
    exact ⟨_,by first | rfl | (simp [aJ,aK] <;> rfl) | (simp [*,aJ,aK] <;> rfl),by first | exact Kd.jG _ _ _ _ _ | exact Kd.lD _ _ _ _ _ | exact Kd.lF _ _ _ _ _ | exact Kd.lu _ _ _ _ _ | exact Kd.lC _ _ _ _ _,by repeat (first | (with_reducible first | exact HB.out | apply ak | apply ah | apply au) | exact HB.out)⟩
def bI.l0 : Nat → ByteArray → List ByteArray → ByteArray → Int → Int → Option (ByteArray)
  | 0,_,_,_,_,_=>none
  | k + 1,x1,x5,x7,x8,x9=>if x9 < (x5.length:Int) then (if 0 ≤ x9 then ((fC.f k (pO ByteArray.empty x5 x9)).bind fun zY=>(if x7.size + zY.size ≤ 9223372036854775807 then (bI.l0 k x1 x5 (x7 ++ zY) (wrap64 (x8 + ((pO ByteArray.empty x5 x9).size:Int))) (wrap64 (x9 + 1))) else (none))) else (none)) else (if 0 ≤ x8 then (if x8 ≤ (x1.size:Int) then (if x7.size + (x1.extract (x8:Int).toNat x1.size).size ≤ 9223372036854775807 then (some (x7 ++ (x1.extract (x8:Int).toNat x1.size))) else (none)) else (none)) else (none))
def bI.f (k:Nat) (a0:Int) (a1:ByteArray):Option (ByteArray):=(bR.f k a0 a1).bind fun t183=>(if t183 = true then ((bg.f k a0 a1).bind fun mO=>((aH.f k a0).bind fun jf=>(if 0 ≤ jf.1 then (if jf.1 ≤ (a1.size:Int) then (bI.l0 k a1 mO (a1.extract 0 (jf.1:Int).toNat) jf.1 0) else (none)) else (none)))) else (some (⟨#[]⟩:ByteArray)))
set_option maxHeartbeats 8000000 in
set_option maxRecDepth 100000 in
theorem bI.calls (k:Nat) (a0:Int) (a1:ByteArray) (r:ByteArray) (w:World) (h:bI.f k a0 a1 = some r) :
    Calls Try.prog 84 #[.int .i64 a0,.string a1] w fun e w'=>e = .returned (.string r) ∧ Below w.heap.size w w':=by
  have Ny:=Try.underlying142
  have HB:=aj.mk (Below.refl w.heap.size w)
  have H:((bR.f k a0 a1).bind fun t183=>(if t183 = true then ((bg.f k a0 a1).bind fun mO=>((aH.f k a0).bind fun jf=>(if 0 ≤ jf.1 then (if jf.1 ≤ (a1.size:Int) then (bI.l0 k a1 mO (a1.extract 0 (jf.1:Int).toNat) jf.1 0) else (none)) else (none)))) else (some (⟨#[]⟩:ByteArray)))) = some r:=h
  clear h
  replace H:=zbm H
  obtain ⟨t183,Ta,H⟩:=H
  replace H:(if t183 = true then ((bg.f k a0 a1).bind fun mO=>((aH.f k a0).bind fun jf=>(if 0 ≤ jf.1 then (if jf.1 ≤ (a1.size:Int) then (bI.l0 k a1 mO (a1.extract 0 (jf.1:Int).toNat) jf.1 0) else (none)) else (none)))) else (some (⟨#[]⟩:ByteArray))) = some r:=H
  have A3:=aj.mk Ta
  clear Ta
  by_cases c4:t183 = true
  · subst c4
    have H1:((bg.f k a0 a1).bind fun mO=>((aH.f k a0).bind fun jf=>(if 0 ≤ jf.1 then (if jf.1 ≤ (a1.size:Int) then (bI.l0 k a1 mO (a1.extract 0 (jf.1:Int).toNat) jf.1 0) else (none)) else (none)))) = some r:=by rw [if_pos rfl] at H;exact H
    clear H
    have H:=H1
    clear H1
    replace H:=zbm H
    obtain ⟨mO,Tj,H⟩:=H
    replace H:((aH.f k a0).bind fun jf=>(if 0 ≤ jf.1 then (if jf.1 ≤ (a1.size:Int) then (bI.l0 k a1 mO (a1.extract 0 (jf.1:Int).toNat) jf.1 0) else (none)) else (none))) = some r:=H
    have A5:=aj.mk Tj
    clear Tj
    replace H:=zbm H
    obtain ⟨⟨qV,NM,Rp⟩,A60,H⟩:=H
    replace H:(if 0 ≤ qV then (if qV ≤ (a1.size:Int) then (bI.l0 k a1 mO (a1.extract 0 (qV:Int).toNat) qV 0) else (none)) else (none)) = some r:=H
    have A6:=aj.mk A60
    clear A60
    by_cases c7:0 ≤ qV
    · rw [if_pos c7] at H
      have uK:=eq_true c7
      have J8:decide (0 ≤ qV) = true:=decide_eq_true c7
      clear c7
      by_cases c8:qV ≤ (a1.size:Int)
      · rw [if_pos c8] at H
        have rZ:=eq_true c8
        have r9:decide (qV ≤ (a1.size:Int)) = true:=decide_eq_true c8
        clear c8
        have H':=aj.mk H
        clear H
        go_enter Try.func84,Try.ntmps84
        go_wp2_with (first | ((with_reducible refine aQ (f:=83) rfl ?_);refine bP (some 12) rfl rfl Try.func83 (by kernel_rfl) rfl #[.int .i64 a0,.string a1] rfl (by (try simp only [List.map_toArray,List.map_cons,List.map_nil]);first | done | rfl | (simp only [List.length_drop,List.length_take];rfl) | (simp only [ByteArray.size_append,Int.natCast_add];rfl) | (rw [B.dQ] <;> first | rfl | omega | (simp only [decide_eq_false_iff_not,decide_eq_true_eq,Int.not_lt,Nat.not_lt,gt_iff_lt] at * <;> omega))) ?_;(with_reducible refine (bR.calls k a0 a1 true _ A3.out).mono ?_);rintro e w9 ⟨rfl,hb⟩;refine ⟨_,rfl,?_⟩;have d9:=aj.mk (bE (by repeat (first | (with_reducible first | exact HB.out | apply ak | apply ah | apply au) | exact HB.out)) hb);clear HB;have HB:=d9;clear d9;(try clear hb);(try clear hb2);(try clear hk);(try clear hi)) | ((with_reducible refine aQ (f:=105) rfl ?_);refine bP (some 16) rfl rfl Try.func105 (by kernel_rfl) rfl #[.int .i64 a0,.string a1] rfl (by (try simp only [List.map_toArray,List.map_cons,List.map_nil]);first | done | rfl | (simp only [List.length_drop,List.length_take];rfl) | (simp only [ByteArray.size_append,Int.natCast_add];rfl) | (rw [B.dQ] <;> first | rfl | omega | (simp only [decide_eq_false_iff_not,decide_eq_true_eq,Int.not_lt,Nat.not_lt,gt_iff_lt] at * <;> omega))) ?_;(with_reducible refine (bg.calls k a0 a1 mO _ A5.out).mono ?_);rintro e w10 ⟨afv,rfl,ho0,hb⟩;refine ⟨_,rfl,?_⟩;have d9:=aj.mk (Kd.uh ho0 (bL (by repeat (first | (with_reducible first | exact HB.out | apply ak | apply ah | apply au) | exact HB.out))));have gX:=aj.mk (bE (by repeat (first | (with_reducible first | exact HB.out | apply ak | apply ah | apply au) | exact HB.out)) hb);clear HB;have zq:=d9;have HB:=gX;clear d9 gX;(try clear hb);(try clear hb2);(try clear hk);(try clear hi);(try clear ho0)) | ((with_reducible refine aQ (f:=106) rfl ?_);refine bP (some 18) rfl rfl Try.func106 (by kernel_rfl) rfl #[.int .i64 a0] rfl (by (try simp only [List.map_toArray,List.map_cons,List.map_nil]);first | done | rfl | (simp only [List.length_drop,List.length_take];rfl) | (simp only [ByteArray.size_append,Int.natCast_add];rfl) | (rw [B.dQ] <;> first | rfl | omega | (simp only [decide_eq_false_iff_not,decide_eq_true_eq,Int.not_lt,Nat.not_lt,gt_iff_lt] at * <;> omega))) ?_;(with_reducible refine (aH.calls k a0 qV NM Rp _ A6.out).mono ?_);rintro e VU ⟨rfl,hb⟩;refine ⟨_,rfl,?_⟩;have d9:=aj.mk (Kd.kE (by (with_reducible repeat (first | apply Kd.fu | apply Kd.fI | apply Kd.fU));exact zq.out) hb);have gX:=aj.mk (bE (by repeat (first | (with_reducible first | exact HB.out | apply ak | apply ah | apply au) | exact HB.out)) hb);clear zq;clear HB;have zq:=d9;have HB:=gX;clear d9 gX;(try clear hb);(try clear hb2);(try clear hk);(try clear hi)) | ((with_reducible refine gI (N:=6) rfl ?_);refine fQ ?hg (N:=6) ?hd (cs:=#[.int .i64 0,.int .i64 0,.int .i64 0]) (t:=142) ?hr ?_;(case hd=>rfl);(case hg=>rfl);(case hr=>first | (go_simp;done) | (go_simp;rfl));intro rG hg w12 gU hb;have d9:=aj.mk (Kd.kE (by (with_reducible repeat (first | apply Kd.fu | apply Kd.fI | apply Kd.fU));exact zq.out) hb);have gX:=aj.mk (bE (by repeat (first | (with_reducible first | exact HB.out | apply ak | apply ah | apply au) | exact HB.out)) hb);have jg:=aj.mk (gU);have jN:=aj.mk ((by rw [hg];exact (bL (by repeat (first | (with_reducible first | exact HB.out | apply ak | apply ah | apply au) | exact HB.out))):w.heap.size ≤ rG));have qU:=aj.mk ((by rw [hg];exact (bL (by repeat (first | (with_reducible first | exact HB.out | apply ak | apply ah | apply au) | exact HB.out))):w.heap.size ≤ rG));clear zq;clear HB;have zq:=d9;have HB:=gX;have nP:=jg;have ahw:=jN;have Jb:=qU;clear d9 gX jg jN qU;clear hb gU hg;have CY:w12.cell? ⟨rG,0,none⟩ = some (.int .i64 0):=(aM nP.out 0).trans rfl;have CZ:w12.cell? ⟨rG,1,none⟩ = some (.int .i64 0):=(aM nP.out 1).trans rfl;have C8:w12.cell? ⟨rG,2,none⟩ = some (.int .i64 0):=(aM nP.out 2).trans rfl;have C9:=ay nP.out 0;have Da:=ay nP.out 1;have Db:=ay nP.out 2))
        go_loopg [7,8,9] k (fun kq v7 v8 v9 w'=>∃ (dJ:ByteArray) (gJ:Int) (iK:Int),v7 = .string dJ ∧ v8 = .int .i64 gJ ∧ v9 = .int .i64 iK ∧ aj (bI.l0 kq a1 mO dJ gJ iK = some r) ∧ aj (kq ≤ k) ∧ aj (Kd.R Kd.string 9 w' w.heap.size (fun _=>True) afv mO) ∧ aj (w'.heap[rG]? = some (.cells #[.int .i64 qV,.int .i64 NM,.int .i64 Rp] 142 (0,0))) ∧ aj (Below w.heap.size w w'))
        case atStart=>exact ⟨(a1.extract 0 (qV:Int).toNat),(qV),(0),(by first | rfl | (simp;done) | (simp [*];done) | (simp [B.aV];done) | (simp [B.aW];done)),(by first | rfl | (simp;done) | (simp [*];done) | (simp [B.aV];done) | (simp [B.aW];done)),(by first | rfl | (simp;done) | (simp [*];done) | (simp [B.aV];done) | (simp [B.aW];done)),H',⟨Nat.le_refl _⟩,⟨by (with_reducible repeat (first | apply Kd.fu | apply Kd.fI | apply Kd.fU));exact Kd.pR (Kd.uj (p:=⟨rG,2,none⟩) (Kd.uj (p:=⟨rG,1,none⟩) (Kd.uj (p:=⟨rG,0,none⟩) (Kd.um zq.out nP.out (by decide)) (fun _ hk=>hk.2) (.int .i64 qV)) (fun _ hk=>hk.2) (.int .i64 NM)) (fun _ hk=>hk.2) (.int .i64 Rp)) (fun _ hk=>trivial)⟩,⟨by (with_reducible repeat (first | refine aG ?_ _ | refine aI ?_ | refine aA ?_ _));refine bU (cs:=#[.int .i64 qV,.int .i64 NM,.int .i64 0]) ?_ 2 _ rfl;(with_reducible repeat (first | refine aG ?_ _ | refine aI ?_ | refine aA ?_ _));refine bU (cs:=#[.int .i64 qV,.int .i64 0,.int .i64 0]) ?_ 1 _ rfl;(with_reducible repeat (first | refine aG ?_ _ | refine aI ?_ | refine aA ?_ _));refine bU (cs:=#[.int .i64 0,.int .i64 0,.int .i64 0]) ?_ 0 _ rfl;(with_reducible repeat (first | refine aG ?_ _ | refine aI ?_ | refine aA ?_ _));exact nP.out⟩,⟨by repeat (first | (with_reducible first | exact HB.out | apply ak | apply ah | apply au | refine aR ?_ Jb.out) | exact HB.out)⟩⟩
        case round =>
          clear H'
          try clear c1
          try clear p2
          try clear c4
          try clear c7
          try clear uK
          try clear J8
          try clear c8
          try clear rZ
          try clear r9
          try clear c10
          try clear CY
          try clear CZ
          try clear C8
          try clear C9
          try clear Da
          try clear Db
          obtain ⟨dJ,gJ,iK,rfl,rfl,rfl,HA,uD,vL,nP,HB⟩:=hrel
          cases gk with
          | zero=>exact absurd HA.out (by simp [bI.l0])
          | succ k1 =>
            have H:=HA.out
            clear HA
            simp only [bI.l0] at H
            by_cases c14:iK < (mO.length:Int)
            · rw [if_pos c14] at H
              have A9:decide (iK < (mO.length:Int)) = true:=decide_eq_true c14
              clear c14
              by_cases c15:0 ≤ iK
              · rw [if_pos c15] at H
                have ZT:decide (0 ≤ iK) = true:=decide_eq_true c15
                clear c15
                replace H:=zbm H
                obtain ⟨zY,abb,H⟩:=H
                replace H:(if dJ.size + zY.size ≤ 9223372036854775807 then (bI.l0 k1 a1 mO (dJ ++ zY) (wrap64 (gJ + ((pO ByteArray.empty mO iK).size:Int))) (wrap64 (iK + 1))) else (none)) = some r:=H
                have A16:=aj.mk abb
                clear abb
                by_cases c17:dJ.size + zY.size ≤ 9223372036854775807
                · rw [if_pos c17] at H
                  have Tf:=eq_true c17
                  have ahx:decide (dJ.size + zY.size ≤ 9223372036854775807) = true:=decide_eq_true c17
                  try have ahy:(9223372036854775807 < dJ.size + zY.size) = False:=eq_false (Nat.not_lt.2 c17)
                  have H':=aj.mk H
                  clear H
                  obtain ⟨ahT,ahU,afw⟩:=Kd.xk vL.out
                  subst afw
                  have V5:0 ≤ (iK:Int):=of_decide_eq_true (by first | (with_reducible assumption) | assumption)
                  have V6:iK < (mO.length:Int):=of_decide_eq_true (by first | (with_reducible assumption) | assumption)
                  obtain ⟨abd,afx,adS⟩:=Kd.AO (Kd.pU vL.out).2.2 iK V5 V6
                  cases afx
                  replace V5:=eq_true V5
                  replace V6:=eq_true V6
                  go_wp2_with (first | ((with_reducible refine aQ (f:=101) rfl ?_);refine bP (some 36) rfl rfl Try.func101 (by kernel_rfl) rfl #[.string (pO ByteArray.empty mO iK)] rfl (by (try simp only [List.map_toArray,List.map_cons,List.map_nil]);first | done | rfl | (simp only [List.length_drop,List.length_take];rfl) | (simp only [ByteArray.size_append,Int.natCast_add];rfl) | (rw [B.dQ] <;> first | rfl | omega | (simp only [decide_eq_false_iff_not,decide_eq_true_eq,Int.not_lt,Nat.not_lt,gt_iff_lt] at * <;> omega))) ?_;(with_reducible refine (fC.calls k1 (pO ByteArray.empty mO iK) zY _ A16.out).mono ?_);rintro e w19 ⟨rfl,hb⟩;refine ⟨_,rfl,?_⟩;have d9:=aj.mk (Kd.kE (by (with_reducible repeat (first | apply Kd.fu | apply Kd.fI | apply Kd.fU));exact vL.out) hb);have gX:=aj.mk (dO (g:=rG) (o:=.cells #[.int .i64 qV,.int .i64 NM,.int .i64 Rp] 142 (0,0)) (by (with_reducible repeat (first | refine aG ?_ _ | refine aI ?_ | refine aA ?_ _));exact nP.out) hb);have jg:=aj.mk (bE (by repeat (first | (with_reducible first | exact HB.out | apply ak | apply ah | apply au | refine aR ?_ Jb.out) | exact HB.out)) hb);clear vL;clear nP;clear HB;have vL:=d9;have nP:=gX;have HB:=jg;clear d9 gX jg;(try clear hb);(try clear hb2);(try clear hk);(try clear hi);have V7:0 ≤ (iK:Int):=of_decide_eq_true (by first | (with_reducible assumption) | assumption);have V8:iK < (mO.length:Int):=of_decide_eq_true (by first | (with_reducible assumption) | assumption);obtain ⟨abe,afy,adT⟩:=Kd.AO (Kd.pU vL.out).2.2 iK V7 V8;obtain rfl:abd = abe:=(by injection afy);replace V7:=eq_true V7;replace V8:=eq_true V8))
                  go_roundg k1
                  case measure=>have:=uD.out;omega
                  case rel=>exact ⟨(dJ ++ zY),(wrap64 (gJ + ((pO ByteArray.empty mO iK).size:Int))),(wrap64 (iK + 1)),(by first | rfl | (simp;done) | (simp [*];done) | (simp [B.aV];done) | (simp [B.aW];done)),(by first | rfl | (simp;done) | (simp [*];done) | (simp [B.aV];done) | (simp [B.aW];done)),(by first | rfl | (simp;done) | (simp [*];done) | (simp [B.aV];done) | (simp [B.aW];done)),H',⟨by have:=uD.out;omega⟩,⟨by (with_reducible repeat (first | apply Kd.fu | apply Kd.fI | apply Kd.fU));exact vL.out⟩,⟨by (with_reducible repeat (first | refine aG ?_ _ | refine aI ?_ | refine aA ?_ _));exact nP.out⟩,⟨by repeat (first | (with_reducible first | exact HB.out | apply ak | apply ah | apply au | refine aR ?_ Jb.out) | exact HB.out)⟩⟩
                · rw [if_neg c17] at H
                  exact absurd H (by simp)
              · rw [if_neg c15] at H
                exact absurd H (by simp)
            · rw [if_neg c14] at H
              have A9:decide (iK < (mO.length:Int)) = false:=decide_eq_false c14
              clear c14
              by_cases c20:0 ≤ gJ
              · rw [if_pos c20] at H
                have Nr:=eq_true c20
                have aao:decide (0 ≤ gJ) = true:=decide_eq_true c20
                clear c20
                by_cases c21:gJ ≤ (a1.size:Int)
                · rw [if_pos c21] at H
                  have Td:=eq_true c21
                  have Te:decide (gJ ≤ (a1.size:Int)) = true:=decide_eq_true c21
                  clear c21
                  by_cases Fx:dJ.size + (a1.extract (gJ:Int).toNat a1.size).size ≤ 9223372036854775807
                  · rw [if_pos Fx] at H
                    have NI:=eq_true Fx
                    have NJ:decide (dJ.size + (a1.extract (gJ:Int).toNat a1.size).size ≤ 9223372036854775807) = true:=decide_eq_true Fx
                    try have ahz:(9223372036854775807 < dJ.size + (a1.extract (gJ:Int).toNat a1.size).size) = False:=eq_false (Nat.not_lt.2 Fx)
                    obtain rfl:=Option.some.inj H
                    obtain ⟨ahV,ahW,afz⟩:=Kd.xk vL.out
                    subst afz
                    go_wp2
                    go_ret
                    exact ⟨by first | rfl | (simp [aJ,aK] <;> rfl) | (simp [*,aJ,aK] <;> rfl),by repeat (first | (with_reducible first | exact HB.out | apply ak | apply ah | apply au | refine aR ?_ Jb.out) | exact HB.out)⟩
                  · rw [if_neg Fx] at H
                    exact absurd H (by simp)
                · rw [if_neg c21] at H
                  exact absurd H (by simp)
              · rw [if_neg c20] at H
                exact absurd H (by simp)
      · rw [if_neg c8] at H
        exact absurd H (by simp)
    · rw [if_neg c7] at H
      exact absurd H (by simp)
  · replace c4:=Bool.eq_false_iff.mpr c4
    subst c4
    have H1:(some (⟨#[]⟩:ByteArray)) = some r:=by rw [if_neg (show ¬ (false = true) by decide)] at H;exact H
    clear H
    have H:=H1
    clear H1
    obtain rfl:=Option.some.inj H
    go_enter Try.func84,Try.ntmps84
    go_wp2_with (first | ((with_reducible refine aQ (f:=83) rfl ?_);refine bP (some 12) rfl rfl Try.func83 (by kernel_rfl) rfl #[.int .i64 a0,.string a1] rfl (by (try simp only [List.map_toArray,List.map_cons,List.map_nil]);first | done | rfl | (simp only [List.length_drop,List.length_take];rfl) | (simp only [ByteArray.size_append,Int.natCast_add];rfl) | (rw [B.dQ] <;> first | rfl | omega | (simp only [decide_eq_false_iff_not,decide_eq_true_eq,Int.not_lt,Nat.not_lt,gt_iff_lt] at * <;> omega))) ?_;(with_reducible refine (bR.calls k a0 a1 false _ A3.out).mono ?_);rintro e w24 ⟨rfl,hb⟩;refine ⟨_,rfl,?_⟩;have d9:=aj.mk (bE (by repeat (first | (with_reducible first | exact HB.out | apply ak | apply ah | apply au) | exact HB.out)) hb);clear HB;have HB:=d9;clear d9;(try clear hb);(try clear hb2);(try clear hk);(try clear hi)))
    go_ret
    exact ⟨by first | rfl | (simp [aJ,aK] <;> rfl) | (simp [*,aJ,aK] <;> rfl),by repeat (first | (with_reducible first | exact HB.out | apply ak | apply ah | apply au) | exact HB.out)⟩
end Go.Proofs.Ytdkkgecdhapfhaa.ZQ
namespace Go.Proofs.Ytdkkgecdhapfhaa.ZQ
open Go.RowKit Go.Proofs.YtdkkgecdhapfhaaW.bD Go.Proofs.YtdkkgecdhapfhaaW.dL Go.Proofs.YtdkkgecdhapfhaaW.eP Go.Proofs.Ytdkkgecdhapfhaa.B
def wB (msg:ByteArray) (i:Int):ByteArray × Int × Int:=(bF.f (rounds i) msg i).getD (⟨#[]⟩,0,0)
theorem Tn (msg:ByteArray) (i:Int) (hm:msg.size ≤ 100000):bF.f (rounds i) msg i = some (wB msg i):=by
  obtain ⟨R,h1,_⟩:=Bb (rounds i) msg i hm (Nat.le_refl _)
  unfold wB;rw [h1];rfl
theorem Tp (k:Nat) (msg:ByteArray) (i:Int) (hm:msg.size ≤ 100000) (hk:rounds i ≤ k):bF.f k msg i = some (wB msg i):=EX hk (Tn msg i hm)
theorem vM (k:Nat) (msg:ByteArray) (i:Int) (hm:msg.size ≤ 100000) (hk:rounds i ≤ k):aU.f k msg i = some (wB msg i):=by
  obtain ⟨R,h1,h2⟩:=Bb k msg i hm hk
  rw [Tp k msg i hm hk] at h1
  rw [h2,h1]
theorem uN (msg:ByteArray) (i:Int) (hm:msg.size ≤ 100000) :
    ((wB msg i).2.2 = 0 ∧ jM (wB msg i).1 = true ∧ 0 ≤ i ∧ i < (wB msg i).2.1 ∧ (wB msg i).2.1 ≤ (msg.size:Int)) ∨ (((wB msg i).2.2 = 2 ∨ (wB msg i).2.2 = 3) ∧ (wB msg i).1 = ⟨#[]⟩ ∧ (wB msg i).2.1 = 0):=GA hm (Tn msg i hm)
def Fg (msg:ByteArray) (e:Int):Nat → Int → List ByteArray → Option (List ByteArray × Int)
  | 0,i,l=>some (l,i)
  | n + 1,i,l=>if (wB msg i).2.2 = 0 then (if (wB msg i).2.1 > e then none else Fg msg e n (wB msg i).2.1 (l ++ [(wB msg i).1])) else none
theorem qH (msg:ByteArray) (e:Int) (hm:msg.size ≤ 100000):∀ (n:Nat) (i:Int) (l:List ByteArray) (R:List ByteArray × Int),Fg msg e n i l = some R → i ≤ e → i ≤ R.2 ∧ R.2 ≤ e ∧ R.1.length = l.length + n ∧ (∃ l',R.1 = l ++ l' ∧ ∀ x ∈ l',jM x = true)
  | 0,i,l,R,h,hi=>by cases h;exact ⟨Int.le_refl _,hi,rfl,[],by simp,by simp⟩
  | n + 1,i,l,R,h,hi=>by
    rw [Fg] at h
    by_cases h0:(wB msg i).2.2 = 0
    · rw [if_pos h0] at h
      by_cases h1:(wB msg i).2.1 > e
      · rw [if_pos h1] at h;cases h
      · rw [if_neg h1] at h
        obtain ⟨a1,a2,a3,l',a4,a5⟩:=qH msg e hm n _ _ R h (by omega)
        rcases uN msg i hm with ⟨_,b2,_,b4,_⟩ | ⟨b1,_⟩
        · refine ⟨by omega,a2,by rw [a3,List.length_append,List.length_singleton];omega,(wB msg i).1 :: l',by rw [a4];simp,?_⟩
          intro x hx
          rcases List.mem_cons.mp hx with rfl | hx
          · exact b2
          · exact a5 x hx
        · omega
    · rw [if_neg h0] at h;cases h
def K0 : Nat:=101000
theorem qI {msg:ByteArray} {i:Int} {k:Nat} (hm:msg.size ≤ 100000) (hi:i ≤ (msg.size:Int)) (hk:K0 ≤ k):rounds i ≤ k:=by unfold rounds;unfold K0 at hk;omega
theorem Dk (msg:ByteArray) (e s0 s1 s2:Int) (a b:ByteArray) (hm:msg.size ≤ 100000) (he:e ≤ (msg.size:Int)) (h2:0 ≤ s2 ∧ s2 ≤ 1000) (c:Int) (hc:c ≤ 100):∀ (n k:Nat) (i x:Int) (l:List ByteArray),K0 + n ≤ k → x + n = c → 0 ≤ x → 0 ≤ i → i ≤ e → l.length + n ≤ 1000 →
    bV.l0 (k + 1) msg i e c x s0 s1 s2 a b l = (match Fg msg e n i l with
      | some R=>some (a,msg.extract R.2.toNat e.toNat,R.1,(((msg.extract R.2.toNat e.toNat).size:Int) == s2))
      | none=>some (⟨#[]⟩,⟨#[]⟩,[],false))
  | 0,k,i,x,l,hk,hx,hx0,hi,hie,hl=>by
    rw [bV.l0,if_neg (by omega),if_pos hi,if_pos hie,if_pos he,Fg]
  | n + 1,k,i,x,l,hk,hx,hx0,hi,hie,hl=>by
    obtain ⟨k,rfl⟩:∃ m,k = m + 1:=⟨k - 1,by omega⟩
    rw [bV.l0,if_pos (by omega),Tp (k + 1) msg i hm (qI hm (by omega) (by omega)),Fg]
    simp only [Option.bind_some]
    by_cases h0:(wB msg i).2.2 = 0
    · rw [if_pos h0,if_pos h0]
      by_cases h1:(wB msg i).2.1 > e
      · rw [if_pos h1,if_pos h1]
      · rcases uN msg i hm with ⟨_,_,_,b4,_⟩ | ⟨b1,_⟩
        · rw [if_neg h1,if_neg h1,if_pos (by omega),dQ (by omega) (by omega)]
          exact Dk msg e s0 s1 s2 a b hm he h2 c hc n k _ (x + 1) _ (by omega) (by omega) (by omega) (by omega) (by omega) (by rw [List.length_append,List.length_singleton];omega)
        · omega
    · rw [if_neg h0,if_neg h0]
def NP (s:ByteArray):Nat → Int → Bool
  | 0,_=>false
  | k + 1,i=>if i < (s.size:Int) then NP s k (i + 1 + bt s i) else decide (i = s.size)
def GI (s:ByteArray):Bool:=decide (0 < s.size) && NP s (s.size + 1) 0
theorem V9 (s:ByteArray) {k:Nat} {i:Int} (h:(s.size:Int) < i):NP s k i = false:=by
  cases k with
  | zero=>rfl
  | succ k=>rw [NP,if_neg (by omega)];simp;omega
theorem NQ (s:ByteArray) (hs:s.size ≤ 100000) (d:Nat):∀ (k m:Nat) (i:Int),0 ≤ i → i ≤ (s.size:Int) → s.size - i.toNat ≤ d → d + 1 ≤ k → d + 1 ≤ m → dK.l0 k (s.extract i.toNat s.size) = some (NP s m i):=by
  induction d with
  | zero =>
    intro k m i h0 h1 h2 hk hm
    obtain ⟨k,rfl⟩:∃ j,k = j + 1:=⟨k - 1,by omega⟩
    obtain ⟨m,rfl⟩:∃ j,m = j + 1:=⟨m - 1,by omega⟩
    rw [dK.l0,if_pos (toList_nil.mpr (by rw [ByteArray.size_extract];omega)),NP,if_neg (by omega),decide_eq_true (by omega)]
  | succ d ih =>
    intro k m i h0 h1 h2 hk hm
    obtain ⟨k,rfl⟩:∃ j,k = j + 1:=⟨k - 1,by omega⟩
    obtain ⟨m,rfl⟩:∃ j,m = j + 1:=⟨m - 1,by omega⟩
    have hz:(s.extract i.toNat s.size).size = s.size - i.toNat:=by rw [ByteArray.size_extract];omega
    by_cases hi:i < (s.size:Int)
    · have hb:bt (s.extract i.toNat s.size) 0 = bt s i:=by
        rw [mH (by omega) (by omega)];congr 1;omega
      have hr:=gB s i
      rw [dK.l0,if_neg (by rw [toList_nil];omega),if_pos (by omega),hb,dQ (n:=bt s i) (by omega) (by omega),dQ (n:=1 + bt s i) (by omega) (by omega),NP,if_pos hi]
      by_cases h3:1 + bt s i > ((s.extract i.toNat s.size).size:Int)
      · rw [if_pos h3,V9 s (by omega)]
      · rw [if_neg h3,if_pos (by omega),if_pos (by omega)]
        have e:(s.extract i.toNat s.size).extract (1 + bt s i).toNat (s.extract i.toNat s.size).size = s.extract (i + 1 + bt s i).toNat s.size:=by
          rw [ByteArray.extract_extract,hz]
          congr 1 <;> omega
        rw [e]
        exact ih k m _ (by omega) (by omega) (by omega) (by omega) (by omega)
    · rw [dK.l0,if_pos (toList_nil.mpr (by omega)),NP,if_neg hi,decide_eq_true (by omega)]
theorem NR (k:Nat) (hk:K0 ≤ k) (s:ByteArray) (hs:s.size ≤ 100000):dK.f k s = some (GI s):=by
  unfold dK.f GI
  by_cases h:s.toList = ([]:List UInt8)
  · rw [if_pos h];rw [toList_nil] at h;rw [h];rfl
  · rw [if_neg h]
    rw [toList_nil] at h
    unfold K0 at hk
    have:=NQ s hs s.size k (s.size + 1) 0 (by omega) (by omega) (by omega) (by omega) (by omega)
    rw [show (0:Int).toNat = 0 from rfl,ByteArray.extract_zero_size] at this
    rw [this,decide_eq_true (by omega),Bool.true_and]
theorem Dl (s:ByteArray) (hs:s.size ≤ 100000) (d:Nat):∀ (k m:Nat) (i:Int),0 ≤ i → (i:Int) ≤ s.size + 300 → 0 < i ∨ 0 < s.size → s.size - i.toNat ≤ d → d + 1 ≤ k → d + 1 ≤ m → bq.l0 k s i = some (NP s m i):=by
  induction d with
  | zero =>
    intro k m i h0 h1 hp h2 hk hm
    obtain ⟨k,rfl⟩:∃ j,k = j + 1:=⟨k - 1,by omega⟩
    obtain ⟨m,rfl⟩:∃ j,m = j + 1:=⟨m - 1,by omega⟩
    have hlt:¬ i < (s.size:Int):=by omega
    rw [bq.l0,if_neg hlt,NP,if_neg hlt]
    by_cases h:i = (s.size:Int)
    · rw [if_pos h,decide_eq_true (by omega),decide_eq_true h]
    · rw [if_neg h,decide_eq_false h]
  | succ d ih =>
    intro k m i h0 h1 hp h2 hk hm
    obtain ⟨k,rfl⟩:∃ j,k = j + 1:=⟨k - 1,by omega⟩
    obtain ⟨m,rfl⟩:∃ j,m = j + 1:=⟨m - 1,by omega⟩
    have hr:=gB s i
    rw [bq.l0,NP]
    by_cases hi:i < (s.size:Int)
    · rw [if_pos hi,if_pos hi,if_pos h0,dQ (n:=bt s i) (by omega) (by omega),dQ (n:=i + 1) (by omega) (by omega),dQ (by omega) (by omega)]
      exact ih k m _ (by omega) (by omega) (by omega) (by omega) (by omega) (by omega)
    · rw [if_neg hi,if_neg hi]
      by_cases h:i = (s.size:Int)
      · rw [if_pos h,decide_eq_true (by omega),decide_eq_true h]
      · rw [if_neg h,decide_eq_false h]
theorem Dm (k:Nat) (hk:K0 ≤ k) (s:ByteArray) (hs:s.size ≤ 100000):bq.f k s = some (GI s):=by
  unfold bq.f GI
  unfold K0 at hk
  by_cases h:0 < s.size
  · rw [Dl s hs s.size k (s.size + 1) 0 (by omega) (by omega) (by omega) (by omega) (by omega) (by omega),decide_eq_true h,Bool.true_and]
  · obtain ⟨k,rfl⟩:∃ j,k = j + 1:=⟨k - 1,by omega⟩
    rw [bq.l0,if_neg (by omega),if_pos (by omega),decide_eq_false h];rfl
end Go.Proofs.Ytdkkgecdhapfhaa.ZQ
namespace Go.Proofs.Ytdkkgecdhapfhaa.ZQ
open Go.RowKit Go.Proofs.YtdkkgecdhapfhaaW.bD Go.Proofs.YtdkkgecdhapfhaaW.dL Go.Proofs.YtdkkgecdhapfhaaW.eP Go.Proofs.Ytdkkgecdhapfhaa.B
theorem GJ (l m:List ByteArray):strings_Join.cat (l ++ m) = strings_Join.cat l ++ strings_Join.cat m:=by
  induction l with
  | nil=>exact (empty_append _).symm
  | cons x l ih=>rw [List.cons_append,strings_Join.cat,ih,strings_Join.cat,ByteArray.append_assoc]
theorem Rq (x:ByteArray):strings_Join.cat [x] = x:=append_empty x
theorem qc {n:ByteArray} (h:jM n = true):n.size ≤ 255:=by
  obtain ⟨l,_,_,hz⟩:=Io.mp h;exact hz
theorem uO : ∀ {l:List ByteArray},(∀ x ∈ l,jM x = true) → (strings_Join.cat l).size ≤ 255 * l.length
  | [],_=>Nat.zero_le _
  | x :: l,h=>by
    have h1:=qc (h x (by simp))
    have h2:=uO (l:=l) (fun y hy=>h y (by simp [hy]))
    rw [strings_Join.cat,ByteArray.size_append,List.length_cons]
    omega
def zu (d:ByteArray):ByteArray × Int:=if (d.size:Int) > 65535 then (⟨#[]⟩,4) else (d,0)
theorem vN (d:ByteArray):(if (d.size:Int) > 65535 then some ((⟨#[]⟩:ByteArray),(4:Int)) else some (d,0)) = some (zu d):=by
  unfold zu;split <;> rfl
def Kl (msg:ByteArray) (i size:Int) (s:Int × Int × Int):ByteArray × Int :=
  if s.1 ≤ size then (match Fg msg (i + size) s.2.1.toNat (i + s.1) [] with
    | some R=>if R.2 + s.2.2 = i + size then zu (msg.extract i.toNat (i + s.1).toNat ++ strings_Join.cat R.1 ++ msg.extract R.2.toNat (i + size).toNat) else (⟨#[]⟩,4)
    | none=>(⟨#[]⟩,4)) else (⟨#[]⟩,4)
def zZ (msg:ByteArray) (i size kind:Int):ByteArray × Int :=
  if gT msg i size then (match aD.zn kind with
    | some s=>Kl msg i size s
    | none=>if kind = 16 then (if GI (msg.extract i.toNat (i + size).toNat) = true then zu (msg.extract i.toNat (i + size).toNat) else (⟨#[]⟩,4)) else zu (msg.extract i.toNat (i + size).toNat))
  else (⟨#[]⟩,2)
theorem kY {kind:Int} {s:Int × Int × Int} (h:aD.zn kind = some s):0 ≤ s.1 ∧ s.1 ≤ 16 ∧ 0 ≤ s.2.1 ∧ s.2.1 ≤ 2 ∧ 0 ≤ s.2.2 ∧ s.2.2 ≤ 20 ∧ kind ≠ 16 ∧ (s.1 = 0 → s.2.1 = 0 → False):=by
  unfold aD.zn at h
  repeat' split at h
  all_goals (first | (cases h;subst_vars;decide) | cases h)
theorem Wd (k:Nat) (hk:K0 ≤ k) (kind:Int) (hkind:kind ≠ 16) (d:ByteArray):aD.fin k kind d true = some (zu d):=by
  unfold aD.fin
  rw [if_pos rfl,if_neg hkind,vN]
theorem vO (k:Nat) (kind:Int) (d:ByteArray):aD.fin k kind d false = some (⟨#[]⟩,4):=by
  unfold aD.fin;rw [if_neg Bool.false_ne_true]
theorem Bh (msg:ByteArray) (i size kind:Int) (k:Nat) (hk:K0 ≤ k) (hm:msg.size ≤ 100000) (f:ByteArray → Option Bool) (hf:∀ s,s.size ≤ 100000 → f s = some (GI s)) (t:ByteArray) (ht:t.size ≤ 100000) :
    (if kind = 16 then ((f t).bind fun b=>if b = true then (if (t.size:Int) > 65535 then some ((⟨#[]⟩:ByteArray),(4:Int)) else some (t,0)) else some (⟨#[]⟩,4)) else (if (t.size:Int) > 65535 then some (⟨#[]⟩,4) else some (t,0))) =
      some (if kind = 16 then (if GI t = true then zu t else (⟨#[]⟩,4)) else zu t):=by
  rw [hf t ht,vN]
  simp only [Option.bind_some]
  split
  · split <;> rfl
  · rfl
theorem Km (k:Nat) (hk:K0 + 10 ≤ k) (msg:ByteArray) (i size kind:Int) (hm:msg.size ≤ 100000) (ht:gT msg i size) (s:Int × Int × Int) (hs:aD.zn kind = some s):aD.g k msg i size kind s = some (Kl msg i size s):=by
  obtain ⟨h0,h1,h2⟩:=ht
  obtain ⟨a1,a2,a3,a4,a5,a6,a7,a8⟩:=kY hs
  obtain ⟨s0,s1,s2⟩:=s
  simp only at a1 a2 a3 a4 a5 a6 a8
  have e1:wrap64 (i + size) = i + size:=dQ (by omega) (by omega)
  have e2:wrap64 (i + size - i) = size:=by rw [dQ (by omega) (by omega)];omega
  have e3:wrap64 (i + s0) = i + s0:=dQ (by omega) (by omega)
  unfold aD.g bV.f Kl
  simp only [e1,e2,e3]
  by_cases c:s0 ≤ size
  · rw [if_pos c,if_pos c,if_pos h0,if_pos (by omega),if_pos (by omega)]
    obtain ⟨k,rfl⟩:∃ j,k = j + 1:=⟨k - 1,by omega⟩
    rw [Dk msg (i + size) s0 s1 s2 _ _ hm h2 ⟨a5,by omega⟩ s1 (by omega) s1.toNat k (i + s0) 0 [] (by omega) (by omega) (Int.le_refl _) (by omega) (by omega) (by simp only [List.length_nil];omega)]
    have hz:(msg.extract i.toNat (i + s0).toNat).size ≤ 16:=by rw [ByteArray.size_extract];omega
    cases hr:Fg msg (i + size) s1.toNat (i + s0) [] with
    | none =>
      simp only [Option.bind_some]
      rw [if_pos (by decide),if_pos (by decide),vO]
    | some R =>
      obtain ⟨b1,b2,b3,l',b4,b5⟩:=qH msg _ hm _ _ _ R hr (by omega)
      have hcz:=uO b5
      rw [List.nil_append] at b4
      rw [← b4] at hcz
      rw [List.length_nil,Nat.zero_add] at b3
      have hbz:(msg.extract R.2.toNat (i + size).toNat).size = (i + size - R.2).toNat:=by rw [ByteArray.size_extract];omega
      simp only [Option.bind_some]
      rw [if_pos (by omega),if_pos (by omega)]
      by_cases d:R.2 + s2 = i + size
      · rw [if_pos d,show (((msg.extract R.2.toNat (i + size).toNat).size:Int) == s2) = true from beq_iff_eq.mpr (by omega),Wd k.succ (by omega) kind a7]
      · rw [if_neg d,show (((msg.extract R.2.toNat (i + size).toNat).size:Int) == s2) = false from beq_eq_false_iff_ne.mpr (by omega),vO]
  · rw [if_neg c,if_neg c]
    simp only [Option.bind_some]
    rw [if_pos (by decide),if_pos (by decide),vO]
theorem Wh (k:Nat) (hk:K0 + 10 ≤ k) (msg:ByteArray) (i size kind:Int) (hm:msg.size ≤ 100000):aD.f k msg i size kind = some (zZ msg i size kind):=by
  unfold aD.f zZ
  rw [uJ msg i size (by omega)]
  simp only [Option.bind_some]
  by_cases ht:gT msg i size
  · rw [if_pos ht,if_pos ht]
    simp only [if_true]
    cases hs:aD.zn kind with
    | some s=>exact Km k hk msg i size kind hm ht s hs
    | none =>
      have hz:(msg.extract i.toNat (i + size).toNat).size ≤ 100000:=by rw [ByteArray.size_extract];omega
      have:=Bh msg i size kind k (by omega) hm (dK.f k) (fun s h=>NR k (by omega) s h) _ hz
      unfold aD.fin
      rw [if_pos rfl]
      exact this
  · rw [if_neg ht,if_neg ht];rfl
theorem oC (k:Nat) (hk:1 ≤ k) (kind:Int):aH.f k kind = some ((aD.zn kind).getD (0,0,0)):=by
  obtain ⟨k,rfl⟩:∃ j,k = j + 1:=⟨k - 1,by omega⟩
  unfold aH.f aD.zn
  simp only [aH.j0]
  by_cases h1:kind = 1
  · subst h1;rfl
  by_cases h2:kind = 28
  · subst h2;rfl
  by_cases h3:kind = 2
  · subst h3;rfl
  by_cases h4:kind = 5
  · subst h4;rfl
  by_cases h5:kind = 12
  · subst h5;rfl
  by_cases h6:kind = 6
  · subst h6;rfl
  by_cases h7:kind = 15
  · subst h7;rfl
  by_cases h8:kind = 33
  · subst h8;rfl
  simp [h1,h2,h3,h4,h5,h6,h7,h8]
theorem Fh (msg:ByteArray) (i size s0 s1 s2:Int) (hm:msg.size ≤ 100000) (ht:gT msg i size) (h2:0 ≤ s2 ∧ s2 ≤ 1000) (hs:s1 ≤ 100):∀ (n k:Nat) (j x:Int) (out:ByteArray),K0 + n ≤ k → x + n = s1 → 0 ≤ x → i + size < j → j ≤ (msg.size:Int) → out.size + 300 * n ≤ 1000000 →
    aX.l0 (k + 1) msg i size out j x s0 s1 s2 = some (⟨#[]⟩,4)
  | 0,k,j,x,out,hk,hx,hx0,hj,hjm,ho=>by
    obtain ⟨t0,t1,t2⟩:=ht
    rw [aX.l0,if_neg (by omega),dQ (n:=j + s2) (by omega) (by omega),dQ (n:=i + size) (by omega) (by omega),if_neg (by omega)]
  | n + 1,k,j,x,out,hk,hx,hx0,hj,hjm,ho=>by
    obtain ⟨k,rfl⟩:∃ m,k = m + 1:=⟨k - 1,by omega⟩
    rw [aX.l0,if_pos (by omega),vM (k + 1) msg j hm (qI hm (by omega) (by omega))]
    simp only [Option.bind_some]
    rcases uN msg j hm with ⟨b1,b2,_,b4,b5⟩ | ⟨b1,_⟩
    · have hz:=qc b2
      rw [if_pos b1,if_pos (by omega),dQ (n:=x + 1) (by omega) (by omega)]
      exact Fh msg i size s0 s1 s2 hm ht h2 hs n k _ _ _ (by omega) (by omega) (by omega) (by omega) b5 (by rw [ByteArray.size_append];omega)
    · rw [if_neg (by omega)]
theorem NS (msg:ByteArray) (i size s0 s1 s2:Int) (a:ByteArray) (hm:msg.size ≤ 100000) (ht:gT msg i size) (h2:0 ≤ s2 ∧ s2 ≤ 1000) (hs:s1 ≤ 100):∀ (n k:Nat) (j x:Int) (l:List ByteArray),K0 + n ≤ k → x + n = s1 → 0 ≤ x → 0 ≤ j → j ≤ i + size → (a ++ strings_Join.cat l).size + 300 * n ≤ 800000 →
    aX.l0 (k + 1) msg i size (a ++ strings_Join.cat l) j x s0 s1 s2 = some (match Fg msg (i + size) n j l with
      | some R=>if R.2 + s2 = i + size then zu (a ++ strings_Join.cat R.1 ++ msg.extract R.2.toNat (i + size).toNat) else (⟨#[]⟩,4)
      | none=>(⟨#[]⟩,4))
  | 0,k,j,x,l,hk,hx,hx0,hj0,hj,ho=>by
    obtain ⟨t0,t1,t2⟩:=ht
    rw [aX.l0,if_neg (by omega),dQ (n:=j + s2) (by omega) (by omega),dQ (n:=i + size) (by omega) (by omega),Fg]
    simp only
    by_cases c:j + s2 = i + size
    · have hz:(msg.extract j.toNat (i + size).toNat).size ≤ 100000:=by rw [ByteArray.size_extract];omega
      rw [if_pos c,if_pos c,if_pos hj0,if_pos hj,if_pos t2,if_pos (by omega),vN]
    · rw [if_neg c,if_neg c]
  | n + 1,k,j,x,l,hk,hx,hx0,hj0,hj,ho=>by
    have ht0:=ht
    obtain ⟨t0,t1,t2⟩:=ht
    obtain ⟨k,rfl⟩:∃ m,k = m + 1:=⟨k - 1,by omega⟩
    rw [aX.l0,if_pos (by omega),vM (k + 1) msg j hm (qI hm (by omega) (by omega)),Fg]
    simp only [Option.bind_some]
    rcases uN msg j hm with ⟨b1,b2,_,b4,b5⟩ | ⟨b1,_⟩
    · have hz:=qc b2
      rw [if_pos b1,if_pos b1,if_pos (by omega),dQ (n:=x + 1) (by omega) (by omega)]
      by_cases c:(wB msg j).2.1 > i + size
      · rw [if_pos c]
        exact Fh msg i size s0 s1 s2 hm ht0 h2 hs n k _ _ _ (by omega) (by omega) (by omega) (by omega) b5 (by rw [ByteArray.size_append];omega)
      · rw [if_neg c]
        have e:a ++ strings_Join.cat l ++ (wB msg j).1 = a ++ strings_Join.cat (l ++ [(wB msg j).1]):=by rw [GJ,Rq,ByteArray.append_assoc]
        rw [e]
        exact NS msg i size s0 s1 s2 a hm ht0 h2 hs n k _ _ _ (by omega) (by omega) (by omega) (by omega) (by omega) (by rw [← e,ByteArray.size_append];omega)
    · rw [if_neg (by omega),if_neg (by omega)]
theorem GK (k:Nat) (hk:K0 + 10 ≤ k) (msg:ByteArray) (i size kind:Int) (hm:msg.size ≤ 100000):aX.f k msg i size kind = some (zZ msg i size kind):=by
  unfold aX.f zZ
  rw [pY msg i size (by omega),oC k (by omega)]
  simp only [Option.bind_some]
  by_cases ht:gT msg i size
  · rw [if_pos ht,if_pos ht]
    simp only [if_true]
    obtain ⟨t0,t1,t2⟩:=ht
    have hz:(msg.extract i.toNat (i + size).toNat).size = size.toNat:=by rw [ByteArray.size_extract];omega
    cases hs:aD.zn kind with
    | none =>
      simp only [Option.getD_none]
      rw [if_pos (by decide)]
      exact Bh msg i size kind k (by omega) hm (bq.f k) (fun s h=>Dm k (by omega) s h) _ (by omega)
    | some s =>
      obtain ⟨a1,a2,a3,a4,a5,a6,a7,a8⟩:=kY hs
      obtain ⟨s0,s1,s2⟩:=s
      simp only at a1 a2 a3 a4 a5 a6 a8
      simp only [Option.getD_some]
      have main:(if s0 > size then some ((⟨#[]⟩:ByteArray),(4:Int)) else (if 0 ≤ s0 then (if s0 ≤ ((msg.extract i.toNat (i + size).toNat).size:Int) then (aX.l0 k msg i size ((msg.extract i.toNat (i + size).toNat).extract 0 (s0:Int).toNat) (wrap64 (i + s0)) 0 s0 s1 s2) else none) else none)) = some (Kl msg i size (s0,s1,s2)):=by
        unfold Kl
        simp only
        by_cases c:s0 > size
        · rw [if_pos c,if_neg (by omega)]
        · rw [if_neg c,if_pos a1,if_pos (by omega),if_pos (by omega),dQ (by omega) (by omega)]
          obtain ⟨k,rfl⟩:∃ j,k = j + 1:=⟨k - 1,by omega⟩
          have e:(msg.extract i.toNat (i + size).toNat).extract 0 s0.toNat = msg.extract i.toNat (i + s0).toNat:=by
            rw [ByteArray.extract_extract];congr 1 <;> omega
          have hz2:(msg.extract i.toNat (i + s0).toNat).size ≤ 16:=by rw [ByteArray.size_extract];omega
          have h:=NS msg i size s0 s1 s2 (msg.extract i.toNat (i + s0).toNat) hm ⟨t0,t1,t2⟩ ⟨a5,by omega⟩ (by omega) s1.toNat k (i + s0) 0 [] (by omega) (by omega) (Int.le_refl _) (by omega) (by omega) (by simp only [strings_Join.cat,append_empty];omega)
          simp only [strings_Join.cat,append_empty] at h
          rw [e,h]
      have hne:¬ ((s0 == 0 && (s1 == 0 && (s2 == 0))) = true):=by
        intro h
        simp only [Bool.and_eq_true,beq_iff_eq] at h
        exact a8 h.1 h.2.1
      rw [if_neg hne]
      exact main
  · rw [if_neg ht,if_neg ht];rfl
end Go.Proofs.Ytdkkgecdhapfhaa.ZQ
namespace Go.Proofs.Ytdkkgecdhapfhaa.ZQ
open Go.RowKit Go.Proofs.YtdkkgecdhapfhaaW.bD Go.Proofs.YtdkkgecdhapfhaaW.dL Go.Proofs.YtdkkgecdhapfhaaW.eP Go.Proofs.Ytdkkgecdhapfhaa.B
def wW (kind:Int) (d:ByteArray):Bool:=decide (d.size ≤ 65535) && (decide ((zZ d 0 d.size kind).2 = 0) && decide ((zZ d 0 d.size kind).1 = d))
theorem uP {kind:Int} {d:ByteArray}:wW kind d = true ↔ d.size ≤ 65535 ∧ zZ d 0 d.size kind = (d,0):=by
  unfold wW
  simp only [Bool.and_eq_true,decide_eq_true_eq]
  constructor
  · rintro ⟨h1,h2,h3⟩;exact ⟨h1,Prod.ext h3 h2⟩
  · rintro ⟨h1,h2⟩;rw [h2];exact ⟨h1,rfl,rfl⟩
theorem Bj (k:Nat) (hk:K0 + 10 ≤ k) (kind:Int) (d:ByteArray):iU.f k kind d = some (wW kind d):=by
  unfold iU.f wW
  by_cases h:(d.size:Int) > 65535
  · rw [if_pos h,decide_eq_false (by omega)];rfl
  · rw [if_neg h,Wh k hk d 0 _ kind (by omega),decide_eq_true (by omega),Bool.true_and]
    simp only [Option.bind_some]
    by_cases h0:(zZ d 0 d.size kind).2 = 0
    · rw [if_pos h0,decide_eq_true h0,zf,Bool.true_and]
    · rw [if_neg h0,decide_eq_false h0,Bool.false_and]
theorem nC (k:Nat) (hk:K0 + 10 ≤ k) (kind:Int) (d:ByteArray):bR.f k kind d = some (wW kind d):=by
  unfold bR.f wW
  by_cases h:(d.size:Int) > 65535
  · rw [if_pos h,decide_eq_false (by omega)];rfl
  · rw [if_neg h,GK k hk d 0 _ kind (by omega),decide_eq_true (by omega),Bool.true_and]
    simp only [Option.bind_some]
    by_cases h0:(zZ d 0 d.size kind).2 = 0
    · rw [if_pos h0,decide_eq_true h0,zf,Bool.true_and]
    · rw [if_neg h0,decide_eq_false h0,Bool.false_and]
theorem GL (d:ByteArray):gT d 0 d.size:=⟨Int.le_refl _,by omega,by omega⟩
theorem Ko {x d:ByteArray} (h:zu x = (d,0)):x = d ∧ x.size ≤ 65535:=by
  unfold zu at h
  split at h
  · have:=congrArg Prod.snd h;cases this
  · exact ⟨congrArg Prod.fst h,by omega⟩
theorem qd {kind:Int} {d:ByteArray} {s:Int × Int × Int} (h:wW kind d = true) (hs:aD.zn kind = some s) :
    ∃ R,s.1 ≤ (d.size:Int) ∧ Fg d d.size s.2.1.toNat s.1 [] = some R ∧ R.2 + s.2.2 = d.size ∧ d = d.extract 0 s.1.toNat ++ strings_Join.cat R.1 ++ d.extract R.2.toNat d.size ∧ s.1 ≤ R.2 ∧ R.2 ≤ (d.size:Int) ∧ R.1.length = s.2.1.toNat ∧ (∀ x ∈ R.1,jM x = true) ∧ R.2 = s.1 + (strings_Join.cat R.1).size:=by
  obtain ⟨h0,h1⟩:=uP.mp h
  unfold zZ Kl at h1
  rw [if_pos (GL d),hs] at h1
  simp only [Int.zero_add,Int.toNat_natCast] at h1
  obtain ⟨a1,a2,a3,a4,a5,a6,a7,a8⟩:=kY hs
  by_cases c:s.1 ≤ (d.size:Int)
  · rw [if_pos c] at h1
    cases hr:Fg d d.size s.2.1.toNat s.1 [] with
    | none=>rw [hr] at h1;have:=congrArg Prod.snd h1;cases this
    | some R =>
      rw [hr] at h1
      simp only at h1
      by_cases e:R.2 + s.2.2 = d.size
      · rw [if_pos e] at h1
        obtain ⟨h2,_⟩:=Ko h1
        obtain ⟨b1,b2,b3,l',b4,b5⟩:=qH d _ (by omega) _ _ _ R hr c
        rw [List.nil_append] at b4
        rw [← b4] at b5
        have hz:=congrArg ByteArray.size h2
        simp only [ByteArray.size_append,ByteArray.size_extract] at hz
        refine ⟨R,c,rfl,e,h2.symm,b1,b2,by rw [b3];simp,b5,?_⟩
        simp only [show (0:Int).toNat = 0 from rfl] at hz
        omega
      · rw [if_neg e] at h1;have:=congrArg Prod.snd h1;cases this
  · rw [if_neg c] at h1;have:=congrArg Prod.snd h1;cases this
def prt (kind:Int) (d:ByteArray):ByteArray × ByteArray × List ByteArray × Bool :=
  if wW kind d = true then (match aD.zn kind with
    | some s=>(match Fg d d.size s.2.1.toNat s.1 [] with
      | some R=>(d.extract 0 s.1.toNat,d.extract R.2.toNat d.size,R.1,true)
      | none=>(⟨#[]⟩,⟨#[]⟩,[],false))
    | none=>(d,⟨#[]⟩,[],true)) else (⟨#[]⟩,⟨#[]⟩,[],false)
theorem vP : (⟨#[]⟩:ByteArray).size = 0:=rfl
theorem wP (k:Nat) (hk:K0 + 20 ≤ k) (d:ByteArray) (hd:d.size ≤ 65535) (s0 s1 s2:Int) (a1:0 ≤ s0) (a3:0 ≤ s1) (a4:s1 ≤ 2) (a5:0 ≤ s2) (a6:s2 ≤ 20) (R:List ByteArray × Int) (c1:s0 ≤ (d.size:Int)) (c2:Fg d d.size s1.toNat s0 [] = some R) (c3:R.2 + s2 = d.size) :
    bV.f k d 0 (d.size:Int) s0 s1 s2 = some (d.extract 0 s0.toNat,d.extract R.2.toNat d.size,R.1,true):=by
  unfold bV.f
  have e2:wrap64 ((d.size:Int) - 0) = d.size:=by rw [dQ (by omega) (by omega)];omega
  have e3:wrap64 (0 + s0) = s0:=by rw [dQ (by omega) (by omega)];omega
  obtain ⟨b1,b2,_⟩:=qH d _ (by omega) _ _ _ R c2 c1
  have hz:((d.extract R.2.toNat d.size).size:Int) = s2:=by rw [ByteArray.size_extract];omega
  obtain ⟨k,rfl⟩:∃ j,k = j + 1:=⟨k - 1,by omega⟩
  have h:=Dk d d.size s0 s1 s2 (d.extract 0 s0.toNat) ⟨#[]⟩ (by omega) (Int.le_refl _) ⟨a5,by omega⟩ s1 (by omega) s1.toNat k s0 0 [] (by omega) (by omega) (Int.le_refl _) a1 c1 (by simp only [List.length_nil];omega)
  rw [c2] at h
  simp only [Int.toNat_natCast] at h
  rw [show (((d.extract R.2.toNat d.size).size:Int) == s2) = true from beq_iff_eq.mpr hz] at h
  rw [e2,if_pos c1,if_pos (Int.le_refl _),e3,if_pos a1,if_pos c1]
  exact h
theorem Kq (k:Nat) (hk:K0 + 20 ≤ k) (kind:Int) (d:ByteArray):dh.f k kind d = some (prt kind d):=by
  unfold dh.f prt
  rw [Bj k (by omega)]
  simp only [Option.bind_some]
  by_cases h:wW kind d = true
  · rw [if_pos h,if_pos h]
    cases hs:aD.zn kind with
    | none=>rfl
    | some s =>
      obtain ⟨R,c1,c2,c3,c4,c5,c6,c7,c8,c9⟩:=qd h hs
      obtain ⟨a1,a2,a3,a4,a5,a6,a7,a8⟩:=kY hs
      obtain ⟨h0,_⟩:=uP.mp h
      obtain ⟨s0,s1,s2⟩:=s
      simp only at a1 a2 a3 a4 a5 a6 c1 c2 c3 c5
      simp only [c2]
      exact wP k hk d h0 s0 s1 s2 a1 a3 a4 a5 a6 R c1 c2 c3
  · rw [if_neg h,if_neg h]
theorem Bl {kind:Int} {d:ByteArray}:(∀ x ∈ (prt kind d).2.2.1,jM x = true) ∧ (prt kind d).2.2.1.length ≤ 2:=by
  unfold prt
  by_cases h:wW kind d = true
  · rw [if_pos h]
    cases hs:aD.zn kind with
    | none=>exact ⟨by simp,by simp⟩
    | some s =>
      obtain ⟨R,c1,c2,c3,c4,c5,c6,c7,c8,c9⟩:=qd h hs
      obtain ⟨a1,a2,a3,a4,a5,a6,a7,a8⟩:=kY hs
      simp only [c2]
      exact ⟨c8,by omega⟩
  · rw [if_neg h];exact ⟨by simp,by simp⟩
theorem wC (k:Nat) (hk:600 ≤ k) (n:ByteArray) (hs:n.size ≤ 1000000000):mJ.f k n = some (if jM n = true then oK n else ⟨#[]⟩):=by
  unfold mJ.f
  rw [EU k hk n hs,VI n hs]
  simp only [Option.bind_some]
  split <;> rfl
theorem zw (k:Nat) (hk:600 ≤ k) (n:ByteArray) (hs:n.size ≤ 1000000000):fC.f k n = some (if jM n = true then oK n else ⟨#[]⟩):=by
  unfold fC.f
  rw [uH k hk n hs,Nk n hs]
  simp only [Option.bind_some]
  split <;> rfl
theorem all_eq (k:Nat) (hk:600 ≤ k):∀ l:List ByteArray,(∀ x ∈ l,jM x = true) → eO.all k l = some (l.map oK)
  | [],_=>rfl
  | x :: l,h=>by
    have hx:=h x (by simp)
    have hz:=qc hx
    rw [eO.all,wC k hk x (by omega),if_pos hx]
    simp only [Option.bind_some]
    rw [all_eq k hk l (fun y hy=>h y (by simp [hy]))]
    rfl
theorem uQ : ∀ l:List ByteArray,(strings_Join.cat (l.map oK)).size = (strings_Join.cat l).size
  | []=>rfl
  | x :: l=>by rw [List.map_cons,strings_Join.cat,strings_Join.cat,ByteArray.size_append,ByteArray.size_append,Bc,uQ l]
def lw (kind:Int) (d:ByteArray):ByteArray:=(prt kind d).1 ++ strings_Join.cat ((prt kind d).2.2.1.map oK) ++ (prt kind d).2.1
theorem Kr {kind:Int} {d:ByteArray}:(prt kind d).1.size ≤ 65535 ∧ (prt kind d).2.1.size ≤ 65535:=by
  unfold prt
  by_cases h:wW kind d = true
  · obtain ⟨h0,_⟩:=uP.mp h
    rw [if_pos h]
    cases hs:aD.zn kind with
    | none=>exact ⟨h0,by show (⟨#[]⟩:ByteArray).size ≤ 65535;decide⟩
    | some s =>
      obtain ⟨R,c1,c2,_⟩:=qd h hs
      simp only [c2]
      simp only [ByteArray.size_extract]
      omega
  · rw [if_neg h];exact ⟨by decide,by decide⟩
theorem Rt (k:Nat) (hk:K0 + 20 ≤ k) (kind:Int) (d:ByteArray):eO.f k kind d = some (lw kind d):=by
  obtain ⟨p1,p2⟩:=@Bl kind d
  obtain ⟨p3,p4⟩:=@Kr kind d
  have hcz:=uO p1
  unfold eO.f
  rw [Kq k hk]
  simp only [Option.bind_some]
  rw [all_eq k (by unfold K0 at hk;omega) _ p1]
  simp only [Option.bind_some]
  unfold eO.fin lw
  rw [if_pos (by rw [uQ];omega),if_pos (by rw [List.length_map];omega)]
theorem uR (d:ByteArray) (e s0 s1 s2:Int) (hm:d.size ≤ 100000) (he:e ≤ (d.size:Int)) (hs:s1 ≤ 100):∀ (n k:Nat) (l:List ByteArray) (i x:Int) (R:List ByteArray × Int),K0 + n ≤ k → x + n = s1 → 0 ≤ x → i ≤ e → l.length + n ≤ 1000 → Fg d e n i l = some R →
    bg.l0 (k + 1) d l i x s0 s1 s2 = some R.1
  | 0,k,l,i,x,R,hk,hx,hx0,hi,hl,h=>by
    cases h
    rw [bg.l0,if_neg (by omega)]
  | n + 1,k,l,i,x,R,hk,hx,hx0,hi,hl,h=>by
    obtain ⟨k,rfl⟩:∃ m,k = m + 1:=⟨k - 1,by omega⟩
    rw [Fg] at h
    rw [bg.l0,if_pos (by omega),vM (k + 1) d i hm (qI hm (by omega) (by omega))]
    simp only [Option.bind_some]
    by_cases h0:(wB d i).2.2 = 0
    · rw [if_pos h0] at h
      by_cases h1:(wB d i).2.1 > e
      · rw [if_pos h1] at h;cases h
      · rw [if_neg h1] at h
        rw [if_pos (by omega),dQ (by omega) (by omega)]
        exact uR d e s0 s1 s2 hm he hs n k _ _ _ R (by omega) (by omega) (by omega) (by omega) (by rw [List.length_append,List.length_singleton];omega) h
    · rw [if_neg h0] at h;cases h
theorem Dp (k:Nat) (hk:K0 + 20 ≤ k) (kind:Int) (d:ByteArray):bg.f k kind d = some (prt kind d).2.2.1:=by
  unfold bg.f prt
  rw [nC k (by omega),oC k (by omega)]
  simp only [Option.bind_some]
  obtain ⟨k,rfl⟩:∃ j,k = j + 1:=⟨k - 1,by omega⟩
  by_cases h:wW kind d = true
  · rw [if_pos h,if_pos h]
    obtain ⟨h0,_⟩:=uP.mp h
    cases hs:aD.zn kind with
    | none =>
      rw [Option.getD_none,bg.l0,if_neg (by decide)]
    | some s =>
      obtain ⟨R,c1,c2,c3,c4,c5,c6,c7,c8,c9⟩:=qd h hs
      obtain ⟨a1,a2,a3,a4,a5,a6,a7,a8⟩:=kY hs
      simp only [c2,Option.getD_some]
      exact uR d d.size _ _ _ (by omega) (Int.le_refl _) (by omega) s.2.1.toNat k [] s.1 0 R (by omega) (by omega) (Int.le_refl _) c1 (by simp only [List.length_nil];omega) c2
  · rw [if_neg h,if_neg h]
theorem Ru {α} (d:α) (p:List α) (x:α) (s:List α):pO d (p ++ x :: s) (p.length:Int) = x:=by
  unfold pO;simp
theorem sw (d:ByteArray) (hd:d.size ≤ 65535) (xs:List ByteArray) (hxs:xs.length ≤ 1000):∀ (suf pre:List ByteArray) (k:Nat) (out:ByteArray) (i:Int),xs = pre ++ suf → (∀ x ∈ suf,jM x = true) → 700 + suf.length ≤ k → 0 ≤ i → i + (strings_Join.cat suf).size ≤ d.size → out.size + (strings_Join.cat suf).size ≤ 1000000 →
    bI.l0 (k + 1) d xs out i (pre.length:Int) = some (out ++ strings_Join.cat (suf.map oK) ++ d.extract (i + (strings_Join.cat suf).size).toNat d.size)
  | [],pre,k,out,i,hx,hn,hk,hi,hs,ho=>by
    rw [List.append_nil] at hx
    subst hx
    have hz:(d.extract i.toNat d.size).size ≤ 65535:=by rw [ByteArray.size_extract];omega
    simp only [strings_Join.cat,List.map_nil,EI,append_empty] at hs ho ⊢
    rw [bI.l0,if_neg (by omega),if_pos hi,if_pos (by omega),if_pos (by omega)]
    congr 3
    omega
  | x :: suf,pre,k,out,i,hx,hn,hk,hi,hs,ho=>by
    obtain ⟨k,rfl⟩:∃ j,k = j + 1:=⟨k - 1,by simp only [List.length_cons] at hk;omega⟩
    have hxn:=hn x (by simp)
    have hz:=qc hxn
    have hrd:pO ByteArray.empty xs (pre.length:Int) = x:=by rw [hx];exact Ru _ _ _ _
    have hl:(xs.length:Int) = pre.length + suf.length + 1:=by rw [hx];simp;omega
    simp only [List.length_cons,strings_Join.cat,ByteArray.size_append] at hk hs ho
    have hlz:=Bc x
    rw [bI.l0,if_pos (by omega),if_pos (by omega),hrd,zw (k + 1) (by omega) x (by omega),if_pos hxn]
    simp only [Option.bind_some]
    rw [if_pos (by omega),dQ (n:=i + (x.size:Int)) (by omega) (by omega),dQ (by omega) (by omega),show ((pre.length:Int) + 1) = ((pre ++ [x]).length:Int) from by simp]
    have:=sw d hd xs hxs suf (pre ++ [x]) k (out ++ oK x) (i + x.size) (by rw [hx];simp) (fun y hy=>hn y (by simp [hy])) (by omega) (by omega) (by omega) (by rw [ByteArray.size_append];omega)
    rw [this]
    have e:i + (x.size:Int) + ((strings_Join.cat suf).size:Int) = i + ((x.size + (strings_Join.cat suf).size:Nat):Int):=by omega
    rw [e]
    simp only [List.map_cons,strings_Join.cat,ByteArray.size_append,ByteArray.append_assoc]
theorem GN (k:Nat) (hk:K0 + 20 ≤ k) (kind:Int) (d:ByteArray):bI.f k kind d = some (lw kind d):=by
  obtain ⟨p1,p2⟩:=@Bl kind d
  unfold bI.f
  rw [nC k (by omega),Dp k hk,oC k (by omega)]
  simp only [Option.bind_some]
  unfold lw prt
  unfold prt at p1 p2
  unfold K0 at hk
  obtain ⟨k,rfl⟩:∃ j,k = j + 1:=⟨k - 1,by omega⟩
  by_cases h:wW kind d = true
  · simp only [if_pos h] at p1 p2 ⊢
    obtain ⟨h0,_⟩:=uP.mp h
    cases hs:aD.zn kind with
    | none =>
      simp only [Option.getD_none]
      rw [if_pos (Int.le_refl _),if_pos (by omega)]
      have:=sw d h0 [] (by simp) [] [] k (d.extract 0 0) 0 rfl (by simp) (by simp only [List.length_nil];omega) (Int.le_refl _) (by simp only [strings_Join.cat,vP];omega) (by simp only [strings_Join.cat,vP,ByteArray.size_extract];omega)
      simp only [List.length_nil] at this
      rw [show ((0:Int).toNat) = 0 from rfl,show ((0:Nat):Int) = 0 from rfl] at *
      rw [this]
      have e0:d.extract 0 0 = ⟨#[]⟩:=eq_empty (by rw [ByteArray.size_extract];omega)
      simp [strings_Join.cat,e0,empty_append,append_empty,vP,ByteArray.extract_zero_size]
    | some s =>
      obtain ⟨R,c1,c2,c3,c4,c5,c6,c7,c8,c9⟩:=qd h hs
      obtain ⟨a1,a2,a3,a4,a5,a6,a7,a8⟩:=kY hs
      simp only [hs,c2,Option.getD_some] at p1 p2 ⊢
      have hcz:=uO p1
      rw [if_pos a1,if_pos c1]
      have:=sw d h0 R.1 (by omega) R.1 [] k (d.extract 0 s.1.toNat) s.1 rfl p1 (by omega) a1 (by omega) (by rw [ByteArray.size_extract];omega)
      rw [show ((([]:List ByteArray).length:Nat):Int) = 0 from rfl] at this
      rw [this,c9]
  · simp only [if_neg h]
    rfl
end Go.Proofs.Ytdkkgecdhapfhaa.ZQ
set_option maxRecDepth 100000
namespace Go.Proofs.Ytdkkgecdhapfhaa.Kn
open Go Go.RowKit Ev
abbrev AG := List AV → Option (List AV × List AV)
def Wi (g:ByteArray → SV):AG:=fun fZ=>match fZ with
  | [.one (.f (.str q))]=>if q.size ≤ 1000000 then some (Ic [g q],Ic [.str q]) else none
  | _=>none
def Wj (g:Int → ByteArray → SV):AG:=fun fZ=>match fZ with
  | [.one (.f (.int .i64 k)),.one (.f (.str q))]=>if q.size ≤ 1000000 then some (Ic [g k q],Ic [.int .i64 k,.str q]) else none
  | _=>none
theorem xw {f:FuncId} {g:ByteArray → SV} (h:∀ q w,q.size ≤ 1000000 → Calls Try.prog f #[.string q] w fun e w'=>e = .returned (encS (g q)) ∧ Below w.heap.size w w'):Sat Try.prog f (Wi g):=by
  refine Sat.wE fun fZ r he=>?_
  unfold Wi at he
  split at he
  · split at he
    · cases he;rename_i q hq;exact ⟨[.str q],[g q],rfl,rfl,fun w=>h q w hq⟩
    · cases he
  · cases he
theorem xA {f:FuncId} {g:Int → ByteArray → SV} (h:∀ k q w,q.size ≤ 1000000 → Calls Try.prog f #[.int .i64 k,.string q] w fun e w'=>e = .returned (encS (g k q)) ∧ Below w.heap.size w w'):Sat Try.prog f (Wj g):=by
  refine Sat.wE fun fZ r he=>?_
  unfold Wj at he
  split at he
  · split at he
    · cases he;rename_i k q hq;exact ⟨[.int .i64 k,.str q],[g k q],rfl,rfl,fun w=>h k q w hq⟩
    · cases he
  · cases he
def XE (g:ByteArray → Int → Int → Int × Bool):AG:=fun fZ=>match fZ with
  | [.one (.f (.str q)),.one (.f (.int .i64 a)),.one (.f (.int .i64 z))]=>if q.size ≤ 1000000 then some (Ic [.int .i64 (g q a z).1,.bool (g q a z).2],Ic [.str q,.int .i64 a,.int .i64 z]) else none
  | _=>none
theorem Jc {f:FuncId} {g:ByteArray → Int → Int → Int × Bool} (h:∀ q a z w,q.size ≤ 1000000 → Calls Try.prog f #[.string q,.int .i64 a,.int .i64 z] w fun e w'=>e = .returned (.tuple #[.int .i64 (g q a z).1,.bool (g q a z).2]) ∧ Below w.heap.size w w'):Sat Try.prog f (XE g):=by
  refine Sat.wE fun fZ r he=>?_
  unfold XE at he
  split at he
  · split at he
    · cases he;rename_i q a z hq;exact ⟨[.str q,.int .i64 a,.int .i64 z],[.int .i64 (g q a z).1,.bool (g q a z).2],rfl,rfl,fun w=>h q a z w hq⟩
    · cases he
  · cases he
def Fj (s:ByteArray) (a z:Int):Int × Bool:=if ZQ.j3 s a z then (ZQ.gY z.toNat s a,true) else (0,false)
def Wm (q:ByteArray):ByteArray:=if B.jM q = true then B.oK q else ⟨#[]⟩
def NT : Th:=⟨B.jM,Wm,ZQ.wW,ZQ.lw⟩
def leafs : List (FuncId × AG):=[
  (91,Wi fun q=>.bool (B.jM q)),(92,Wi fun q=>.str (Wm q)),
  (100,Wi fun q=>.bool (B.jM q)),(101,Wi fun q=>.str (Wm q)),
  (94,Wj fun k q=>.bool (ZQ.wW k q)),(95,Wj fun k q=>.str (ZQ.lw k q)),
  (83,Wj fun k q=>.bool (ZQ.wW k q)),(84,Wj fun k q=>.str (ZQ.lw k q)),
  (88,PZ 1 false),(70,PZ 3 true),
  (74,XE Fj),(75,XE Fj),(82,gMC)]
theorem Fp : ∀ p ∈ leafs,Sat Try.prog p.1 p.2:=by
  have hk:∀ q:ByteArray,q.size ≤ 1000000 → q.size ≤ 1000000000:=fun q h=>by omega
  intro p hp
  simp only [leafs,List.mem_cons,List.not_mem_nil,or_false] at hp
  rcases hp with rfl | rfl | rfl | rfl | rfl | rfl | rfl | rfl | rfl | rfl | rfl | rfl | rfl
  · exact xw fun q w hq=>ZQ.iQ.calls 600 q _ w (ZQ.EU 600 (Nat.le_refl _) q (hk q hq))
  · exact xw fun q w hq=>ZQ.mJ.calls 600 q _ w (ZQ.wC 600 (Nat.le_refl _) q (hk q hq))
  · exact xw fun q w hq=>ZQ.dB.calls 600 q _ w (ZQ.uH 600 (Nat.le_refl _) q (hk q hq))
  · exact xw fun q w hq=>ZQ.fC.calls 600 q _ w (ZQ.zw 600 (Nat.le_refl _) q (hk q hq))
  · exact xA fun k q w hq=>ZQ.iU.calls _ k q _ w (ZQ.Bj (ZQ.K0 + 20) (by omega) k q)
  · exact xA fun k q w hq=>ZQ.eO.calls _ k q _ w (ZQ.Rt (ZQ.K0 + 20) (by omega) k q)
  · exact xA fun k q w hq=>ZQ.bR.calls _ k q _ w (ZQ.nC (ZQ.K0 + 20) (by omega) k q)
  · exact xA fun k q w hq=>ZQ.bI.calls _ k q _ w (ZQ.GN (ZQ.K0 + 20) (by omega) k q)
  · exact P5
  · exact P6
  · refine Jc fun q a z w hq=>?_
    have h:=ZQ.get_eq 9 (Nat.le_refl _) q a z (by omega)
    exact (ZQ.bn.calls 9 q a z _ _ w h).mono fun e w' hh=>⟨hh.1,hh.2.below⟩
  · refine Jc fun q a z w hq=>?_
    have h:=ZQ.su 9 (Nat.le_refl _) q a z hq
    exact (ZQ.av.calls 9 q a z _ _ w h).mono fun e w' hh=>⟨hh.1,hh.2.below⟩
  · exact P7
theorem zx : ∀ p ∈ leafs,∃ fn,Try.prog.funcs[p.1]? = some fn ∧ (fn.name == "runtime.NumGoroutine") = false ∧ fn.body.isSome = true:=by
  intro p hp
  simp only [leafs,List.mem_cons,List.not_mem_nil,or_false] at hp
  rcases hp with rfl | rfl | rfl | rfl | rfl | rfl | rfl | rfl | rfl | rfl | rfl | rfl | rfl
  · exact ⟨Try.f91,by kernel_rfl,by kernel_rfl,by kernel_rfl⟩
  · exact ⟨Try.f92,by kernel_rfl,by kernel_rfl,by kernel_rfl⟩
  · exact ⟨Try.f100,by kernel_rfl,by kernel_rfl,by kernel_rfl⟩
  · exact ⟨Try.f101,by kernel_rfl,by kernel_rfl,by kernel_rfl⟩
  · exact ⟨Try.f94,by kernel_rfl,by kernel_rfl,by kernel_rfl⟩
  · exact ⟨Try.f95,by kernel_rfl,by kernel_rfl,by kernel_rfl⟩
  · exact ⟨Try.f83,by kernel_rfl,by kernel_rfl,by kernel_rfl⟩
  · exact ⟨Try.f84,by kernel_rfl,by kernel_rfl,by kernel_rfl⟩
  · exact ⟨Try.f88,by kernel_rfl,by kernel_rfl,by kernel_rfl⟩
  · exact ⟨Try.f70,by kernel_rfl,by kernel_rfl,by kernel_rfl⟩
  · exact ⟨Try.f74,by kernel_rfl,by kernel_rfl,by kernel_rfl⟩
  · exact ⟨Try.f75,by kernel_rfl,by kernel_rfl,by kernel_rfl⟩
  · exact ⟨Try.f82,by kernel_rfl,by kernel_rfl,by kernel_rfl⟩
def Kt : Env:=pI leafs
theorem Rv : iF Try.prog Kt:=yF Fp
theorem Ku : eB Try.prog Kt:=rV zx
noncomputable def ins : List (FuncId × AG):=(50,Vm Kt 200000000000001 (0 + 4)) :: leafs
theorem Wn : ∀ p ∈ ins,Sat Try.prog p.1 p.2:=by
  intro p hp
  rcases List.mem_cons.mp hp with rfl | hp
  · exact MI Rv Ku _ _
  · exact Fp p hp
theorem NU : ∀ p ∈ ins,∃ fn,Try.prog.funcs[p.1]? = some fn ∧ (fn.name == "runtime.NumGoroutine") = false ∧ fn.body.isSome = true:=by
  intro p hp
  rcases List.mem_cons.mp hp with rfl | hp
  · exact ⟨Try.f50,by kernel_rfl,by kernel_rfl,by kernel_rfl⟩
  · exact zx p hp
noncomputable def ext1 : Env:=pI ins
theorem Rw : iF Try.prog ext1:=yF Wn
theorem Kv : eB Try.prog ext1:=rV NU
theorem Wo : NT.Ok ext1:=by
  constructor <;> intros <;> simp_all [ext1,ins,leafs,pI,Wi,Wj,Ic,Xz,NT,vs,vb,vi]
theorem Jd {α:Type} (sz:Nat) (own:Bool) (l:List α) (f:α → List FV) (hf:∀ x,(f x).length = sz) (h:l.length ≤ 1000000):PZ sz own [vl (l.map f)] = some ([.one (if own then .own sz (l.map f) else .f (.sl (l.map f)))],[vl (l.map f)]):=by
  have h1:((l.map f).all fun r=>r.length == sz) = true:=by
    rw [List.all_eq_true];intro r hr;obtain ⟨x, -,rfl⟩:=List.mem_map.mp hr;exact beq_iff_eq.mpr (hf x)
  show (if (l.map f).length ≤ 1000000 ∧ _ then _ else _) = _
  rw [if_pos ⟨by rw [List.length_map];exact h,h1⟩]
theorem abf (l:List ByteArray) (h:l.length ≤ 1000000):PZ 1 false [vl (l.map iB)] = some ([vl (l.map iB)],[vl (l.map iB)]):=Jd 1 false l iB (fun _=>rfl) h
theorem abg (l:List Qn) (h:l.length ≤ 1000000):PZ 3 true [vl (l.map rQ)] = some ([.one (.own 3 (l.map rQ))],[vl (l.map rQ)]):=Jd 3 true l rQ (fun _=>rfl) h
theorem abh : qM Kt:=⟨fun l h=>abg l h,fun l h=>abf l h⟩
theorem Wp : qM ext1:=⟨fun l h=>abg l h,fun l h=>abf l h⟩
theorem Bo (fZ:List AV):ext1 50 fZ = Vm Kt 200000000000001 (0 + 4) fZ:=by
  unfold ext1 ins pI;rw [if_pos rfl]
theorem Wq : Vn Kt:=⟨fun m=>rfl⟩
theorem NV : Py ext1 where
  d0 q:=by rw [Bo];exact Mr q
  d1 s q h ho hm hc:=by rw [Bo];exact Ms abh Wq (Nat.le_refl _) s q h ho hm hc
theorem Ws : JC Fj ext1:=by
  refine ⟨fun s a z h=>?_,fun s a z h=>?_,fun s a z=>?_⟩
  · simp [ext1,ins,leafs,pI,XE,Ic,Xz,h,vs,vb,vi]
  · simp [ext1,ins,leafs,pI,XE,Ic,Xz,h,vs,vb,vi]
  · unfold Fj
    split
    · exact (ZQ.ou _ _ _).1
    · exact Int.le_refl _
theorem Rx : NT.pK Fj:=by constructor <;> decide +kernel
end Go.Proofs.Ytdkkgecdhapfhaa.Kn
namespace Go.Proofs.Ytdkkgecdhapfhaa.Ev
open Go Go.RowKit
structure Old (w w':World):Prop where
  os:w'.os = w.os
  output:w'.output = w.output
  size:w.heap.size ≤ w'.heap.size
  block:∀ k,k < w.heap.size → w'.heap[k]? = w.heap[k]?
theorem Old.frame {W w':World} (h:Old W w') (may:MemPlace → Prop):W.keptBut w' may:=by
  refine ⟨h.os,h.output,fun i hi=>?_⟩
  rw [h.block i hi]
  split <;> simp_all
theorem Old.same {W w':World} (h:Old W w') {p:MemPlace} (hp:p.block < W.heap.size):W.sameAt w' p:=by
  cases p with
  | cell b o=>exact World.cell?_of_block (w:=W) (h.block b hp)
  | map b=>exact h.block b hp
theorem Old.trod {H:Type} {enc:TypeId × Value → H} {P:Program} {t:TypeId} (hl:laidOutB P = true) (hr:P.readableRec t = true) (hrow:t < P.types.size) {W W':World} {v:Value} {d:DataW H} {ps:List MemPlace}
    (h:DataW.Trod enc P W 0 (fun _=>true) true t v d ps) (hb:Old W W') (hlt:∀ x ∈ ps,x.block < W.heap.size):DataW.Trod enc P W' 0 (fun b=>decide (b < W.heap.size)) true t v d ps :=
  WideElems.Trod_stays hl hr hrow h (fun x hx=>hb.same (hlt x hx)) (fun x hx=>by simpa using hlt x hx)
theorem Kw {P:Program} {Γ:Env} (kQ:iF P Γ) {f:FuncId} {fZ rU:List AV} {b:Bool} {vals:List Value} {W:World} (h:Γ f fZ = some ([.one (.f (.bool b))],rU)) (ha:fO (fun k=>k < W.heap.size) W fZ vals []) :
    Calls P f vals.toArray W fun e W'=>e = .returned (.bool b) ∧ Old W W':=by
  refine (kQ f fZ _ _ h (fun k=>k < W.heap.size) W vals [] ha List.nodup_nil (by simp) (fun _ h=>h)).mono fun e w' ⟨bK,vo,b1,b2,he,hp⟩=>?_
  refine ⟨?_,hp.kp.1,hp.kp.2,hp.big,fun k hk=>hp.ext k hk (by simp)⟩
  match vo,hp.rs with
  | [v],⟨c1,c2,h1,h2,h3⟩=>rw [he,show v = .bool b from h1.1];rfl
def GQ (P:Program) {α:Type} (T:TypeId) (f:α → List FV) (G:α → Prop):Prop :=
  ∀ {H:Type} (enc:TypeId × Value → H) (w:World) (spare:Nat → Bool) (held:Bool) (fuel:Nat) (cs:List Value) (x:DataW H × List MemPlace),
    DataW.trod enc P w 0 spare held fuel T cs = some x → (∀ n ∈ x.1.weights P T,n ≤ reachBytes) → ∃ a:α,cK (fun k=>k < w.heap.size) w (f a) cs ∧ G a
section
variable {P : Program}
theorem uS {k:IntKind} {T:TypeId} (h:P.underlying T = some (.int k)):GQ P T (fun n=>[FV.int k n]) (fun n=>(Lit.int k n).wf = true):=by
  intro H enc w spare held fuel cs x hx _
  obtain ⟨n,rfl,rfl,hw⟩:=DataW.trod_int h hx
  exact ⟨n,⟨by simp only [eX],trivial⟩,hw⟩
theorem NW {T:TypeId} (h:P.underlying T = some .bool):GQ P T (fun b=>[FV.bool b]) (fun _=>True):=by
  intro H enc w spare held fuel cs x hx _
  obtain ⟨b,rfl,rfl⟩:=DataW.trod_bool h hx
  exact ⟨b,⟨by simp only [eX],trivial⟩,trivial⟩
theorem Je {T:TypeId} (h:P.underlying T = some .string):GQ P T (fun s=>[FV.str s]) (fun s=>s.size ≤ 140737488351232):=by
  intro H enc w spare held fuel cs x hx hz
  obtain ⟨s,rfl,rfl,hw⟩:=DataW.trod_string h hx
  refine ⟨s,⟨by simp only [eX],trivial⟩,?_⟩
  have:=hz s.data.toList.length (by simp [DataW.weights])
  rw [Array.length_toList] at this
  exact this
theorem nQ {H:Type} {e:TypeId}:∀ {ds:List (DataW H)} {i:Nat} {d:DataW H},ds[i]? = some d → ∀ n ∈ d.weights P e,n ∈ DataW.weightsAll P e ds
  | [],i,d,h,_,_=>by simp at h
  | d0 :: ds,0,d,h,n,hn=>by
    simp at h;subst h
    exact List.mem_append.mpr (.inl hn)
  | d0 :: ds,i + 1,d,h,n,hn=>by
    simp at h
    exact List.mem_append.mpr (.inr (nQ h n hn))
theorem Fq {H:Type} {ts:List TypeId} {ds:List (DataW H)} (h:(DataW.weightsEach P ts ds).all (· ≤ reachBytes) = true) {j:Nat} {t:TypeId} {d:DataW H} (ht:ts[j]? = some t) (hd:ds[j]? = some d) :
    ∀ n ∈ d.weights P t,n ≤ reachBytes:=fun n hn=>by
  have:=List.all_eq_true.1 h n (DataW.weights_mem_each ht hd n hn)
  simpa using this
theorem uT {α:Type} {Q:Nat → α → Prop}:∀ n,(∀ i,i < n → ∃ y,Q i y) → ∃ ys:List α,ys.length = n ∧ ∀ i y,ys[i]? = some y → Q i y
  | 0,_=>⟨[],rfl,by simp⟩
  | n + 1,h=>by
    obtain ⟨ys,hl,hq⟩:=uT n (fun i hi=>h i (by omega))
    obtain ⟨y,hy⟩:=h n (by omega)
    refine ⟨ys ++ [y],by simp [hl],fun i z hz=>?_⟩
    by_cases hi:i < n
    · rw [List.getElem?_append_left (by omega)] at hz
      exact hq i z hz
    · have hlt:=(List.getElem?_eq_some_iff.1 hz).1
      simp only [List.length_append,List.length_singleton] at hlt
      obtain rfl:i = n:=by omega
      rw [List.getElem?_append_right (by omega),hl,Nat.sub_self] at hz
      simp at hz
      subst hz
      exact hy
theorem Bp {Fz:Nat → Prop} {w:World} {b:Nat}:∀ (xs:List FV) (cs:List Value) (o:Nat),cK Fz w xs cs → (∀ i u,cs[i]? = some u → w.cell? ⟨b,o + i,none⟩ = some u) → dZ Fz w b o xs
  | [],_,_,_,_=>by simp only [dZ]
  | x :: xs,[],_,h,_=>h.elim
  | x :: xs,c :: cs,o,h,hc=>by
    simp only [dZ]
    exact ⟨⟨c,hc 0 c rfl,h.1⟩,Bp xs cs (o + 1) h.2 fun i u hi=>by rw [show o + 1 + i = o + (i + 1) from by omega];exact hc (i + 1) u hi⟩
theorem zy {Fz:Nat → Prop} {w:World} {sz b:Nat} {α:Type} {f:α → List FV} (hf:∀ a,(f a).length = sz):∀ (l:List α) (o:Nat),(∀ i y,l[i]? = some y → dZ Fz w b (o + i * sz) (f y)) → cZ Fz w sz b o (l.map f)
  | [],_,_=>by simp only [List.map_nil,cZ]
  | y :: l,o,h=>by
    simp only [List.map_cons,cZ]
    refine ⟨hf y,by simpa using h 0 y rfl,zy hf l (o + sz) fun i z hz=>?_⟩
    rw [show o + sz + i * sz = o + (i + 1) * sz from by rw [Nat.add_mul];omega]
    exact h (i + 1) z hz
theorem Ky (a:Addr) (x y:Nat):(a.add x).add y = a.add (x + y):=by
  unfold Addr.add
  by_cases hx:x = 0
  · subst hx;simp
  · by_cases hy:y = 0
    · subst hy;simp [hx]
    · simp [hx,hy,Nat.add_assoc]
theorem zA {w:World} {a:Addr} {u:Value} (h:w.cell? a = some u):a = ⟨a.block,a.off,none⟩ ∧ a.block < w.heap.size:=by
  unfold World.cell? at h
  split at h
  · rename_i c _ _ hb
    split at h
    · cases h
    · rename_i hs
      obtain ⟨b,o,s⟩:=a
      cases s with
      | none=>exact ⟨rfl,by have:=(Array.getElem?_eq_some_iff.mp hb).1;exact this⟩
      | some s=>simp at hs
  · cases h
theorem Bq {α:Type} {f:α → List FV} {T e:TypeId} {G:α → Prop} (sz:Nat) (h:P.underlying T = some (.slice e)) (hc:P.cellsOf e = sz) (h0:0 < sz) (hf:∀ a,(f a).length = sz) (hby:decide (1 ≤ P.bytesOf e) = true) (hd:GQ P e f G) :
    GQ P T (fun l:List α=>[FV.sl (l.map f)]) (fun l=>l.length ≤ 140737488351232 ∧ ∀ x ∈ l,G x):=by
  intro H enc w spare held fuel cs x hx hz
  rcases DataW.trod_slice h hx with ⟨rfl,rfl⟩ | ⟨a,len,cap,elems,rest,n,_,rfl,rfl,hb,hl,hm,hlen,hel,_,_⟩
  · refine ⟨[],⟨?_,trivial⟩,by simp⟩
    simp only [eX]
    exact ⟨none,0,rfl,Nat.le_refl _,by simp,.inl rfl⟩
  · have hw:∀ m ∈ (elems.length + rest.length) * P.bytesOf e :: (DataW.weightsAll P e (elems.map (·.1)) ++ DataW.weightsAll P e (rest.map (·.1))),m ≤ reachBytes:=by
      intro m hm'
      refine hz m ?_
      simp only [DataW.weights,h,List.length_map]
      exact hm'
    obtain ⟨ys,hyl,hys⟩:=uT (α:=α) (Q:=fun i y=>∃ c,w.cells? 0 (a.add (i * P.cellsOf e)) (P.cellsOf e) = some c ∧ cK (fun k=>k < w.heap.size) w (f y) c ∧ G y) len (fun i hi=>by
      have h1:=hel i hi
      rw [List.getElem?_eq_getElem (by omega),Option.bind_eq_some_iff] at h1
      obtain ⟨c,hc1,hc2⟩:=h1
      obtain ⟨y,hy,hg⟩:=hd enc w spare held n c _ hc2 (fun m hm'=>by
        refine hw m (List.mem_cons_of_mem _ (List.mem_append.mpr (.inl ?_)))
        exact nQ (i:=i) (d:=(elems[i]'(by omega)).1) (by rw [List.getElem?_map,List.getElem?_eq_getElem (by omega)];rfl) m hm')
      exact ⟨y,c,hc1,hy,hg⟩)
    have hlen1:(elems.length + rest.length) * P.bytesOf e ≤ reachBytes:=hw _ (by simp)
    have hlm:cap ≤ 9223372036854775807:=by unfold maxLen at hm;omega
    refine ⟨ys,⟨?_,trivial⟩,?_,?_⟩
    · simp only [eX,List.length_map]
      refine ⟨some a,cap,by rw [hyl],by omega,by omega,?_⟩
      cases hy0:ys with
      | nil=>exact .inl rfl
      | cons y0 ys0 =>
        right
        obtain ⟨c0,k0,_,_⟩:=hys 0 y0 (by rw [hy0];rfl)
        rw [hc] at k0
        obtain ⟨_,kl,kc⟩:=World.cells?_some k0
        have k1:=kc 0 h0
        rw [List.getElem?_eq_getElem (by omega)] at k1
        obtain ⟨ea,eb⟩:=zA k1
        have ea0:(a.add (0 * sz)).add 0 = a:=by simp [Addr.add]
        rw [ea0] at ea eb
        refine ⟨a.block,a.off,sz,congrArg some ea,eb,?_⟩
        rw [← hy0]
        refine zy hf ys a.off fun i y hi=>?_
        obtain ⟨c,hc1,hk,_⟩:=hys i y hi
        rw [hc] at hc1
        obtain ⟨_,hcl,hcc⟩:=World.cells?_some hc1
        refine Bp _ c _ hk fun j u hj=>?_
        have hj':j < sz:=by have:=(List.getElem?_eq_some_iff.1 hj).1;omega
        have:=hcc j hj'
        rw [Ky,hj] at this
        obtain ⟨e1,_⟩:=zA this
        rw [e1] at this
        have e2:a.add (i * sz + j) = ⟨a.block,a.off + i * sz + j,none⟩:=by
          rw [ea];unfold Addr.add;split
          · rename_i hz;congr 1;simp only;omega
          · congr 1;simp only;omega
        rw [e2] at this
        exact this
    · rw [hyl,← hlen]
      have h1:elems.length * P.bytesOf e ≤ (elems.length + rest.length) * P.bytesOf e:=Nat.mul_le_mul_right _ (by omega)
      have h2:reachBytes = 140737488351232:=rfl
      have h3:elems.length * 1 ≤ elems.length * P.bytesOf e:=Nat.mul_le_mul_left _ (of_decide_eq_true hby)
      omega
    · intro y hy
      obtain ⟨i,hi,rfl⟩:=List.mem_iff_getElem.1 hy
      obtain ⟨_,_,_,hg⟩:=hys i _ (List.getElem?_eq_getElem hi)
      exact hg
def Ry (P:Program) {α:Type} (sz:Nat) (f:α → List FV) (fs:List (TypeId × Nat)) (off:Nat) (G:α → Prop):Prop :=
  ∀ {H:Type} (enc:TypeId × Value → H) (w:World) (spare:Nat → Bool) (held:Bool) (n:Nat) (cs:List Value) (xs:List (DataW H × List MemPlace)),
    (∀ (i:Nat) (f:TypeId × Nat),fs[i]? = some f → DataW.trod enc P w 0 spare held n f.1 ((cs.drop f.2).take (P.cellsOf f.1)) = xs[i]?) → xs.length = fs.length →
    (∀ (i:Nat) (x:DataW H × List MemPlace) (f:TypeId × Nat),xs[i]? = some x → fs[i]? = some f → ∀ m ∈ x.1.weights P f.1,m ≤ reachBytes) → cs.length = off + sz → ∃ a,cK (fun k=>k < w.heap.size) w (f a) (cs.drop off) ∧ G a
theorem vQ {α:Type} {sz:Nat} {f:α → List FV} {t:TypeId} {off:Nat} {G:α → Prop} (hd:GQ P t f G) (hc:P.cellsOf t = sz):Ry P sz f [(t,off)] off G:=by
  intro H enc w spare held n cs xs hf hl hw hn
  match xs,hl with
  | [y],_ =>
    have h1:=hf 0 _ rfl
    have h2:(cs.drop off).take (P.cellsOf t) = cs.drop off:=List.take_of_length_le (by rw [List.length_drop];omega)
    rw [h2] at h1
    exact hd enc w spare held n _ y h1 (hw 0 y _ rfl rfl)
theorem Bt {Fz:Nat → Prop} {w:World}:∀ {xs ys:List FV} {cs ds:List Value},cK Fz w xs cs → cK Fz w ys ds → cK Fz w (xs ++ ys) (cs ++ ds)
  | [],_,[],_,_,h=>h
  | [],_,_ :: _,_,h,_=>h.elim
  | _ :: _,_,[],_,h,_=>h.elim
  | x :: xs,ys,c :: cs,ds,h,k=>⟨h.1,Bt h.2 k⟩
theorem kg {α β:Type} {sz sz':Nat} {f:α → List FV} {g:β → List FV} {t:TypeId} {fs:List (TypeId × Nat)} {off:Nat} {G:α → Prop} {G':β → Prop} (hd:GQ P t f G) (hc:P.cellsOf t = sz)
    (hr:Ry P sz' g fs (off + sz) G'):Ry P (sz + sz') (fun p:α × β=>f p.1 ++ g p.2) ((t,off) :: fs) off (fun p=>G p.1 ∧ G' p.2):=by
  intro H enc w spare held n cs xs hf hl hw hn
  match xs,hl with
  | y :: ys,hl =>
    have h1:=hf 0 _ rfl
    obtain ⟨a,ha,ga⟩:=hd enc w spare held n _ y h1 (hw 0 y _ rfl rfl)
    obtain ⟨b,hb,gb⟩:=hr enc w spare held n cs ys (fun i f hi=>hf (i + 1) f hi) (by simpa using hl) (fun i x f hx hfi=>hw (i + 1) x f hx hfi) (by omega)
    refine ⟨(a,b),?_,ga,gb⟩
    have e:cs.drop off = (cs.drop off).take (P.cellsOf t) ++ cs.drop (off + sz):=by rw [← List.drop_drop,hc,List.take_append_drop]
    rw [e]
    exact Bt ha hb
theorem sD {α:Type} {sz:Nat} {f:α → List FV} {T:TypeId} {fs:Array Field} {G:α → Prop} (h:P.underlying T = some (.struct fs)) (hc:P.cellsOf T = sz)
    (hd:Ry P sz f (fs.toList.map fun f=>(f.type,f.offset)) 0 G):GQ P T f G:=by
  intro H enc w spare held fuel cs x hx hz
  obtain ⟨xs,n,_,rfl,hl,hlen,hf⟩:=DataW.trod_struct h hx
  have hd':=hd enc w spare held n cs xs ?_ (by rw [List.length_map,Array.length_toList];exact hlen) ?_ (by rw [Nat.zero_add,← hc];exact hl)
  · obtain ⟨a,ha,ga⟩:=hd'
    exact ⟨a,by simpa using ha,ga⟩
  · intro i f hi
    rw [List.getElem?_map,Option.map_eq_some_iff] at hi
    obtain ⟨f',hf',rfl⟩:=hi
    exact hf i f' (by rw [← Array.getElem?_toList];exact hf')
  · intro i x f hxi hfi m hm
    refine hz m ?_
    simp only [DataW.weights,h]
    refine DataW.weights_mem_each (j:=i) (t:=f.1) (d:=x.1) ?_ ?_ m hm
    · rw [List.getElem?_map] at hfi ⊢
      rw [Option.map_eq_some_iff] at hfi ⊢
      obtain ⟨f',hf',rfl⟩:=hfi
      exact ⟨f',hf',rfl⟩
    · rw [List.getElem?_map,hxi];rfl
theorem xB {α β:Type} {T:TypeId} {f:α → List FV} {f':β → List FV} {G:α → Prop} {G':β → Prop} (g:α → β) (hg:∀ a,f' (g a) = f a) (hG:∀ a,G a → G' (g a)) (hd:GQ P T f G):GQ P T f' G':=by
  intro H enc w spare held fuel cs x hx hz
  obtain ⟨a,ha,ga⟩:=hd enc w spare held fuel cs x hx hz
  exact ⟨g a,by rw [hg];exact ha,hG a ga⟩
theorem zB {Fz:Nat → Prop} {w:World} {x:FV} {v:Value} (h:eX Fz w x v):qK Fz w (.one (.f x)) v []:=⟨h,rfl⟩
theorem sF {Fz:Nat → Prop} {w:World} {x:AV} {v:Value} {xs:List AV} {vs:List Value} (h:qK Fz w x v []) (k:fO Fz w xs vs []):fO Fz w (x :: xs) (v :: vs) []:=⟨[],[],h,k,rfl⟩
theorem Kz {Fz:Nat → Prop} {w:World}:fO Fz w [] [] []:=rfl
end
end Go.Proofs.Ytdkkgecdhapfhaa.Ev
set_option maxRecDepth 100000
namespace Go.Proofs.Ytdkkgecdhapfhaa.Kn
open Go Ev
theorem opQ : GQ Try.prog 32 rQ (fun _=>True) :=
  xB (fun p:ByteArray × Int × Int=>⟨p.1,p.2.1,p.2.2⟩) (by exact fun _=>rfl) (by exact fun _ _=>trivial) (sD Try.underlying32 (by kernel_rfl) (kg (sz:=1) (sz':=2) (Je Try.underlying9) (by kernel_rfl) (kg (sz:=1) (sz':=1) (uS Try.underlying3) (by kernel_rfl) (vQ (uS Try.underlying3) (by kernel_rfl)))))
theorem opD : GQ Try.prog 33 (fun d:List ByteArray=>[.sl (d.map iB)]) (fun d=>d.length ≤ 140737488351232) :=
  xB (fun d:List ByteArray=>d) (by exact fun _=>rfl) (by exact fun _ h=>h.1) (Bq 1 Try.underlying33 (by kernel_rfl) (by decide) (fun _=>rfl) (by kernel_rfl) (Je Try.underlying9))
theorem opS : GQ Try.prog 35 rS (fun x=>x.d.length ≤ 140737488351232) :=
  xB (fun p:Qn × List ByteArray × Int=>⟨p.1.q,p.1.t,p.1.c,p.2.1,p.2.2⟩) (by exact fun _=>rfl) (by exact fun _ h=>h.2.1) (sD Try.underlying35 (by kernel_rfl) (kg (sz:=3) (sz':=2) opQ (by kernel_rfl) (kg (sz:=1) (sz':=1) opD (by kernel_rfl) (vQ (uS Try.underlying3) (by kernel_rfl)))))
theorem opO : GQ Try.prog 80 Fy (fun x=>x.s.d.length ≤ 140737488351232) :=
  xB (fun p:Int × Int × Qn × Bool × Se=>⟨p.1,p.2.1,p.2.2.1,p.2.2.2.1,p.2.2.2.2⟩) (by exact fun _=>rfl) (by exact fun _ h=>h.2.2.2.2) (sD Try.underlying80 (by kernel_rfl) (kg (sz:=1) (sz':=10) (uS Try.underlying3) (by kernel_rfl) (kg (sz:=1) (sz':=9) (uS Try.underlying3) (by kernel_rfl) (kg (sz:=3) (sz':=6) opQ (by kernel_rfl) (kg (sz:=1) (sz':=5) (NW Try.underlying4) (by kernel_rfl) (vQ opS (by kernel_rfl)))))))
theorem opL : GQ Try.prog 71 (fun l:List On=>[.sl (l.map Fy)]) (fun l=>l.length ≤ 140737488351232 ∧ ∀ x ∈ l,x.s.d.length ≤ 140737488351232) :=
  Bq 11 Try.underlying71 (by kernel_rfl) (by decide) (fun _=>rfl) (by kernel_rfl) opO
end Go.Proofs.Ytdkkgecdhapfhaa.Kn

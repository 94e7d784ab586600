/- A part of the proof of NegDrops: cut, joined and given short names by a program of this session (wip/tools/pack.py); Lean checks it. No condition. -/
import Derived.Test.YtdkkgecdhapfhaaPNDpsi
import Derived.Test.YtdkkgecdhapfhaaPNDpsk
import Derived.Test.YtdkkgecdhapfhaaPNDpsj
import Derived.Test.YtdkkgecdhapfhaaPNDpsh
import Derived.Test.YtdkkgecdhapfhaaPNDpse
import Derived.ProofKit
import Derived.OpenShut
import Derived.SizedLaws
import Derived.ChangeArms
import Derived.ChangeSlices
import Derived.Carry
import Derived.KernelRfl
import Derived.Test.YtdkkgecdhapfhaaPNDpsd
set_option linter.unusedSectionVars false
set_option linter.unusedSimpArgs false
set_option linter.unusedVariables false
namespace Go.Proofs.Ytdkkgecdhapfhaa.ZQ
open Go.RowKit Go.Proofs.YtdkkgecdhapfhaaW.bD Go.Proofs.YtdkkgecdhapfhaaW.dL Go.Proofs.YtdkkgecdhapfhaaW.eO
attribute [local go_sem] jv jw kE kF iH iI jy jA
attribute [local go_sem high] Wp
def aH.j0 : Nat → Int → Bool → Option (Int × Int × Int)
  | 0,_,_=>none
  | k + 1,x3,x4=>if x4 = true then (some (0,1,0)) else (if x3 = 6 then (some (0,2,20)) else (if x3 = 15 then (some (2,1,0)) else (if x3 = 33 then (some (6,1,0)) else (if x3 = 1 then (some (4,0,0)) else (if x3 = 28 then (some (16,0,0)) else (some (0,0,0)))))))
def aH.f (k:Nat) (a0:Int):Option (Int × Int × Int):=if a0 = 2 then (aH.j0 k a0 (a0 == 2)) else (if a0 = 5 then (aH.j0 k a0 (a0 == 5)) else (aH.j0 k a0 (a0 == 12)))
set_option maxHeartbeats 8000000 in
set_option maxRecDepth 100000 in
theorem aH.calls (k:Nat) (a0:Int) (r1:Int) (r2:Int) (r3:Int) (w:World) (h:aH.f k a0 = some (r1,r2,r3)) :
    Calls Try.prog 106 #[.int .i64 a0] w fun e w'=>e = .returned (.agg #[.int .i64 r1,.int .i64 r2,.int .i64 r3]) ∧ Below w.heap.size w w':=by
  have NP:=Try.underlying142
  have HB:=aj.mk (Below.refl w.heap.size w)
  have H:(if a0 = 2 then (aH.j0 k a0 (a0 == 2)) else (if a0 = 5 then (aH.j0 k a0 (a0 == 5)) else (aH.j0 k a0 (a0 == 12)))) = some (r1,r2,r3):=h
  clear h
  have VZ:=aj.mk H
  clear H
  go_enter Try.func106,Try.ntmps106
  go_upto_if 4 with (first | ((with_reducible refine gJ (N:=2) rfl ?_);refine fQ ?hg (N:=2) ?hd (cs:=#[.int .i64 0,.int .i64 0,.int .i64 0]) (t:=142) ?hr ?_;(case hd=>rfl);(case hg=>rfl);(case hr=>first | (go_simp;done) | (go_simp;rfl));intro gX hg w3 gW hb;have d9:=aj.mk (bE (by repeat (first | (with_reducible first | exact HB.out | apply ak | apply ah | apply au) | exact HB.out)) hb);have gZ:=aj.mk (gW);have jg:=aj.mk ((by rw [hg];exact (bL (by repeat (first | (with_reducible first | exact HB.out | apply ak | apply ah | apply au) | exact HB.out))):w.heap.size ≤ gX));have jN:=aj.mk ((by rw [hg];exact (bL (by repeat (first | (with_reducible first | exact HB.out | apply ak | apply ah | apply au) | exact HB.out))):w.heap.size ≤ gX));clear HB;have HB:=d9;have dW:=gZ;have ahv:=jg;have rD:=jN;clear d9 gZ jg jN;clear hb gW hg))
  (try simp only [Act.put,List.setIfInBounds_toArray,List.set_cons_zero,List.set_cons_succ])
  go_cut [4] (fun v4 wc=>∃ (kq:Nat) (qM:Bool),v4 = .bool qM ∧ aj (aH.j0 kq a0 qM = some (r1,r2,r3)) ∧ aj (kq ≤ k) ∧ aj (wc.heap[gX]? = some (.cells #[.int .i64 0,.int .i64 0,.int .i64 0] 142 (0,0))) ∧ aj (Below w.heap.size w wc))
  case first =>
    have H:=VZ.out
    clear VZ
    by_cases c4:a0 = 2
    · rw [if_pos c4] at H
      have qO:(a0 == 2) = true:=beq_iff_eq.mpr c4
      have J9:(a0 != 2) = false:=bne_eq_false_iff_eq.mpr c4
      clear c4
      (first | rw [qO] | rw [Nk] | (simp only [gQ,iC];rw [qO]) | skip)
      have H':=aj.mk H
      clear H
      go_wp2
      go_meet
      case rel=>exact ⟨_,((a0 == 2)),(by first | rfl | (simp;done) | (simp [*];done) | (simp [B.aV];done) | (simp [B.aW];done)),H',⟨by first | omega | exact Nat.le_refl _⟩,⟨by (with_reducible repeat (first | refine aG ?_ _ | refine aI ?_ | refine aA ?_ _));exact dW.out⟩,⟨by repeat (first | (with_reducible first | exact HB.out | apply ak | apply ah | apply au | refine aR ?_ rD.out) | exact HB.out)⟩⟩
    · rw [if_neg c4] at H
      have qO:(a0 == 2) = false:=beq_eq_false_iff_ne.mpr c4
      have J9:(a0 != 2) = true:=bne_iff_ne.mpr c4
      (first | rw [qO] | rw [Nk] | (simp only [gQ,iC];rw [qO]) | skip)
      by_cases c5:a0 = 5
      · rw [if_pos c5] at H
        have pV:(a0 == 5) = true:=beq_iff_eq.mpr c5
        have vM:(a0 != 5) = false:=bne_eq_false_iff_eq.mpr c5
        clear c5
        have H':=aj.mk H
        clear H
        go_wp2
        go_meet
        case rel=>exact ⟨_,((a0 == 5)),(by first | rfl | (simp;done) | (simp [*];done) | (simp [B.aV];done) | (simp [B.aW];done)),H',⟨by first | omega | exact Nat.le_refl _⟩,⟨by (with_reducible repeat (first | refine aG ?_ _ | refine aI ?_ | refine aA ?_ _));exact dW.out⟩,⟨by repeat (first | (with_reducible first | exact HB.out | apply ak | apply ah | apply au | refine aR ?_ rD.out) | exact HB.out)⟩⟩
      · rw [if_neg c5] at H
        have pV:(a0 == 5) = false:=beq_eq_false_iff_ne.mpr c5
        have vM:(a0 != 5) = true:=bne_iff_ne.mpr c5
        have H':=aj.mk H
        clear H
        go_wp2
        go_meet
        case rel=>exact ⟨_,((a0 == 12)),(by first | rfl | (simp;done) | (simp [*];done) | (simp [B.aV];done) | (simp [B.aW];done)),H',⟨by first | omega | exact Nat.le_refl _⟩,⟨by (with_reducible repeat (first | refine aG ?_ _ | refine aI ?_ | refine aA ?_ _));exact dW.out⟩,⟨by repeat (first | (with_reducible first | exact HB.out | apply ak | apply ah | apply au | refine aR ?_ rD.out) | exact HB.out)⟩⟩
  case rest =>
    clear VZ
    try clear c1
    try clear p2
    try clear c4
    try clear qO
    try clear J9
    try clear Nk
    try clear c5
    try clear pV
    try clear vM
    obtain ⟨kq,qM,rfl,HA,HJ1,dW,HB⟩:=hcut
    cases kq with
    | zero=>exact absurd HA.out (by simp [aH.j0])
    | succ kj1 =>
      have H:=HA.out
      clear HA
      simp only [aH.j0] at H
      by_cases c6:qM = true
      · subst c6
        have H1:(some (0,1,0)) = some (r1,r2,r3):=by rw [if_pos rfl] at H;exact H
        clear H
        have H:=H1
        clear H1
        simp only [Option.some.injEq,Prod.mk.injEq] at H
        obtain ⟨rfl,rfl,rfl⟩:=H
        have afB:wc.cell? ⟨gX,0,none⟩ = some (.int .i64 0):=(aM dW.out 0).trans rfl
        have afC:wc.cell? ⟨gX,1,none⟩ = some (.int .i64 0):=(aM dW.out 1).trans rfl
        have afD:wc.cell? ⟨gX,2,none⟩ = some (.int .i64 0):=(aM dW.out 2).trans rfl
        have afE:=ay dW.out 0
        have afF:=ay dW.out 1
        have afG:=ay dW.out 2
        go_wp2
        refine bodyPost_ret (results_cell_row rfl _ _ gX 142 #[.int .i64 0,.int .i64 1,.int .i64 0] (0,0) _ rfl (by (with_reducible repeat (first | refine aG ?_ _ | refine aI ?_ | refine aA ?_ _));refine bU (cs:=#[.int .i64 0,.int .i64 1,.int .i64 0]) ?_ 2 _ rfl;(with_reducible repeat (first | refine aG ?_ _ | refine aI ?_ | refine aA ?_ _));refine bU (cs:=#[.int .i64 0,.int .i64 0,.int .i64 0]) ?_ 1 _ rfl;(with_reducible repeat (first | refine aG ?_ _ | refine aI ?_ | refine aA ?_ _));refine bU (cs:=#[.int .i64 0,.int .i64 0,.int .i64 0]) ?_ 0 _ rfl;(with_reducible repeat (first | refine aG ?_ _ | refine aI ?_ | refine aA ?_ _));exact dW.out) Try.underlying142 rfl (by kernel_rfl)) rfl ?_
        exact ⟨by first | rfl | (simp [aJ,aK] <;> rfl) | (simp [*,aJ,aK] <;> rfl),by repeat (first | (with_reducible first | exact HB.out | apply ak | apply ah | apply au | refine aR ?_ rD.out) | exact HB.out)⟩
      · replace c6:=Bool.eq_false_iff.mpr c6
        subst c6
        have H1:(if a0 = 6 then (some (0,2,20)) else (if a0 = 15 then (some (2,1,0)) else (if a0 = 33 then (some (6,1,0)) else (if a0 = 1 then (some (4,0,0)) else (if a0 = 28 then (some (16,0,0)) else (some (0,0,0))))))) = some (r1,r2,r3):=by rw [if_neg (show ¬ (false = true) by decide)] at H;exact H
        clear H
        have H:=H1
        clear H1
        by_cases c8:a0 = 6
        · rw [if_pos c8] at H
          have rZ:(a0 == 6) = true:=beq_iff_eq.mpr c8
          have r9:(a0 != 6) = false:=bne_eq_false_iff_eq.mpr c8
          clear c8
          simp only [Option.some.injEq,Prod.mk.injEq] at H
          obtain ⟨rfl,rfl,rfl⟩:=H
          have NQ:wc.cell? ⟨gX,0,none⟩ = some (.int .i64 0):=(aM dW.out 0).trans rfl
          have NR:wc.cell? ⟨gX,1,none⟩ = some (.int .i64 0):=(aM dW.out 1).trans rfl
          have NS:wc.cell? ⟨gX,2,none⟩ = some (.int .i64 0):=(aM dW.out 2).trans rfl
          have NT:=ay dW.out 0
          have NU:=ay dW.out 1
          have NV:=ay dW.out 2
          go_wp2
          refine bodyPost_ret (results_cell_row rfl _ _ gX 142 #[.int .i64 0,.int .i64 2,.int .i64 20] (0,0) _ rfl (by (with_reducible repeat (first | refine aG ?_ _ | refine aI ?_ | refine aA ?_ _));refine bU (cs:=#[.int .i64 0,.int .i64 2,.int .i64 0]) ?_ 2 _ rfl;(with_reducible repeat (first | refine aG ?_ _ | refine aI ?_ | refine aA ?_ _));refine bU (cs:=#[.int .i64 0,.int .i64 0,.int .i64 0]) ?_ 1 _ rfl;(with_reducible repeat (first | refine aG ?_ _ | refine aI ?_ | refine aA ?_ _));refine bU (cs:=#[.int .i64 0,.int .i64 0,.int .i64 0]) ?_ 0 _ rfl;(with_reducible repeat (first | refine aG ?_ _ | refine aI ?_ | refine aA ?_ _));exact dW.out) Try.underlying142 rfl (by kernel_rfl)) rfl ?_
          exact ⟨by first | rfl | (simp [aJ,aK] <;> rfl) | (simp [*,aJ,aK] <;> rfl),by repeat (first | (with_reducible first | exact HB.out | apply ak | apply ah | apply au | refine aR ?_ rD.out) | exact HB.out)⟩
        · rw [if_neg c8] at H
          have rZ:(a0 == 6) = false:=beq_eq_false_iff_ne.mpr c8
          have r9:(a0 != 6) = true:=bne_iff_ne.mpr c8
          by_cases c10:a0 = 15
          · rw [if_pos c10] at H
            have rz:(a0 == 15) = true:=beq_iff_eq.mpr c10
            have Bc:(a0 != 15) = false:=bne_eq_false_iff_eq.mpr c10
            clear c10
            simp only [Option.some.injEq,Prod.mk.injEq] at H
            obtain ⟨rfl,rfl,rfl⟩:=H
            have adv:wc.cell? ⟨gX,0,none⟩ = some (.int .i64 0):=(aM dW.out 0).trans rfl
            have adw:wc.cell? ⟨gX,1,none⟩ = some (.int .i64 0):=(aM dW.out 1).trans rfl
            have adx:wc.cell? ⟨gX,2,none⟩ = some (.int .i64 0):=(aM dW.out 2).trans rfl
            have ady:=ay dW.out 0
            have adz:=ay dW.out 1
            have adA:=ay dW.out 2
            go_wp2
            refine bodyPost_ret (results_cell_row rfl _ _ gX 142 #[.int .i64 2,.int .i64 1,.int .i64 0] (0,0) _ rfl (by (with_reducible repeat (first | refine aG ?_ _ | refine aI ?_ | refine aA ?_ _));refine bU (cs:=#[.int .i64 2,.int .i64 1,.int .i64 0]) ?_ 2 _ rfl;(with_reducible repeat (first | refine aG ?_ _ | refine aI ?_ | refine aA ?_ _));refine bU (cs:=#[.int .i64 2,.int .i64 0,.int .i64 0]) ?_ 1 _ rfl;(with_reducible repeat (first | refine aG ?_ _ | refine aI ?_ | refine aA ?_ _));refine bU (cs:=#[.int .i64 0,.int .i64 0,.int .i64 0]) ?_ 0 _ rfl;(with_reducible repeat (first | refine aG ?_ _ | refine aI ?_ | refine aA ?_ _));exact dW.out) Try.underlying142 rfl (by kernel_rfl)) rfl ?_
            exact ⟨by first | rfl | (simp [aJ,aK] <;> rfl) | (simp [*,aJ,aK] <;> rfl),by repeat (first | (with_reducible first | exact HB.out | apply ak | apply ah | apply au | refine aR ?_ rD.out) | exact HB.out)⟩
          · rw [if_neg c10] at H
            have rz:(a0 == 15) = false:=beq_eq_false_iff_ne.mpr c10
            have Bc:(a0 != 15) = true:=bne_iff_ne.mpr c10
            by_cases c12:a0 = 33
            · rw [if_pos c12] at H
              have uH:(a0 == 33) = true:=beq_iff_eq.mpr c12
              have uI:(a0 != 33) = false:=bne_eq_false_iff_eq.mpr c12
              clear c12
              simp only [Option.some.injEq,Prod.mk.injEq] at H
              obtain ⟨rfl,rfl,rfl⟩:=H
              have C8:wc.cell? ⟨gX,0,none⟩ = some (.int .i64 0):=(aM dW.out 0).trans rfl
              have C9:wc.cell? ⟨gX,1,none⟩ = some (.int .i64 0):=(aM dW.out 1).trans rfl
              have Da:wc.cell? ⟨gX,2,none⟩ = some (.int .i64 0):=(aM dW.out 2).trans rfl
              have Db:=ay dW.out 0
              have Dc:=ay dW.out 1
              have Df:=ay dW.out 2
              go_wp2
              refine bodyPost_ret (results_cell_row rfl _ _ gX 142 #[.int .i64 6,.int .i64 1,.int .i64 0] (0,0) _ rfl (by (with_reducible repeat (first | refine aG ?_ _ | refine aI ?_ | refine aA ?_ _));refine bU (cs:=#[.int .i64 6,.int .i64 1,.int .i64 0]) ?_ 2 _ rfl;(with_reducible repeat (first | refine aG ?_ _ | refine aI ?_ | refine aA ?_ _));refine bU (cs:=#[.int .i64 6,.int .i64 0,.int .i64 0]) ?_ 1 _ rfl;(with_reducible repeat (first | refine aG ?_ _ | refine aI ?_ | refine aA ?_ _));refine bU (cs:=#[.int .i64 0,.int .i64 0,.int .i64 0]) ?_ 0 _ rfl;(with_reducible repeat (first | refine aG ?_ _ | refine aI ?_ | refine aA ?_ _));exact dW.out) Try.underlying142 rfl (by kernel_rfl)) rfl ?_
              exact ⟨by first | rfl | (simp [aJ,aK] <;> rfl) | (simp [*,aJ,aK] <;> rfl),by repeat (first | (with_reducible first | exact HB.out | apply ak | apply ah | apply au | refine aR ?_ rD.out) | exact HB.out)⟩
            · rw [if_neg c12] at H
              have uH:(a0 == 33) = false:=beq_eq_false_iff_ne.mpr c12
              have uI:(a0 != 33) = true:=bne_iff_ne.mpr c12
              by_cases c14:a0 = 1
              · rw [if_pos c14] at H
                have Bd:(a0 == 1) = true:=beq_iff_eq.mpr c14
                have Tx:(a0 != 1) = false:=bne_eq_false_iff_eq.mpr c14
                clear c14
                simp only [Option.some.injEq,Prod.mk.injEq] at H
                obtain ⟨rfl,rfl,rfl⟩:=H
                have Dg:wc.cell? ⟨gX,0,none⟩ = some (.int .i64 0):=(aM dW.out 0).trans rfl
                have Dh:wc.cell? ⟨gX,1,none⟩ = some (.int .i64 0):=(aM dW.out 1).trans rfl
                have Di:wc.cell? ⟨gX,2,none⟩ = some (.int .i64 0):=(aM dW.out 2).trans rfl
                have Dj:=ay dW.out 0
                have Dk:=ay dW.out 1
                have Dl:=ay dW.out 2
                go_wp2
                refine bodyPost_ret (results_cell_row rfl _ _ gX 142 #[.int .i64 4,.int .i64 0,.int .i64 0] (0,0) _ rfl (by (with_reducible repeat (first | refine aG ?_ _ | refine aI ?_ | refine aA ?_ _));refine bU (cs:=#[.int .i64 4,.int .i64 0,.int .i64 0]) ?_ 2 _ rfl;(with_reducible repeat (first | refine aG ?_ _ | refine aI ?_ | refine aA ?_ _));refine bU (cs:=#[.int .i64 4,.int .i64 0,.int .i64 0]) ?_ 1 _ rfl;(with_reducible repeat (first | refine aG ?_ _ | refine aI ?_ | refine aA ?_ _));refine bU (cs:=#[.int .i64 0,.int .i64 0,.int .i64 0]) ?_ 0 _ rfl;(with_reducible repeat (first | refine aG ?_ _ | refine aI ?_ | refine aA ?_ _));exact dW.out) Try.underlying142 rfl (by kernel_rfl)) rfl ?_
                exact ⟨by first | rfl | (simp [aJ,aK] <;> rfl) | (simp [*,aJ,aK] <;> rfl),by repeat (first | (with_reducible first | exact HB.out | apply ak | apply ah | apply au | refine aR ?_ rD.out) | exact HB.out)⟩
              · rw [if_neg c14] at H
                have Bd:(a0 == 1) = false:=beq_eq_false_iff_ne.mpr c14
                have Tx:(a0 != 1) = true:=bne_iff_ne.mpr c14
                by_cases c16:a0 = 28
                · rw [if_pos c16] at H
                  have Iy:(a0 == 28) = true:=beq_iff_eq.mpr c16
                  have aaW:(a0 != 28) = false:=bne_eq_false_iff_eq.mpr c16
                  clear c16
                  simp only [Option.some.injEq,Prod.mk.injEq] at H
                  obtain ⟨rfl,rfl,rfl⟩:=H
                  have adB:wc.cell? ⟨gX,0,none⟩ = some (.int .i64 0):=(aM dW.out 0).trans rfl
                  have adC:wc.cell? ⟨gX,1,none⟩ = some (.int .i64 0):=(aM dW.out 1).trans rfl
                  have adD:wc.cell? ⟨gX,2,none⟩ = some (.int .i64 0):=(aM dW.out 2).trans rfl
                  have adE:=ay dW.out 0
                  have adF:=ay dW.out 1
                  have adG:=ay dW.out 2
                  go_wp2
                  refine bodyPost_ret (results_cell_row rfl _ _ gX 142 #[.int .i64 16,.int .i64 0,.int .i64 0] (0,0) _ rfl (by (with_reducible repeat (first | refine aG ?_ _ | refine aI ?_ | refine aA ?_ _));refine bU (cs:=#[.int .i64 16,.int .i64 0,.int .i64 0]) ?_ 2 _ rfl;(with_reducible repeat (first | refine aG ?_ _ | refine aI ?_ | refine aA ?_ _));refine bU (cs:=#[.int .i64 16,.int .i64 0,.int .i64 0]) ?_ 1 _ rfl;(with_reducible repeat (first | refine aG ?_ _ | refine aI ?_ | refine aA ?_ _));refine bU (cs:=#[.int .i64 0,.int .i64 0,.int .i64 0]) ?_ 0 _ rfl;(with_reducible repeat (first | refine aG ?_ _ | refine aI ?_ | refine aA ?_ _));exact dW.out) Try.underlying142 rfl (by kernel_rfl)) rfl ?_
                  exact ⟨by first | rfl | (simp [aJ,aK] <;> rfl) | (simp [*,aJ,aK] <;> rfl),by repeat (first | (with_reducible first | exact HB.out | apply ak | apply ah | apply au | refine aR ?_ rD.out) | exact HB.out)⟩
                · rw [if_neg c16] at H
                  have Iy:(a0 == 28) = false:=beq_eq_false_iff_ne.mpr c16
                  have aaW:(a0 != 28) = true:=bne_iff_ne.mpr c16
                  simp only [Option.some.injEq,Prod.mk.injEq] at H
                  obtain ⟨rfl,rfl,rfl⟩:=H
                  have IY:wc.cell? ⟨gX,0,none⟩ = some (.int .i64 0):=(aM dW.out 0).trans rfl
                  have IZ:wc.cell? ⟨gX,1,none⟩ = some (.int .i64 0):=(aM dW.out 1).trans rfl
                  have I4:wc.cell? ⟨gX,2,none⟩ = some (.int .i64 0):=(aM dW.out 2).trans rfl
                  have I5:=ay dW.out 0
                  have I6:=ay dW.out 1
                  have I7:=ay dW.out 2
                  go_wp2
                  refine bodyPost_ret (results_cell_row rfl _ _ gX 142 #[.int .i64 0,.int .i64 0,.int .i64 0] (0,0) _ rfl (by (with_reducible repeat (first | refine aG ?_ _ | refine aI ?_ | refine aA ?_ _));refine bU (cs:=#[.int .i64 0,.int .i64 0,.int .i64 0]) ?_ 2 _ rfl;(with_reducible repeat (first | refine aG ?_ _ | refine aI ?_ | refine aA ?_ _));refine bU (cs:=#[.int .i64 0,.int .i64 0,.int .i64 0]) ?_ 1 _ rfl;(with_reducible repeat (first | refine aG ?_ _ | refine aI ?_ | refine aA ?_ _));refine bU (cs:=#[.int .i64 0,.int .i64 0,.int .i64 0]) ?_ 0 _ rfl;(with_reducible repeat (first | refine aG ?_ _ | refine aI ?_ | refine aA ?_ _));exact dW.out) Try.underlying142 rfl (by kernel_rfl)) rfl ?_
                  exact ⟨by first | rfl | (simp [aJ,aK] <;> rfl) | (simp [*,aJ,aK] <;> rfl),by repeat (first | (with_reducible first | exact HB.out | apply ak | apply ah | apply au | refine aR ?_ rD.out) | exact HB.out)⟩
def bq.l0 : Nat → ByteArray → Int → Option (Bool)
  | 0,_,_=>none
  | k + 1,x0,x3=>if x3 < (x0.size:Int) then (if 0 ≤ x3 then (bq.l0 k x0 (wrap64 ((wrap64 (x3 + 1)) + (wrap64 (bt x0 x3))))) else (none)) else (if x3 = (x0.size:Int) then (some (decide (x3 > 0))) else (some false))
def bq.f (k:Nat) (a0:ByteArray):Option (Bool):=bq.l0 k a0 0
set_option maxHeartbeats 8000000 in
set_option maxRecDepth 100000 in
theorem bq.calls (k:Nat) (a0:ByteArray) (r:Bool) (w:World) (h:bq.f k a0 = some r) :
    Calls Try.prog 117 #[.string a0] w fun e w'=>e = .returned (.bool r) ∧ aY w w':=by
  have H:(bq.l0 k a0 0) = some r:=h
  clear h
  have H':=aj.mk H
  clear H
  go_enter Try.func117,Try.ntmps117
  go_wp2
  go_loopg [3] k (fun kq v3 w'=>∃ (oJ:Int),v3 = .int .i64 oJ ∧ aj (bq.l0 kq a0 oJ = some r) ∧ aj (kq ≤ k) ∧ aY w w')
  case atStart=>exact ⟨(0),(by first | rfl | (simp;done) | (simp [*];done) | (simp [B.aV];done) | (simp [B.aW];done)),H',⟨Nat.le_refl _⟩,by repeat (first | exact aY.refl _ | apply aY.step)⟩
  case round =>
    clear H'
    try clear c1
    obtain ⟨oJ,rfl,HA,uF,⟨m1,rfl⟩⟩:=hrel
    cases gk with
    | zero=>exact absurd HA.out (by simp [bq.l0])
    | succ k1 =>
      have H:=HA.out
      clear HA
      simp only [bq.l0] at H
      by_cases c2:oJ < (a0.size:Int)
      · rw [if_pos c2] at H
        have wP:decide (oJ < (a0.size:Int)) = true:=decide_eq_true c2
        clear c2
        by_cases c3:0 ≤ oJ
        · rw [if_pos c3] at H
          have qP:decide (0 ≤ oJ) = true:=decide_eq_true c3
          clear c3
          have H':=aj.mk H
          clear H
          have p4:0 ≤ (oJ:Int):=of_decide_eq_true (by first | (with_reducible assumption) | assumption)
          have q4:oJ < (a0.size:Int):=of_decide_eq_true (by first | (with_reducible assumption) | assumption)
          have hx4:=nM a0 oJ
          replace p4:=eq_true p4
          replace q4:=eq_true q4
          go_wp2
          go_roundg k1
          case measure=>have:=uF.out;omega
          case rel=>exact ⟨(wrap64 ((wrap64 (oJ + 1)) + (wrap64 (bt a0 oJ)))),(by first | rfl | (simp;done) | (simp [*];done) | (simp [B.aV];done) | (simp [B.aW];done)),H',⟨by have:=uF.out;omega⟩,by repeat (first | exact aY.refl _ | apply aY.step)⟩
        · rw [if_neg c3] at H
          exact absurd H (by simp)
      · rw [if_neg c2] at H
        have wP:decide (oJ < (a0.size:Int)) = false:=decide_eq_false c2
        clear c2
        by_cases c5:oJ = (a0.size:Int)
        · rw [if_pos c5] at H
          have pV:(oJ == (a0.size:Int)) = true:=beq_iff_eq.mpr c5
          have vM:(oJ != (a0.size:Int)) = false:=bne_eq_false_iff_eq.mpr c5
          clear c5
          obtain rfl:=Option.some.inj H
          go_wp2
          go_ret
          exact ⟨by first | rfl | (simp;done) | (simp [*];done),by repeat (first | exact aY.refl _ | apply aY.step)⟩
        · rw [if_neg c5] at H
          have pV:(oJ == (a0.size:Int)) = false:=beq_eq_false_iff_ne.mpr c5
          have vM:(oJ != (a0.size:Int)) = true:=bne_iff_ne.mpr c5
          obtain rfl:=Option.some.inj H
          go_wp2
          go_ret
          exact ⟨by first | rfl | (simp;done) | (simp [*];done),by repeat (first | exact aY.refl _ | apply aY.step)⟩
def aX.l0 : Nat → ByteArray → Int → Int → ByteArray → Int → Int → Int → Int → Int → Option (ByteArray × Int)
  | 0,_,_,_,_,_,_,_,_,_=>none
  | k + 1,x0,x1,x2,x13,QD,x15,Rb,I8,I9=>if x15 < I8 then ((aU.f k x0 QD).bind fun Ja=>(if Ja.2.2 = 0 then (if x13.size + Ja.1.size ≤ 9223372036854775807 then (aX.l0 k x0 x1 x2 (x13 ++ Ja.1) Ja.2.1 (wrap64 (x15 + 1)) Rb I8 I9) else (none)) else (some ((⟨#[]⟩:ByteArray),4)))) else (if (wrap64 (QD + I9)) = (wrap64 (x1 + x2)) then (if 0 ≤ QD then (if QD ≤ (wrap64 (x1 + x2)) then (if (wrap64 (x1 + x2)) ≤ (x0.size:Int) then (if x13.size + (x0.extract (QD:Int).toNat ((wrap64 (x1 + x2)):Int).toNat).size ≤ 9223372036854775807 then (if ((x13 ++ (x0.extract (QD:Int).toNat ((wrap64 (x1 + x2)):Int).toNat)).size:Int) > 65535 then (some ((⟨#[]⟩:ByteArray),4)) else (some (x13 ++ (x0.extract (QD:Int).toNat ((wrap64 (x1 + x2)):Int).toNat),0))) else (none)) else (none)) else (none)) else (none)) else (some ((⟨#[]⟩:ByteArray),4)))
def aX.f (k:Nat) (a0:ByteArray) (a1:Int) (a2:Int) (a3:Int):Option (ByteArray × Int):=(bC.f a0 a1 a2).bind fun lI=>(if lI.2 = true then ((aH.f k a3).bind fun eX=>(if (eX.1 == 0 && (eX.2.1 == 0 && (eX.2.2 == 0))) = true then (if a3 = 16 then ((bq.f k lI.1).bind fun wS=>(if wS = true then (if (lI.1.size:Int) > 65535 then (some ((⟨#[]⟩:ByteArray),4)) else (some (lI.1,0))) else (some ((⟨#[]⟩:ByteArray),4)))) else (if (lI.1.size:Int) > 65535 then (some ((⟨#[]⟩:ByteArray),4)) else (some (lI.1,0)))) else (if eX.1 > a2 then (some ((⟨#[]⟩:ByteArray),4)) else (if 0 ≤ eX.1 then (if eX.1 ≤ (lI.1.size:Int) then (aX.l0 k a0 a1 a2 (lI.1.extract 0 (eX.1:Int).toNat) (wrap64 (a1 + eX.1)) 0 eX.1 eX.2.1 eX.2.2) else (none)) else (none))))) else (some ((⟨#[]⟩:ByteArray),2)))
set_option maxHeartbeats 8000000 in
set_option maxRecDepth 100000 in
theorem aX.calls (k:Nat) (a0:ByteArray) (a1:Int) (a2:Int) (a3:Int) (r1:ByteArray) (r2:Int) (w:World) (h:aX.f k a0 a1 a2 a3 = some (r1,r2)) :
    Calls Try.prog 104 #[.string a0,.int .i64 a1,.int .i64 a2,.int .i64 a3] w fun e w'=>e = .returned (.tuple #[.string r1,.int .i64 r2]) ∧ Below w.heap.size w w':=by
  have NP:=Try.underlying142
  have HB:=aj.mk (Below.refl w.heap.size w)
  have H:((bC.f a0 a1 a2).bind fun lI=>(if lI.2 = true then ((aH.f k a3).bind fun eX=>(if (eX.1 == 0 && (eX.2.1 == 0 && (eX.2.2 == 0))) = true then (if a3 = 16 then ((bq.f k lI.1).bind fun wS=>(if wS = true then (if (lI.1.size:Int) > 65535 then (some ((⟨#[]⟩:ByteArray),4)) else (some (lI.1,0))) else (some ((⟨#[]⟩:ByteArray),4)))) else (if (lI.1.size:Int) > 65535 then (some ((⟨#[]⟩:ByteArray),4)) else (some (lI.1,0)))) else (if eX.1 > a2 then (some ((⟨#[]⟩:ByteArray),4)) else (if 0 ≤ eX.1 then (if eX.1 ≤ (lI.1.size:Int) then (aX.l0 k a0 a1 a2 (lI.1.extract 0 (eX.1:Int).toNat) (wrap64 (a1 + eX.1)) 0 eX.1 eX.2.1 eX.2.2) else (none)) else (none))))) else (some ((⟨#[]⟩:ByteArray),2)))) = some (r1,r2):=h
  clear h
  replace H:=zbm H
  obtain ⟨⟨t160,aaX⟩,TI,H⟩:=H
  replace H:(if aaX = true then ((aH.f k a3).bind fun eX=>(if (eX.1 == 0 && (eX.2.1 == 0 && (eX.2.2 == 0))) = true then (if a3 = 16 then ((bq.f k t160).bind fun wS=>(if wS = true then (if (t160.size:Int) > 65535 then (some ((⟨#[]⟩:ByteArray),4)) else (some (t160,0))) else (some ((⟨#[]⟩:ByteArray),4)))) else (if (t160.size:Int) > 65535 then (some ((⟨#[]⟩:ByteArray),4)) else (some (t160,0)))) else (if eX.1 > a2 then (some ((⟨#[]⟩:ByteArray),4)) else (if 0 ≤ eX.1 then (if eX.1 ≤ (t160.size:Int) then (aX.l0 k a0 a1 a2 (t160.extract 0 (eX.1:Int).toNat) (wrap64 (a1 + eX.1)) 0 eX.1 eX.2.1 eX.2.2) else (none)) else (none))))) else (some ((⟨#[]⟩:ByteArray),2))) = some (r1,r2):=H
  have A5:=aj.mk TI
  clear TI
  by_cases c6:aaX = true
  · subst c6
    have H1:((aH.f k a3).bind fun eX=>(if (eX.1 == 0 && (eX.2.1 == 0 && (eX.2.2 == 0))) = true then (if a3 = 16 then ((bq.f k t160).bind fun wS=>(if wS = true then (if (t160.size:Int) > 65535 then (some ((⟨#[]⟩:ByteArray),4)) else (some (t160,0))) else (some ((⟨#[]⟩:ByteArray),4)))) else (if (t160.size:Int) > 65535 then (some ((⟨#[]⟩:ByteArray),4)) else (some (t160,0)))) else (if eX.1 > a2 then (some ((⟨#[]⟩:ByteArray),4)) else (if 0 ≤ eX.1 then (if eX.1 ≤ (t160.size:Int) then (aX.l0 k a0 a1 a2 (t160.extract 0 (eX.1:Int).toNat) (wrap64 (a1 + eX.1)) 0 eX.1 eX.2.1 eX.2.2) else (none)) else (none))))) = some (r1,r2):=by rw [if_pos rfl] at H;exact H
    clear H
    have H:=H1
    clear H1
    replace H:=zbm H
    obtain ⟨⟨t162,kL,t164⟩,A70,H⟩:=H
    replace H:(if (t162 == 0 && (kL == 0 && (t164 == 0))) = true then (if a3 = 16 then ((bq.f k t160).bind fun wS=>(if wS = true then (if (t160.size:Int) > 65535 then (some ((⟨#[]⟩:ByteArray),4)) else (some (t160,0))) else (some ((⟨#[]⟩:ByteArray),4)))) else (if (t160.size:Int) > 65535 then (some ((⟨#[]⟩:ByteArray),4)) else (some (t160,0)))) else (if t162 > a2 then (some ((⟨#[]⟩:ByteArray),4)) else (if 0 ≤ t162 then (if t162 ≤ (t160.size:Int) then (aX.l0 k a0 a1 a2 (t160.extract 0 (t162:Int).toNat) (wrap64 (a1 + t162)) 0 t162 kL t164) else (none)) else (none)))) = some (r1,r2):=H
    have A7:=aj.mk A70
    clear A70
    by_cases c8:(t162 == 0 && (kL == 0 && (t164 == 0))) = true
    · rw [if_pos c8] at H
      have rZ:(t162 == 0 && (kL == 0 && (t164 == 0))) = true:=c8
      (try (have r9:decide (t162 = 0 && (kL == 0 && (t164 == 0))) = true:=by simpa using c8))
      (try (have Ns:(t162 == 0 && (kL == 0 && (t164 == 0))) = true:=by simpa using c8))
      clear c8
      by_cases c9:a3 = 16
      · rw [if_pos c9] at H
        have uG:(a3 == 16) = true:=beq_iff_eq.mpr c9
        have ES:(a3 != 16) = false:=bne_eq_false_iff_eq.mpr c9
        clear c9
        replace H:=zbm H
        obtain ⟨wS,ND,H⟩:=H
        replace H:(if wS = true then (if (t160.size:Int) > 65535 then (some ((⟨#[]⟩:ByteArray),4)) else (some (t160,0))) else (some ((⟨#[]⟩:ByteArray),4))) = some (r1,r2):=H
        have TA:=aj.mk ND
        clear ND
        by_cases c11:wS = true
        · subst c11
          have H1:(if (t160.size:Int) > 65535 then (some ((⟨#[]⟩:ByteArray),4)) else (some (t160,0))) = some (r1,r2):=by rw [if_pos rfl] at H;exact H
          clear H
          have H:=H1
          clear H1
          by_cases c12:(t160.size:Int) > 65535
          · rw [if_pos c12] at H
            have uH:decide (65535 < (t160.size:Int)) = true:=decide_eq_true c12
            have uI:decide (65535 < t160.size) = true:=decide_eq_true (by omega)
            clear c12
            simp only [Option.some.injEq,Prod.mk.injEq] at H
            obtain ⟨rfl,rfl⟩:=H
            go_enter Try.func104,Try.ntmps104
            go_wp2_with (first | ((with_reducible refine aQ (f:=99) rfl ?_);refine bP (some 23) rfl rfl Try.func99 (by kernel_rfl) rfl #[.string a0,.int .i64 a1,.int .i64 a2] rfl (by (try simp only [List.map_toArray,List.map_cons,List.map_nil]);first | done | rfl | (simp only [List.length_drop,List.length_take];rfl) | (simp only [ByteArray.size_append,Int.natCast_add];rfl) | (rw [B.dP] <;> first | rfl | omega | (simp only [decide_eq_false_iff_not,decide_eq_true_eq,Int.not_lt,Nat.not_lt,gt_iff_lt] at * <;> omega))) ?_;(with_reducible refine (bC.calls a0 a1 a2 t160 true _ A5.out).mono ?_);rintro e w' ⟨rfl,⟨nd,rfl⟩⟩;refine ⟨_,rfl,?_⟩) | ((with_reducible refine aQ (f:=106) rfl ?_);refine bP (some 29) rfl rfl Try.func106 (by kernel_rfl) rfl #[.int .i64 a3] rfl (by (try simp only [List.map_toArray,List.map_cons,List.map_nil]);first | done | rfl | (simp only [List.length_drop,List.length_take];rfl) | (simp only [ByteArray.size_append,Int.natCast_add];rfl) | (rw [B.dP] <;> first | rfl | omega | (simp only [decide_eq_false_iff_not,decide_eq_true_eq,Int.not_lt,Nat.not_lt,gt_iff_lt] at * <;> omega))) ?_;(with_reducible refine (aH.calls k a3 t162 kL t164 _ A7.out).mono ?_);rintro e w13 ⟨rfl,hb⟩;refine ⟨_,rfl,?_⟩;have d9:=aj.mk (bE (by repeat (first | (with_reducible first | exact HB.out | apply ak | apply ah | apply au) | exact HB.out)) hb);clear HB;have HB:=d9;clear d9;(try clear hb);(try clear hb2);(try clear hk);(try clear hi)) | ((with_reducible refine gJ (N:=12) rfl ?_);(try (refine jB (by rfl) ?_;dsimp only));refine fQ ?hg (N:=12) ?hd (cs:=#[.int .i64 0,.int .i64 0,.int .i64 0]) (t:=142) ?hr ?_;(case hd=>rfl);(case hg=>rfl);(case hr=>first | (go_simp;done) | (go_simp;rfl));intro dM hg w14 gW hb;have d9:=aj.mk (bE (by repeat (first | (with_reducible first | exact HB.out | apply ak | apply ah | apply au) | exact HB.out)) hb);have gZ:=aj.mk (gW);have jg:=aj.mk ((by rw [hg];exact (bL (by repeat (first | (with_reducible first | exact HB.out | apply ak | apply ah | apply au) | exact HB.out))):w.heap.size ≤ dM));have jN:=aj.mk ((by rw [hg];exact (bL (by repeat (first | (with_reducible first | exact HB.out | apply ak | apply ah | apply au) | exact HB.out))):w.heap.size ≤ dM));clear HB;have HB:=d9;have bT:=gZ;have Bo:=jg;have kS:=jN;clear d9 gZ jg jN;clear hb gW hg;have Dg:w14.cell? ⟨dM,0,none⟩ = some (.int .i64 0):=(aM bT.out 0).trans rfl;have Dh:w14.cell? ⟨dM,1,none⟩ = some (.int .i64 0):=(aM bT.out 1).trans rfl;have Di:w14.cell? ⟨dM,2,none⟩ = some (.int .i64 0):=(aM bT.out 2).trans rfl;have Dj:=ay bT.out 0;have Dk:=ay bT.out 1;have Dl:=ay bT.out 2) | (go_at_call 117;(with_reducible refine (bq.calls k t160 true _ TA.out).mono ?_);rintro e w' ⟨rfl,⟨nd,rfl⟩⟩))
            go_ret2
            exact ⟨by first | rfl | (simp [aJ,aK] <;> rfl) | (simp [*,aJ,aK] <;> rfl),by repeat (first | (with_reducible first | exact HB.out | apply ak | apply ah | apply au | refine aR ?_ kS.out) | exact HB.out)⟩
          · rw [if_neg c12] at H
            have uH:decide (65535 < (t160.size:Int)) = false:=decide_eq_false c12
            have uI:decide (65535 < t160.size) = false:=decide_eq_false (by omega)
            clear c12
            simp only [Option.some.injEq,Prod.mk.injEq] at H
            obtain ⟨rfl,rfl⟩:=H
            go_enter Try.func104,Try.ntmps104
            go_wp2_with (first | ((with_reducible refine aQ (f:=99) rfl ?_);refine bP (some 23) rfl rfl Try.func99 (by kernel_rfl) rfl #[.string a0,.int .i64 a1,.int .i64 a2] rfl (by (try simp only [List.map_toArray,List.map_cons,List.map_nil]);first | done | rfl | (simp only [List.length_drop,List.length_take];rfl) | (simp only [ByteArray.size_append,Int.natCast_add];rfl) | (rw [B.dP] <;> first | rfl | omega | (simp only [decide_eq_false_iff_not,decide_eq_true_eq,Int.not_lt,Nat.not_lt,gt_iff_lt] at * <;> omega))) ?_;(with_reducible refine (bC.calls a0 a1 a2 t160 true _ A5.out).mono ?_);rintro e w' ⟨rfl,⟨nd,rfl⟩⟩;refine ⟨_,rfl,?_⟩) | ((with_reducible refine aQ (f:=106) rfl ?_);refine bP (some 29) rfl rfl Try.func106 (by kernel_rfl) rfl #[.int .i64 a3] rfl (by (try simp only [List.map_toArray,List.map_cons,List.map_nil]);first | done | rfl | (simp only [List.length_drop,List.length_take];rfl) | (simp only [ByteArray.size_append,Int.natCast_add];rfl) | (rw [B.dP] <;> first | rfl | omega | (simp only [decide_eq_false_iff_not,decide_eq_true_eq,Int.not_lt,Nat.not_lt,gt_iff_lt] at * <;> omega))) ?_;(with_reducible refine (aH.calls k a3 t162 kL t164 _ A7.out).mono ?_);rintro e w16 ⟨rfl,hb⟩;refine ⟨_,rfl,?_⟩;have d9:=aj.mk (bE (by repeat (first | (with_reducible first | exact HB.out | apply ak | apply ah | apply au) | exact HB.out)) hb);clear HB;have HB:=d9;clear d9;(try clear hb);(try clear hb2);(try clear hk);(try clear hi)) | ((with_reducible refine gJ (N:=12) rfl ?_);(try (refine jB (by rfl) ?_;dsimp only));refine fQ ?hg (N:=12) ?hd (cs:=#[.int .i64 0,.int .i64 0,.int .i64 0]) (t:=142) ?hr ?_;(case hd=>rfl);(case hg=>rfl);(case hr=>first | (go_simp;done) | (go_simp;rfl));intro dM hg w17 gW hb;have d9:=aj.mk (bE (by repeat (first | (with_reducible first | exact HB.out | apply ak | apply ah | apply au) | exact HB.out)) hb);have gZ:=aj.mk (gW);have jg:=aj.mk ((by rw [hg];exact (bL (by repeat (first | (with_reducible first | exact HB.out | apply ak | apply ah | apply au) | exact HB.out))):w.heap.size ≤ dM));have jN:=aj.mk ((by rw [hg];exact (bL (by repeat (first | (with_reducible first | exact HB.out | apply ak | apply ah | apply au) | exact HB.out))):w.heap.size ≤ dM));clear HB;have HB:=d9;have bT:=gZ;have Bo:=jg;have kS:=jN;clear d9 gZ jg jN;clear hb gW hg;have IY:w17.cell? ⟨dM,0,none⟩ = some (.int .i64 0):=(aM bT.out 0).trans rfl;have IZ:w17.cell? ⟨dM,1,none⟩ = some (.int .i64 0):=(aM bT.out 1).trans rfl;have I4:w17.cell? ⟨dM,2,none⟩ = some (.int .i64 0):=(aM bT.out 2).trans rfl;have I5:=ay bT.out 0;have I6:=ay bT.out 1;have I7:=ay bT.out 2) | (go_at_call 117;(with_reducible refine (bq.calls k t160 true _ TA.out).mono ?_);rintro e w' ⟨rfl,⟨nd,rfl⟩⟩))
            go_ret2
            exact ⟨by first | rfl | (simp [aJ,aK] <;> rfl) | (simp [*,aJ,aK] <;> rfl),by repeat (first | (with_reducible first | exact HB.out | apply ak | apply ah | apply au | refine aR ?_ kS.out) | exact HB.out)⟩
        · replace c11:=Bool.eq_false_iff.mpr c11
          subst c11
          have H1:(some ((⟨#[]⟩:ByteArray),4)) = some (r1,r2):=by rw [if_neg (show ¬ (false = true) by decide)] at H;exact H
          clear H
          have H:=H1
          clear H1
          simp only [Option.some.injEq,Prod.mk.injEq] at H
          obtain ⟨rfl,rfl⟩:=H
          go_enter Try.func104,Try.ntmps104
          go_wp2_with (first | ((with_reducible refine aQ (f:=99) rfl ?_);refine bP (some 23) rfl rfl Try.func99 (by kernel_rfl) rfl #[.string a0,.int .i64 a1,.int .i64 a2] rfl (by (try simp only [List.map_toArray,List.map_cons,List.map_nil]);first | done | rfl | (simp only [List.length_drop,List.length_take];rfl) | (simp only [ByteArray.size_append,Int.natCast_add];rfl) | (rw [B.dP] <;> first | rfl | omega | (simp only [decide_eq_false_iff_not,decide_eq_true_eq,Int.not_lt,Nat.not_lt,gt_iff_lt] at * <;> omega))) ?_;(with_reducible refine (bC.calls a0 a1 a2 t160 true _ A5.out).mono ?_);rintro e w' ⟨rfl,⟨nd,rfl⟩⟩;refine ⟨_,rfl,?_⟩) | ((with_reducible refine aQ (f:=106) rfl ?_);refine bP (some 29) rfl rfl Try.func106 (by kernel_rfl) rfl #[.int .i64 a3] rfl (by (try simp only [List.map_toArray,List.map_cons,List.map_nil]);first | done | rfl | (simp only [List.length_drop,List.length_take];rfl) | (simp only [ByteArray.size_append,Int.natCast_add];rfl) | (rw [B.dP] <;> first | rfl | omega | (simp only [decide_eq_false_iff_not,decide_eq_true_eq,Int.not_lt,Nat.not_lt,gt_iff_lt] at * <;> omega))) ?_;(with_reducible refine (aH.calls k a3 t162 kL t164 _ A7.out).mono ?_);rintro e w19 ⟨rfl,hb⟩;refine ⟨_,rfl,?_⟩;have d9:=aj.mk (bE (by repeat (first | (with_reducible first | exact HB.out | apply ak | apply ah | apply au) | exact HB.out)) hb);clear HB;have HB:=d9;clear d9;(try clear hb);(try clear hb2);(try clear hk);(try clear hi)) | ((with_reducible refine gJ (N:=12) rfl ?_);(try (refine jB (by rfl) ?_;dsimp only));refine fQ ?hg (N:=12) ?hd (cs:=#[.int .i64 0,.int .i64 0,.int .i64 0]) (t:=142) ?hr ?_;(case hd=>rfl);(case hg=>rfl);(case hr=>first | (go_simp;done) | (go_simp;rfl));intro dM hg w20 gW hb;have d9:=aj.mk (bE (by repeat (first | (with_reducible first | exact HB.out | apply ak | apply ah | apply au) | exact HB.out)) hb);have gZ:=aj.mk (gW);have jg:=aj.mk ((by rw [hg];exact (bL (by repeat (first | (with_reducible first | exact HB.out | apply ak | apply ah | apply au) | exact HB.out))):w.heap.size ≤ dM));have jN:=aj.mk ((by rw [hg];exact (bL (by repeat (first | (with_reducible first | exact HB.out | apply ak | apply ah | apply au) | exact HB.out))):w.heap.size ≤ dM));clear HB;have HB:=d9;have bT:=gZ;have Bo:=jg;have kS:=jN;clear d9 gZ jg jN;clear hb gW hg;have Rc:w20.cell? ⟨dM,0,none⟩ = some (.int .i64 0):=(aM bT.out 0).trans rfl;have Rf:w20.cell? ⟨dM,1,none⟩ = some (.int .i64 0):=(aM bT.out 1).trans rfl;have Rh:w20.cell? ⟨dM,2,none⟩ = some (.int .i64 0):=(aM bT.out 2).trans rfl;have Ri:=ay bT.out 0;have Rj:=ay bT.out 1;have Rk:=ay bT.out 2) | (go_at_call 117;(with_reducible refine (bq.calls k t160 false _ TA.out).mono ?_);rintro e w' ⟨rfl,⟨nd,rfl⟩⟩))
          go_ret2
          exact ⟨by first | rfl | (simp [aJ,aK] <;> rfl) | (simp [*,aJ,aK] <;> rfl),by repeat (first | (with_reducible first | exact HB.out | apply ak | apply ah | apply au | refine aR ?_ kS.out) | exact HB.out)⟩
      · rw [if_neg c9] at H
        have uG:(a3 == 16) = false:=beq_eq_false_iff_ne.mpr c9
        have ES:(a3 != 16) = true:=bne_iff_ne.mpr c9
        by_cases FD:(t160.size:Int) > 65535
        · rw [if_pos FD] at H
          have NW:decide (65535 < (t160.size:Int)) = true:=decide_eq_true FD
          have NY:decide (65535 < t160.size) = true:=decide_eq_true (by omega)
          clear FD
          simp only [Option.some.injEq,Prod.mk.injEq] at H
          obtain ⟨rfl,rfl⟩:=H
          go_enter Try.func104,Try.ntmps104
          go_wp2_with (first | ((with_reducible refine aQ (f:=99) rfl ?_);refine bP (some 23) rfl rfl Try.func99 (by kernel_rfl) rfl #[.string a0,.int .i64 a1,.int .i64 a2] rfl (by (try simp only [List.map_toArray,List.map_cons,List.map_nil]);first | done | rfl | (simp only [List.length_drop,List.length_take];rfl) | (simp only [ByteArray.size_append,Int.natCast_add];rfl) | (rw [B.dP] <;> first | rfl | omega | (simp only [decide_eq_false_iff_not,decide_eq_true_eq,Int.not_lt,Nat.not_lt,gt_iff_lt] at * <;> omega))) ?_;(with_reducible refine (bC.calls a0 a1 a2 t160 true _ A5.out).mono ?_);rintro e w' ⟨rfl,⟨nd,rfl⟩⟩;refine ⟨_,rfl,?_⟩) | ((with_reducible refine aQ (f:=106) rfl ?_);refine bP (some 29) rfl rfl Try.func106 (by kernel_rfl) rfl #[.int .i64 a3] rfl (by (try simp only [List.map_toArray,List.map_cons,List.map_nil]);first | done | rfl | (simp only [List.length_drop,List.length_take];rfl) | (simp only [ByteArray.size_append,Int.natCast_add];rfl) | (rw [B.dP] <;> first | rfl | omega | (simp only [decide_eq_false_iff_not,decide_eq_true_eq,Int.not_lt,Nat.not_lt,gt_iff_lt] at * <;> omega))) ?_;(with_reducible refine (aH.calls k a3 t162 kL t164 _ A7.out).mono ?_);rintro e w23 ⟨rfl,hb⟩;refine ⟨_,rfl,?_⟩;have d9:=aj.mk (bE (by repeat (first | (with_reducible first | exact HB.out | apply ak | apply ah | apply au) | exact HB.out)) hb);clear HB;have HB:=d9;clear d9;(try clear hb);(try clear hb2);(try clear hk);(try clear hi)) | ((with_reducible refine gJ (N:=12) rfl ?_);(try (refine jB (by rfl) ?_;dsimp only));refine fQ ?hg (N:=12) ?hd (cs:=#[.int .i64 0,.int .i64 0,.int .i64 0]) (t:=142) ?hr ?_;(case hd=>rfl);(case hg=>rfl);(case hr=>first | (go_simp;done) | (go_simp;rfl));intro dM hg w24 gW hb;have d9:=aj.mk (bE (by repeat (first | (with_reducible first | exact HB.out | apply ak | apply ah | apply au) | exact HB.out)) hb);have gZ:=aj.mk (gW);have jg:=aj.mk ((by rw [hg];exact (bL (by repeat (first | (with_reducible first | exact HB.out | apply ak | apply ah | apply au) | exact HB.out))):w.heap.size ≤ dM));have jN:=aj.mk ((by rw [hg];exact (bL (by repeat (first | (with_reducible first | exact HB.out | apply ak | apply ah | apply au) | exact HB.out))):w.heap.size ≤ dM));clear HB;have HB:=d9;have bT:=gZ;have Bo:=jg;have kS:=jN;clear d9 gZ jg jN;clear hb gW hg;have Rm:w24.cell? ⟨dM,0,none⟩ = some (.int .i64 0):=(aM bT.out 0).trans rfl;have Ro:w24.cell? ⟨dM,1,none⟩ = some (.int .i64 0):=(aM bT.out 1).trans rfl;have Rp:w24.cell? ⟨dM,2,none⟩ = some (.int .i64 0):=(aM bT.out 2).trans rfl;have Rq:=ay bT.out 0;have Rt:=ay bT.out 1;have Ru:=ay bT.out 2))
          go_ret2
          exact ⟨by first | rfl | (simp [aJ,aK] <;> rfl) | (simp [*,aJ,aK] <;> rfl),by repeat (first | (with_reducible first | exact HB.out | apply ak | apply ah | apply au | refine aR ?_ kS.out) | exact HB.out)⟩
        · rw [if_neg FD] at H
          have NW:decide (65535 < (t160.size:Int)) = false:=decide_eq_false FD
          have NY:decide (65535 < t160.size) = false:=decide_eq_false (by omega)
          clear FD
          simp only [Option.some.injEq,Prod.mk.injEq] at H
          obtain ⟨rfl,rfl⟩:=H
          go_enter Try.func104,Try.ntmps104
          go_wp2_with (first | ((with_reducible refine aQ (f:=99) rfl ?_);refine bP (some 23) rfl rfl Try.func99 (by kernel_rfl) rfl #[.string a0,.int .i64 a1,.int .i64 a2] rfl (by (try simp only [List.map_toArray,List.map_cons,List.map_nil]);first | done | rfl | (simp only [List.length_drop,List.length_take];rfl) | (simp only [ByteArray.size_append,Int.natCast_add];rfl) | (rw [B.dP] <;> first | rfl | omega | (simp only [decide_eq_false_iff_not,decide_eq_true_eq,Int.not_lt,Nat.not_lt,gt_iff_lt] at * <;> omega))) ?_;(with_reducible refine (bC.calls a0 a1 a2 t160 true _ A5.out).mono ?_);rintro e w' ⟨rfl,⟨nd,rfl⟩⟩;refine ⟨_,rfl,?_⟩) | ((with_reducible refine aQ (f:=106) rfl ?_);refine bP (some 29) rfl rfl Try.func106 (by kernel_rfl) rfl #[.int .i64 a3] rfl (by (try simp only [List.map_toArray,List.map_cons,List.map_nil]);first | done | rfl | (simp only [List.length_drop,List.length_take];rfl) | (simp only [ByteArray.size_append,Int.natCast_add];rfl) | (rw [B.dP] <;> first | rfl | omega | (simp only [decide_eq_false_iff_not,decide_eq_true_eq,Int.not_lt,Nat.not_lt,gt_iff_lt] at * <;> omega))) ?_;(with_reducible refine (aH.calls k a3 t162 kL t164 _ A7.out).mono ?_);rintro e w26 ⟨rfl,hb⟩;refine ⟨_,rfl,?_⟩;have d9:=aj.mk (bE (by repeat (first | (with_reducible first | exact HB.out | apply ak | apply ah | apply au) | exact HB.out)) hb);clear HB;have HB:=d9;clear d9;(try clear hb);(try clear hb2);(try clear hk);(try clear hi)) | ((with_reducible refine gJ (N:=12) rfl ?_);(try (refine jB (by rfl) ?_;dsimp only));refine fQ ?hg (N:=12) ?hd (cs:=#[.int .i64 0,.int .i64 0,.int .i64 0]) (t:=142) ?hr ?_;(case hd=>rfl);(case hg=>rfl);(case hr=>first | (go_simp;done) | (go_simp;rfl));intro dM hg w27 gW hb;have d9:=aj.mk (bE (by repeat (first | (with_reducible first | exact HB.out | apply ak | apply ah | apply au) | exact HB.out)) hb);have gZ:=aj.mk (gW);have jg:=aj.mk ((by rw [hg];exact (bL (by repeat (first | (with_reducible first | exact HB.out | apply ak | apply ah | apply au) | exact HB.out))):w.heap.size ≤ dM));have jN:=aj.mk ((by rw [hg];exact (bL (by repeat (first | (with_reducible first | exact HB.out | apply ak | apply ah | apply au) | exact HB.out))):w.heap.size ≤ dM));clear HB;have HB:=d9;have bT:=gZ;have Bo:=jg;have kS:=jN;clear d9 gZ jg jN;clear hb gW hg;have Rv:w27.cell? ⟨dM,0,none⟩ = some (.int .i64 0):=(aM bT.out 0).trans rfl;have Rw:w27.cell? ⟨dM,1,none⟩ = some (.int .i64 0):=(aM bT.out 1).trans rfl;have Rx:w27.cell? ⟨dM,2,none⟩ = some (.int .i64 0):=(aM bT.out 2).trans rfl;have Ry:=ay bT.out 0;have Rz:=ay bT.out 1;have RA:=ay bT.out 2))
          go_ret2
          exact ⟨by first | rfl | (simp [aJ,aK] <;> rfl) | (simp [*,aJ,aK] <;> rfl),by repeat (first | (with_reducible first | exact HB.out | apply ak | apply ah | apply au | refine aR ?_ kS.out) | exact HB.out)⟩
    · rw [if_neg c8] at H
      have rZ:(t162 == 0 && (kL == 0 && (t164 == 0))) = false:=by simpa using c8
      (try (have r9:decide (t162 = 0 && (kL == 0 && (t164 == 0))) = false:=by simpa using c8))
      (try (have Ns:(t162 == 0 && (kL == 0 && (t164 == 0))) = false:=by simpa using c8))
      (try (have aah:¬ (t162 = 0 && (kL == 0 && (t164 == 0))):=by simpa using c8))
      clear c8
      by_cases Wq:t162 > a2
      · rw [if_pos Wq] at H
        have TJ:decide (a2 < t162) = true:=decide_eq_true Wq
        clear Wq
        simp only [Option.some.injEq,Prod.mk.injEq] at H
        obtain ⟨rfl,rfl⟩:=H
        go_enter Try.func104,Try.ntmps104
        go_wp2_with (first | ((with_reducible refine aQ (f:=99) rfl ?_);refine bP (some 23) rfl rfl Try.func99 (by kernel_rfl) rfl #[.string a0,.int .i64 a1,.int .i64 a2] rfl (by (try simp only [List.map_toArray,List.map_cons,List.map_nil]);first | done | rfl | (simp only [List.length_drop,List.length_take];rfl) | (simp only [ByteArray.size_append,Int.natCast_add];rfl) | (rw [B.dP] <;> first | rfl | omega | (simp only [decide_eq_false_iff_not,decide_eq_true_eq,Int.not_lt,Nat.not_lt,gt_iff_lt] at * <;> omega))) ?_;(with_reducible refine (bC.calls a0 a1 a2 t160 true _ A5.out).mono ?_);rintro e w' ⟨rfl,⟨nd,rfl⟩⟩;refine ⟨_,rfl,?_⟩) | ((with_reducible refine aQ (f:=106) rfl ?_);refine bP (some 29) rfl rfl Try.func106 (by kernel_rfl) rfl #[.int .i64 a3] rfl (by (try simp only [List.map_toArray,List.map_cons,List.map_nil]);first | done | rfl | (simp only [List.length_drop,List.length_take];rfl) | (simp only [ByteArray.size_append,Int.natCast_add];rfl) | (rw [B.dP] <;> first | rfl | omega | (simp only [decide_eq_false_iff_not,decide_eq_true_eq,Int.not_lt,Nat.not_lt,gt_iff_lt] at * <;> omega))) ?_;(with_reducible refine (aH.calls k a3 t162 kL t164 _ A7.out).mono ?_);rintro e w30 ⟨rfl,hb⟩;refine ⟨_,rfl,?_⟩;have d9:=aj.mk (bE (by repeat (first | (with_reducible first | exact HB.out | apply ak | apply ah | apply au) | exact HB.out)) hb);clear HB;have HB:=d9;clear d9;(try clear hb);(try clear hb2);(try clear hk);(try clear hi)) | ((with_reducible refine gJ (N:=12) rfl ?_);(try (refine jB (by rfl) ?_;dsimp only));refine fQ ?hg (N:=12) ?hd (cs:=#[.int .i64 0,.int .i64 0,.int .i64 0]) (t:=142) ?hr ?_;(case hd=>rfl);(case hg=>rfl);(case hr=>first | (go_simp;done) | (go_simp;rfl));intro dM hg w31 gW hb;have d9:=aj.mk (bE (by repeat (first | (with_reducible first | exact HB.out | apply ak | apply ah | apply au) | exact HB.out)) hb);have gZ:=aj.mk (gW);have jg:=aj.mk ((by rw [hg];exact (bL (by repeat (first | (with_reducible first | exact HB.out | apply ak | apply ah | apply au) | exact HB.out))):w.heap.size ≤ dM));have jN:=aj.mk ((by rw [hg];exact (bL (by repeat (first | (with_reducible first | exact HB.out | apply ak | apply ah | apply au) | exact HB.out))):w.heap.size ≤ dM));clear HB;have HB:=d9;have bT:=gZ;have Bo:=jg;have kS:=jN;clear d9 gZ jg jN;clear hb gW hg;have IL:w31.cell? ⟨dM,0,none⟩ = some (.int .i64 0):=(aM bT.out 0).trans rfl;have IQ:w31.cell? ⟨dM,1,none⟩ = some (.int .i64 0):=(aM bT.out 1).trans rfl;have IU:w31.cell? ⟨dM,2,none⟩ = some (.int .i64 0):=(aM bT.out 2).trans rfl;have IV:=ay bT.out 0;have IW:=ay bT.out 1;have IX:=ay bT.out 2))
        go_ret2
        exact ⟨by first | rfl | (simp [aJ,aK] <;> rfl) | (simp [*,aJ,aK] <;> rfl),by repeat (first | (with_reducible first | exact HB.out | apply ak | apply ah | apply au | refine aR ?_ kS.out) | exact HB.out)⟩
      · rw [if_neg Wq] at H
        have TJ:decide (a2 < t162) = false:=decide_eq_false Wq
        clear Wq
        by_cases Pw:0 ≤ t162
        · rw [if_pos Pw] at H
          have aaY:=eq_true Pw
          have aaZ:decide (0 ≤ t162) = true:=decide_eq_true Pw
          clear Pw
          by_cases c34:t162 ≤ (t160.size:Int)
          · rw [if_pos c34] at H
            have aa0:=eq_true c34
            have aa1:decide (t162 ≤ (t160.size:Int)) = true:=decide_eq_true c34
            clear c34
            have H':=aj.mk H
            clear H
            go_enter Try.func104,Try.ntmps104
            go_wp2_with (first | ((with_reducible refine aQ (f:=99) rfl ?_);refine bP (some 23) rfl rfl Try.func99 (by kernel_rfl) rfl #[.string a0,.int .i64 a1,.int .i64 a2] rfl (by (try simp only [List.map_toArray,List.map_cons,List.map_nil]);first | done | rfl | (simp only [List.length_drop,List.length_take];rfl) | (simp only [ByteArray.size_append,Int.natCast_add];rfl) | (rw [B.dP] <;> first | rfl | omega | (simp only [decide_eq_false_iff_not,decide_eq_true_eq,Int.not_lt,Nat.not_lt,gt_iff_lt] at * <;> omega))) ?_;(with_reducible refine (bC.calls a0 a1 a2 t160 true _ A5.out).mono ?_);rintro e w' ⟨rfl,⟨nd,rfl⟩⟩;refine ⟨_,rfl,?_⟩) | ((with_reducible refine aQ (f:=106) rfl ?_);refine bP (some 29) rfl rfl Try.func106 (by kernel_rfl) rfl #[.int .i64 a3] rfl (by (try simp only [List.map_toArray,List.map_cons,List.map_nil]);first | done | rfl | (simp only [List.length_drop,List.length_take];rfl) | (simp only [ByteArray.size_append,Int.natCast_add];rfl) | (rw [B.dP] <;> first | rfl | omega | (simp only [decide_eq_false_iff_not,decide_eq_true_eq,Int.not_lt,Nat.not_lt,gt_iff_lt] at * <;> omega))) ?_;(with_reducible refine (aH.calls k a3 t162 kL t164 _ A7.out).mono ?_);rintro e w35 ⟨rfl,hb⟩;refine ⟨_,rfl,?_⟩;have d9:=aj.mk (bE (by repeat (first | (with_reducible first | exact HB.out | apply ak | apply ah | apply au) | exact HB.out)) hb);clear HB;have HB:=d9;clear d9;(try clear hb);(try clear hb2);(try clear hk);(try clear hi)) | ((with_reducible refine gJ (N:=12) rfl ?_);(try (refine jB (by rfl) ?_;dsimp only));refine fQ ?hg (N:=12) ?hd (cs:=#[.int .i64 0,.int .i64 0,.int .i64 0]) (t:=142) ?hr ?_;(case hd=>rfl);(case hg=>rfl);(case hr=>first | (go_simp;done) | (go_simp;rfl));intro dM hg w36 gW hb;have d9:=aj.mk (bE (by repeat (first | (with_reducible first | exact HB.out | apply ak | apply ah | apply au) | exact HB.out)) hb);have gZ:=aj.mk (gW);have jg:=aj.mk ((by rw [hg];exact (bL (by repeat (first | (with_reducible first | exact HB.out | apply ak | apply ah | apply au) | exact HB.out))):w.heap.size ≤ dM));have jN:=aj.mk ((by rw [hg];exact (bL (by repeat (first | (with_reducible first | exact HB.out | apply ak | apply ah | apply au) | exact HB.out))):w.heap.size ≤ dM));clear HB;have HB:=d9;have bT:=gZ;have Bo:=jg;have kS:=jN;clear d9 gZ jg jN;clear hb gW hg;have RB:w36.cell? ⟨dM,0,none⟩ = some (.int .i64 0):=(aM bT.out 0).trans rfl;have RD:w36.cell? ⟨dM,1,none⟩ = some (.int .i64 0):=(aM bT.out 1).trans rfl;have RF:w36.cell? ⟨dM,2,none⟩ = some (.int .i64 0):=(aM bT.out 2).trans rfl;have RG:=ay bT.out 0;have RH:=ay bT.out 1;have RI:=ay bT.out 2))
            go_loopg [13,14,15] k (fun kq v13 v14 v15 w'=>∃ (dG:ByteArray) (bQ:Int) (wE:Int),v13 = .string dG ∧ v14 = .int .i64 bQ ∧ v15 = .int .i64 wE ∧ aj (aX.l0 kq a0 a1 a2 dG bQ wE t162 kL t164 = some (r1,r2)) ∧ aj (kq ≤ k) ∧ aj (w'.heap[dM]? = some (.cells #[.int .i64 t162,.int .i64 kL,.int .i64 t164] 142 (0,0))) ∧ aj (Below w.heap.size w w'))
            case atStart=>exact ⟨(t160.extract 0 (t162:Int).toNat),(wrap64 (a1 + t162)),(0),(by first | rfl | (simp;done) | (simp [*];done) | (simp [B.aV];done) | (simp [B.aW];done)),(by first | rfl | (simp;done) | (simp [*];done) | (simp [B.aV];done) | (simp [B.aW];done)),(by first | rfl | (simp;done) | (simp [*];done) | (simp [B.aV];done) | (simp [B.aW];done)),H',⟨Nat.le_refl _⟩,⟨by (with_reducible repeat (first | refine aG ?_ _ | refine aI ?_ | refine aA ?_ _));refine bU (cs:=#[.int .i64 t162,.int .i64 kL,.int .i64 0]) ?_ 2 _ rfl;(with_reducible repeat (first | refine aG ?_ _ | refine aI ?_ | refine aA ?_ _));refine bU (cs:=#[.int .i64 t162,.int .i64 0,.int .i64 0]) ?_ 1 _ rfl;(with_reducible repeat (first | refine aG ?_ _ | refine aI ?_ | refine aA ?_ _));refine bU (cs:=#[.int .i64 0,.int .i64 0,.int .i64 0]) ?_ 0 _ rfl;(with_reducible repeat (first | refine aG ?_ _ | refine aI ?_ | refine aA ?_ _));exact bT.out⟩,⟨by repeat (first | (with_reducible first | exact HB.out | apply ak | apply ah | apply au | refine aR ?_ kS.out) | exact HB.out)⟩⟩
            case round =>
              clear H'
              try clear c1
              try clear c2
              try clear p2
              try clear c3
              try clear c6
              try clear p6
              try clear c8
              try clear rZ
              try clear r9
              try clear Ns
              try clear c9
              try clear uG
              try clear ES
              try clear c10
              try clear c11
              try clear c12
              try clear uH
              try clear uI
              try clear FD
              try clear NW
              try clear NY
              try clear Wq
              try clear TJ
              try clear Pw
              try clear aaY
              try clear aaZ
              try clear c34
              try clear aa0
              try clear aa1
              try clear Dg
              try clear Dh
              try clear Di
              try clear IY
              try clear IZ
              try clear I4
              try clear Rc
              try clear Rf
              try clear Rh
              try clear Rm
              try clear Ro
              try clear Rp
              try clear Rv
              try clear Rw
              try clear Rx
              try clear IL
              try clear IQ
              try clear IU
              try clear RB
              try clear RD
              try clear RF
              try clear Dj
              try clear Dk
              try clear Dl
              try clear I5
              try clear I6
              try clear I7
              try clear Ri
              try clear Rj
              try clear Rk
              try clear Rq
              try clear Rt
              try clear Ru
              try clear Ry
              try clear Rz
              try clear RA
              try clear IV
              try clear IW
              try clear IX
              try clear RG
              try clear RH
              try clear RI
              obtain ⟨dG,bQ,wE,rfl,rfl,rfl,HA,uF,bT,HB⟩:=hrel
              cases gk with
              | zero=>exact absurd HA.out (by simp [aX.l0])
              | succ k1 =>
                have H:=HA.out
                clear HA
                simp only [aX.l0] at H
                by_cases Ej:wE < kL
                · rw [if_pos Ej] at H
                  have TH:decide (wE < kL) = true:=decide_eq_true Ej
                  clear Ej
                  replace H:=zbm H
                  obtain ⟨⟨t167,t168,Fa⟩,aa2,H⟩:=H
                  replace H:(if Fa = 0 then (if dG.size + t167.size ≤ 9223372036854775807 then (aX.l0 k1 a0 a1 a2 (dG ++ t167) t168 (wrap64 (wE + 1)) t162 kL t164) else (none)) else (some ((⟨#[]⟩:ByteArray),4))) = some (r1,r2):=H
                  have A39:=aj.mk aa2
                  clear aa2
                  by_cases c40:Fa = 0
                  · rw [if_pos c40] at H
                    have aa3:(Fa == 0) = true:=beq_iff_eq.mpr c40
                    have aa4:(Fa != 0) = false:=bne_eq_false_iff_eq.mpr c40
                    clear c40
                    by_cases KO:dG.size + t167.size ≤ 9223372036854775807
                    · rw [if_pos KO] at H
                      have ahw:=eq_true KO
                      have ahx:decide (dG.size + t167.size ≤ 9223372036854775807) = true:=decide_eq_true KO
                      try have ahy:(9223372036854775807 < dG.size + t167.size) = False:=eq_false (Nat.not_lt.2 KO)
                      have H':=aj.mk H
                      clear H
                      have Q0:wr.cell? ⟨dM,0,none⟩ = some (.int .i64 t162):=(aM bT.out 0).trans rfl
                      have Q5:wr.cell? ⟨dM,1,none⟩ = some (.int .i64 kL):=(aM bT.out 1).trans rfl
                      have Q6:wr.cell? ⟨dM,2,none⟩ = some (.int .i64 t164):=(aM bT.out 2).trans rfl
                      have Q7:=ay bT.out 0
                      have Q8:=ay bT.out 1
                      have Q9:=ay bT.out 2
                      go_wp2_with (first | ((with_reducible refine aQ (f:=118) rfl ?_);refine bP (some 67) rfl rfl Try.func118 (by kernel_rfl) rfl #[.string a0,.int .i64 bQ] rfl (by (try simp only [List.map_toArray,List.map_cons,List.map_nil]);first | done | rfl | (simp only [List.length_drop,List.length_take];rfl) | (simp only [ByteArray.size_append,Int.natCast_add];rfl) | (rw [B.dP] <;> first | rfl | omega | (simp only [decide_eq_false_iff_not,decide_eq_true_eq,Int.not_lt,Nat.not_lt,gt_iff_lt] at * <;> omega))) ?_;(with_reducible refine (aU.calls k1 a0 bQ t167 t168 Fa _ A39.out).mono ?_);rintro e w' ⟨rfl,⟨nd,rfl⟩⟩;refine ⟨_,rfl,?_⟩))
                      go_roundg k1
                      case measure=>have:=uF.out;omega
                      case rel=>exact ⟨(dG ++ t167),(t168),(wrap64 (wE + 1)),(by first | rfl | (simp;done) | (simp [*];done) | (simp [B.aV];done) | (simp [B.aW];done)),(by first | rfl | (simp;done) | (simp [*];done) | (simp [B.aV];done) | (simp [B.aW];done)),(by first | rfl | (simp;done) | (simp [*];done) | (simp [B.aV];done) | (simp [B.aW];done)),H',⟨by have:=uF.out;omega⟩,⟨by (with_reducible repeat (first | refine aG ?_ _ | refine aI ?_ | refine aA ?_ _));exact bT.out⟩,⟨by repeat (first | (with_reducible first | exact HB.out | apply ak | apply ah | apply au | refine aR ?_ kS.out) | exact HB.out)⟩⟩
                    · rw [if_neg KO] at H
                      exact absurd H (by simp)
                  · rw [if_neg c40] at H
                    have aa3:(Fa == 0) = false:=beq_eq_false_iff_ne.mpr c40
                    have aa4:(Fa != 0) = true:=bne_iff_ne.mpr c40
                    simp only [Option.some.injEq,Prod.mk.injEq] at H
                    obtain ⟨rfl,rfl⟩:=H
                    have adH:wr.cell? ⟨dM,0,none⟩ = some (.int .i64 t162):=(aM bT.out 0).trans rfl
                    have adI:wr.cell? ⟨dM,1,none⟩ = some (.int .i64 kL):=(aM bT.out 1).trans rfl
                    have adJ:wr.cell? ⟨dM,2,none⟩ = some (.int .i64 t164):=(aM bT.out 2).trans rfl
                    have adK:=ay bT.out 0
                    have adL:=ay bT.out 1
                    have adM:=ay bT.out 2
                    go_wp2_with (first | ((with_reducible refine aQ (f:=118) rfl ?_);refine bP (some 67) rfl rfl Try.func118 (by kernel_rfl) rfl #[.string a0,.int .i64 bQ] rfl (by (try simp only [List.map_toArray,List.map_cons,List.map_nil]);first | done | rfl | (simp only [List.length_drop,List.length_take];rfl) | (simp only [ByteArray.size_append,Int.natCast_add];rfl) | (rw [B.dP] <;> first | rfl | omega | (simp only [decide_eq_false_iff_not,decide_eq_true_eq,Int.not_lt,Nat.not_lt,gt_iff_lt] at * <;> omega))) ?_;(with_reducible refine (aU.calls k1 a0 bQ t167 t168 Fa _ A39.out).mono ?_);rintro e w' ⟨rfl,⟨nd,rfl⟩⟩;refine ⟨_,rfl,?_⟩))
                    go_ret2
                    exact ⟨by first | rfl | (simp [aJ,aK] <;> rfl) | (simp [*,aJ,aK] <;> rfl),by repeat (first | (with_reducible first | exact HB.out | apply ak | apply ah | apply au | refine aR ?_ kS.out) | exact HB.out)⟩
                · rw [if_neg Ej] at H
                  have TH:decide (wE < kL) = false:=decide_eq_false Ej
                  clear Ej
                  by_cases AA:(wrap64 (bQ + t164)) = (wrap64 (a1 + a2))
                  · rw [if_pos AA] at H
                    have aa5:((wrap64 (bQ + t164)) == (wrap64 (a1 + a2))) = true:=beq_iff_eq.mpr AA
                    have aa6:((wrap64 (bQ + t164)) != (wrap64 (a1 + a2))) = false:=bne_eq_false_iff_eq.mpr AA
                    (try (have aa7:(((bQ + t164)) == ((a1 + a2))) = true:=by have h_:((wrap64 (bQ + t164)) == (wrap64 (a1 + a2))) = true:=beq_iff_eq.mpr AA;rw [B.dP (by omega) (by omega)] at h_;rw [B.dP (by omega) (by omega)] at h_;exact h_))
                    (try (have aa8:(((bQ + t164)) != ((a1 + a2))) = false:=by have h_:((wrap64 (bQ + t164)) != (wrap64 (a1 + a2))) = false:=bne_eq_false_iff_eq.mpr AA;rw [B.dP (by omega) (by omega)] at h_;rw [B.dP (by omega) (by omega)] at h_;exact h_))
                    clear AA
                    by_cases Ta:0 ≤ bQ
                    · rw [if_pos Ta] at H
                      have ahz:=eq_true Ta
                      have ahA:decide (0 ≤ bQ) = true:=decide_eq_true Ta
                      clear Ta
                      by_cases c46:bQ ≤ (wrap64 (a1 + a2))
                      · rw [if_pos c46] at H
                        have ahB:=eq_true c46
                        have ahC:decide (bQ ≤ (wrap64 (a1 + a2))) = true:=decide_eq_true c46
                        by_cases Pz:(wrap64 (a1 + a2)) ≤ (a0.size:Int)
                        · rw [if_pos Pz] at H
                          have ahD:=eq_true Pz
                          have ahE:decide ((wrap64 (a1 + a2)) ≤ (a0.size:Int)) = true:=decide_eq_true Pz
                          by_cases Oq:dG.size + (a0.extract (bQ:Int).toNat ((wrap64 (a1 + a2)):Int).toNat).size ≤ 9223372036854775807
                          · rw [if_pos Oq] at H
                            have ahF:=eq_true Oq
                            have ahG:decide (dG.size + (a0.extract (bQ:Int).toNat ((wrap64 (a1 + a2)):Int).toNat).size ≤ 9223372036854775807) = true:=decide_eq_true Oq
                            try have ahH:(9223372036854775807 < dG.size + (a0.extract (bQ:Int).toNat ((wrap64 (a1 + a2)):Int).toNat).size) = False:=eq_false (Nat.not_lt.2 Oq)
                            by_cases c49:((dG ++ (a0.extract (bQ:Int).toNat ((wrap64 (a1 + a2)):Int).toNat)).size:Int) > 65535
                            · rw [if_pos c49] at H
                              have aa9:decide (65535 < ((dG ++ (a0.extract (bQ:Int).toNat ((wrap64 (a1 + a2)):Int).toNat)).size:Int)) = true:=decide_eq_true c49
                              have abb:decide (65535 < (dG ++ (a0.extract (bQ:Int).toNat ((wrap64 (a1 + a2)):Int).toNat)).size) = true:=decide_eq_true (by omega)
                              (try (have abd:decide (65535 < ((dG.size:Int) + ((a0.extract (bQ:Int).toNat ((wrap64 (a1 + a2)):Int).toNat).size:Int))) = true:=by have h_:decide (65535 < ((dG ++ (a0.extract (bQ:Int).toNat ((wrap64 (a1 + a2)):Int).toNat)).size:Int)) = true:=decide_eq_true c49;rw [show ((dG ++ (a0.extract (bQ:Int).toNat ((wrap64 (a1 + a2)):Int).toNat)).size:Int) = ((dG.size:Int) + ((a0.extract (bQ:Int).toNat ((wrap64 (a1 + a2)):Int).toNat).size:Int)) from by (simp only [ByteArray.size_append,Int.natCast_add];first | done | rfl)] at h_;(first | exact h_ | (simp only [Int.add_sub_cancel] at h_;exact h_))))
                              (try (have abe:decide (65535 < ((dG.size:Int) + ((((wrap64 (a1 + a2)):Int).toNat - (bQ:Int).toNat:Nat):Int))) = true:=by have h_:decide (65535 < ((dG ++ (a0.extract (bQ:Int).toNat ((wrap64 (a1 + a2)):Int).toNat)).size:Int)) = true:=decide_eq_true c49;rw [show ((dG ++ (a0.extract (bQ:Int).toNat ((wrap64 (a1 + a2)):Int).toNat)).size:Int) = ((dG.size:Int) + ((a0.extract (bQ:Int).toNat ((wrap64 (a1 + a2)):Int).toNat).size:Int)) from by (simp only [ByteArray.size_append,Int.natCast_add];first | done | rfl)] at h_;rw [show ((a0.extract (bQ:Int).toNat ((wrap64 (a1 + a2)):Int).toNat).size:Int) = ((((wrap64 (a1 + a2)):Int).toNat - (bQ:Int).toNat:Nat):Int) from by (have h1_:(wrap64 (a1 + a2)) ≤ (a0.size:Int):=of_decide_eq_true (by assumption);rw [ByteArray.size_extract];omega)] at h_;exact h_))
                              (try (have abf:decide (65535 < ((dG ++ (a0.extract (bQ:Int).toNat (((a1 + a2)):Int).toNat)).size:Int)) = true:=by have h_:decide (65535 < ((dG ++ (a0.extract (bQ:Int).toNat ((wrap64 (a1 + a2)):Int).toNat)).size:Int)) = true:=decide_eq_true c49;rw [B.dP (by omega) (by omega)] at h_;exact h_))
                              (try (have abg:decide (65535 < (dG ++ (a0.extract (bQ:Int).toNat (((a1 + a2)):Int).toNat)).size) = true:=by have h_:decide (65535 < (dG ++ (a0.extract (bQ:Int).toNat ((wrap64 (a1 + a2)):Int).toNat)).size) = true:=decide_eq_true (by omega);rw [B.dP (by omega) (by omega)] at h_;exact h_))
                              (try (have abh:decide (65535 < ((dG.size:Int) + ((a0.extract (bQ:Int).toNat (((a1 + a2)):Int).toNat).size:Int))) = true:=by have h_:decide (65535 < ((dG.size:Int) + ((a0.extract (bQ:Int).toNat ((wrap64 (a1 + a2)):Int).toNat).size:Int))) = true:=by have h_:decide (65535 < ((dG ++ (a0.extract (bQ:Int).toNat ((wrap64 (a1 + a2)):Int).toNat)).size:Int)) = true:=decide_eq_true c49;rw [show ((dG ++ (a0.extract (bQ:Int).toNat ((wrap64 (a1 + a2)):Int).toNat)).size:Int) = ((dG.size:Int) + ((a0.extract (bQ:Int).toNat ((wrap64 (a1 + a2)):Int).toNat).size:Int)) from by (simp only [ByteArray.size_append,Int.natCast_add];first | done | rfl)] at h_;(first | exact h_ | (simp only [Int.add_sub_cancel] at h_;exact h_));rw [B.dP (by omega) (by omega)] at h_;exact h_))
                              (try (have abj:decide (65535 < ((dG.size:Int) + (((((a1 + a2)):Int).toNat - (bQ:Int).toNat:Nat):Int))) = true:=by have h_:decide (65535 < ((dG.size:Int) + ((((wrap64 (a1 + a2)):Int).toNat - (bQ:Int).toNat:Nat):Int))) = true:=by have h_:decide (65535 < ((dG ++ (a0.extract (bQ:Int).toNat ((wrap64 (a1 + a2)):Int).toNat)).size:Int)) = true:=decide_eq_true c49;rw [show ((dG ++ (a0.extract (bQ:Int).toNat ((wrap64 (a1 + a2)):Int).toNat)).size:Int) = ((dG.size:Int) + ((a0.extract (bQ:Int).toNat ((wrap64 (a1 + a2)):Int).toNat).size:Int)) from by (simp only [ByteArray.size_append,Int.natCast_add];first | done | rfl)] at h_;rw [show ((a0.extract (bQ:Int).toNat ((wrap64 (a1 + a2)):Int).toNat).size:Int) = ((((wrap64 (a1 + a2)):Int).toNat - (bQ:Int).toNat:Nat):Int) from by (have h1_:(wrap64 (a1 + a2)) ≤ (a0.size:Int):=of_decide_eq_true (by assumption);rw [ByteArray.size_extract];omega)] at h_;exact h_;rw [B.dP (by omega) (by omega)] at h_;exact h_))
                              clear c49
                              simp only [Option.some.injEq,Prod.mk.injEq] at H
                              obtain ⟨rfl,rfl⟩:=H
                              have adN:wr.cell? ⟨dM,0,none⟩ = some (.int .i64 t162):=(aM bT.out 0).trans rfl
                              have adO:wr.cell? ⟨dM,1,none⟩ = some (.int .i64 kL):=(aM bT.out 1).trans rfl
                              have adP:wr.cell? ⟨dM,2,none⟩ = some (.int .i64 t164):=(aM bT.out 2).trans rfl
                              have adQ:=ay bT.out 0
                              have adR:=ay bT.out 1
                              have adS:=ay bT.out 2
                              go_wp2
                              go_ret2
                              exact ⟨by first | rfl | (simp [aJ,aK] <;> rfl) | (simp [*,aJ,aK] <;> rfl),by repeat (first | (with_reducible first | exact HB.out | apply ak | apply ah | apply au | refine aR ?_ kS.out) | exact HB.out)⟩
                            · rw [if_neg c49] at H
                              have aa9:decide (65535 < ((dG ++ (a0.extract (bQ:Int).toNat ((wrap64 (a1 + a2)):Int).toNat)).size:Int)) = false:=decide_eq_false c49
                              have abb:decide (65535 < (dG ++ (a0.extract (bQ:Int).toNat ((wrap64 (a1 + a2)):Int).toNat)).size) = false:=decide_eq_false (by omega)
                              (try (have abd:decide (65535 < ((dG.size:Int) + ((a0.extract (bQ:Int).toNat ((wrap64 (a1 + a2)):Int).toNat).size:Int))) = false:=by have h_:decide (65535 < ((dG ++ (a0.extract (bQ:Int).toNat ((wrap64 (a1 + a2)):Int).toNat)).size:Int)) = false:=decide_eq_false c49;rw [show ((dG ++ (a0.extract (bQ:Int).toNat ((wrap64 (a1 + a2)):Int).toNat)).size:Int) = ((dG.size:Int) + ((a0.extract (bQ:Int).toNat ((wrap64 (a1 + a2)):Int).toNat).size:Int)) from by (simp only [ByteArray.size_append,Int.natCast_add];first | done | rfl)] at h_;(first | exact h_ | (simp only [Int.add_sub_cancel] at h_;exact h_))))
                              (try (have abe:decide (65535 < ((dG.size:Int) + ((((wrap64 (a1 + a2)):Int).toNat - (bQ:Int).toNat:Nat):Int))) = false:=by have h_:decide (65535 < ((dG ++ (a0.extract (bQ:Int).toNat ((wrap64 (a1 + a2)):Int).toNat)).size:Int)) = false:=decide_eq_false c49;rw [show ((dG ++ (a0.extract (bQ:Int).toNat ((wrap64 (a1 + a2)):Int).toNat)).size:Int) = ((dG.size:Int) + ((a0.extract (bQ:Int).toNat ((wrap64 (a1 + a2)):Int).toNat).size:Int)) from by (simp only [ByteArray.size_append,Int.natCast_add];first | done | rfl)] at h_;rw [show ((a0.extract (bQ:Int).toNat ((wrap64 (a1 + a2)):Int).toNat).size:Int) = ((((wrap64 (a1 + a2)):Int).toNat - (bQ:Int).toNat:Nat):Int) from by (have h1_:(wrap64 (a1 + a2)) ≤ (a0.size:Int):=of_decide_eq_true (by assumption);rw [ByteArray.size_extract];omega)] at h_;exact h_))
                              (try (have abf:decide (65535 < ((dG ++ (a0.extract (bQ:Int).toNat (((a1 + a2)):Int).toNat)).size:Int)) = false:=by have h_:decide (65535 < ((dG ++ (a0.extract (bQ:Int).toNat ((wrap64 (a1 + a2)):Int).toNat)).size:Int)) = false:=decide_eq_false c49;rw [B.dP (by omega) (by omega)] at h_;exact h_))
                              (try (have abg:decide (65535 < (dG ++ (a0.extract (bQ:Int).toNat (((a1 + a2)):Int).toNat)).size) = false:=by have h_:decide (65535 < (dG ++ (a0.extract (bQ:Int).toNat ((wrap64 (a1 + a2)):Int).toNat)).size) = false:=decide_eq_false (by omega);rw [B.dP (by omega) (by omega)] at h_;exact h_))
                              (try (have abh:decide (65535 < ((dG.size:Int) + ((a0.extract (bQ:Int).toNat (((a1 + a2)):Int).toNat).size:Int))) = false:=by have h_:decide (65535 < ((dG.size:Int) + ((a0.extract (bQ:Int).toNat ((wrap64 (a1 + a2)):Int).toNat).size:Int))) = false:=by have h_:decide (65535 < ((dG ++ (a0.extract (bQ:Int).toNat ((wrap64 (a1 + a2)):Int).toNat)).size:Int)) = false:=decide_eq_false c49;rw [show ((dG ++ (a0.extract (bQ:Int).toNat ((wrap64 (a1 + a2)):Int).toNat)).size:Int) = ((dG.size:Int) + ((a0.extract (bQ:Int).toNat ((wrap64 (a1 + a2)):Int).toNat).size:Int)) from by (simp only [ByteArray.size_append,Int.natCast_add];first | done | rfl)] at h_;(first | exact h_ | (simp only [Int.add_sub_cancel] at h_;exact h_));rw [B.dP (by omega) (by omega)] at h_;exact h_))
                              (try (have abj:decide (65535 < ((dG.size:Int) + (((((a1 + a2)):Int).toNat - (bQ:Int).toNat:Nat):Int))) = false:=by have h_:decide (65535 < ((dG.size:Int) + ((((wrap64 (a1 + a2)):Int).toNat - (bQ:Int).toNat:Nat):Int))) = false:=by have h_:decide (65535 < ((dG ++ (a0.extract (bQ:Int).toNat ((wrap64 (a1 + a2)):Int).toNat)).size:Int)) = false:=decide_eq_false c49;rw [show ((dG ++ (a0.extract (bQ:Int).toNat ((wrap64 (a1 + a2)):Int).toNat)).size:Int) = ((dG.size:Int) + ((a0.extract (bQ:Int).toNat ((wrap64 (a1 + a2)):Int).toNat).size:Int)) from by (simp only [ByteArray.size_append,Int.natCast_add];first | done | rfl)] at h_;rw [show ((a0.extract (bQ:Int).toNat ((wrap64 (a1 + a2)):Int).toNat).size:Int) = ((((wrap64 (a1 + a2)):Int).toNat - (bQ:Int).toNat:Nat):Int) from by (have h1_:(wrap64 (a1 + a2)) ≤ (a0.size:Int):=of_decide_eq_true (by assumption);rw [ByteArray.size_extract];omega)] at h_;exact h_;rw [B.dP (by omega) (by omega)] at h_;exact h_))
                              clear c49
                              simp only [Option.some.injEq,Prod.mk.injEq] at H
                              obtain ⟨rfl,rfl⟩:=H
                              have adT:wr.cell? ⟨dM,0,none⟩ = some (.int .i64 t162):=(aM bT.out 0).trans rfl
                              have adU:wr.cell? ⟨dM,1,none⟩ = some (.int .i64 kL):=(aM bT.out 1).trans rfl
                              have adV:wr.cell? ⟨dM,2,none⟩ = some (.int .i64 t164):=(aM bT.out 2).trans rfl
                              have adW:=ay bT.out 0
                              have adX:=ay bT.out 1
                              have adY:=ay bT.out 2
                              go_wp2
                              go_ret2
                              exact ⟨by first | rfl | (simp [aJ,aK] <;> rfl) | (simp [*,aJ,aK] <;> rfl),by repeat (first | (with_reducible first | exact HB.out | apply ak | apply ah | apply au | refine aR ?_ kS.out) | exact HB.out)⟩
                          · rw [if_neg Oq] at H
                            exact absurd H (by simp)
                        · rw [if_neg Pz] at H
                          exact absurd H (by simp)
                      · rw [if_neg c46] at H
                        exact absurd H (by simp)
                    · rw [if_neg Ta] at H
                      exact absurd H (by simp)
                  · rw [if_neg AA] at H
                    have aa5:((wrap64 (bQ + t164)) == (wrap64 (a1 + a2))) = false:=beq_eq_false_iff_ne.mpr AA
                    have aa6:((wrap64 (bQ + t164)) != (wrap64 (a1 + a2))) = true:=bne_iff_ne.mpr AA
                    (try (have aa7:(((bQ + t164)) == ((a1 + a2))) = false:=by have h_:((wrap64 (bQ + t164)) == (wrap64 (a1 + a2))) = false:=beq_eq_false_iff_ne.mpr AA;rw [B.dP (by omega) (by omega)] at h_;rw [B.dP (by omega) (by omega)] at h_;exact h_))
                    (try (have aa8:(((bQ + t164)) != ((a1 + a2))) = true:=by have h_:((wrap64 (bQ + t164)) != (wrap64 (a1 + a2))) = true:=bne_iff_ne.mpr AA;rw [B.dP (by omega) (by omega)] at h_;rw [B.dP (by omega) (by omega)] at h_;exact h_))
                    simp only [Option.some.injEq,Prod.mk.injEq] at H
                    obtain ⟨rfl,rfl⟩:=H
                    have adZ:wr.cell? ⟨dM,0,none⟩ = some (.int .i64 t162):=(aM bT.out 0).trans rfl
                    have ad1:wr.cell? ⟨dM,1,none⟩ = some (.int .i64 kL):=(aM bT.out 1).trans rfl
                    have ad2:wr.cell? ⟨dM,2,none⟩ = some (.int .i64 t164):=(aM bT.out 2).trans rfl
                    have ad3:=ay bT.out 0
                    have ad4:=ay bT.out 1
                    have ad5:=ay bT.out 2
                    go_wp2
                    go_ret2
                    exact ⟨by first | rfl | (simp [aJ,aK] <;> rfl) | (simp [*,aJ,aK] <;> rfl),by repeat (first | (with_reducible first | exact HB.out | apply ak | apply ah | apply au | refine aR ?_ kS.out) | exact HB.out)⟩
          · rw [if_neg c34] at H
            exact absurd H (by simp)
        · rw [if_neg Pw] at H
          exact absurd H (by simp)
  · replace c6:=Bool.eq_false_iff.mpr c6
    subst c6
    have H1:(some ((⟨#[]⟩:ByteArray),2)) = some (r1,r2):=by rw [if_neg (show ¬ (false = true) by decide)] at H;exact H
    clear H
    have H:=H1
    clear H1
    simp only [Option.some.injEq,Prod.mk.injEq] at H
    obtain ⟨rfl,rfl⟩:=H
    go_enter Try.func104,Try.ntmps104
    go_wp2_with (first | ((with_reducible refine aQ (f:=99) rfl ?_);refine bP (some 23) rfl rfl Try.func99 (by kernel_rfl) rfl #[.string a0,.int .i64 a1,.int .i64 a2] rfl (by (try simp only [List.map_toArray,List.map_cons,List.map_nil]);first | done | rfl | (simp only [List.length_drop,List.length_take];rfl) | (simp only [ByteArray.size_append,Int.natCast_add];rfl) | (rw [B.dP] <;> first | rfl | omega | (simp only [decide_eq_false_iff_not,decide_eq_true_eq,Int.not_lt,Nat.not_lt,gt_iff_lt] at * <;> omega))) ?_;(with_reducible refine (bC.calls a0 a1 a2 t160 false _ A5.out).mono ?_);rintro e w' ⟨rfl,⟨nd,rfl⟩⟩;refine ⟨_,rfl,?_⟩))
    go_ret2
    exact ⟨by first | rfl | (simp [aJ,aK] <;> rfl) | (simp [*,aJ,aK] <;> rfl),by repeat (first | (with_reducible first | exact HB.out | apply ak | apply ah | apply au) | exact HB.out)⟩
def bR.f (k:Nat) (a0:Int) (a1:ByteArray):Option (Bool):=if (a1.size:Int) > 65535 then (some false) else ((aX.f k a1 0 (a1.size:Int) a0).bind fun Fb=>(if Fb.2 = 0 then (some (Fb.1.toList == a1.toList)) else (some false)))
set_option maxHeartbeats 8000000 in
set_option maxRecDepth 100000 in
theorem bR.calls (k:Nat) (a0:Int) (a1:ByteArray) (r:Bool) (w:World) (h:bR.f k a0 a1 = some r) :
    Calls Try.prog 83 #[.int .i64 a0,.string a1] w fun e w'=>e = .returned (.bool r) ∧ Below w.heap.size w w':=by
  have HB:=aj.mk (Below.refl w.heap.size w)
  have H:(if (a1.size:Int) > 65535 then (some false) else ((aX.f k a1 0 (a1.size:Int) a0).bind fun Fb=>(if Fb.2 = 0 then (some (Fb.1.toList == a1.toList)) else (some false)))) = some r:=h
  clear h
  by_cases c3:(a1.size:Int) > 65535
  · rw [if_pos c3] at H
    have qP:decide (65535 < (a1.size:Int)) = true:=decide_eq_true c3
    have CU:decide (65535 < a1.size) = true:=decide_eq_true (by omega)
    clear c3
    obtain rfl:=Option.some.inj H
    go_enter Try.func83,Try.ntmps83
    go_wp2
    go_ret
    exact ⟨by first | rfl | (simp [aJ,aK] <;> rfl) | (simp [*,aJ,aK] <;> rfl),by repeat (first | (with_reducible first | exact HB.out | apply ak | apply ah | apply au) | exact HB.out)⟩
  · rw [if_neg c3] at H
    have qP:decide (65535 < (a1.size:Int)) = false:=decide_eq_false c3
    have CU:decide (65535 < a1.size) = false:=decide_eq_false (by omega)
    clear c3
    replace H:=zbm H
    obtain ⟨⟨Ws,t171⟩,ET,H⟩:=H
    replace H:(if t171 = 0 then (some (Ws.toList == a1.toList)) else (some false)) = some r:=H
    have A4:=aj.mk ET
    clear ET
    by_cases c5:t171 = 0
    · rw [if_pos c5] at H
      have pV:(t171 == 0) = true:=beq_iff_eq.mpr c5
      have vM:(t171 != 0) = false:=bne_eq_false_iff_eq.mpr c5
      clear c5
      obtain rfl:=Option.some.inj H
      go_enter Try.func83,Try.ntmps83
      go_wp2_with (first | ((with_reducible refine aQ (f:=104) rfl ?_);refine bP (some 15) rfl rfl Try.func104 (by kernel_rfl) rfl #[.string a1,.int .i64 0,.int .i64 (a1.size:Int),.int .i64 a0] rfl (by (try simp only [List.map_toArray,List.map_cons,List.map_nil]);first | done | rfl | (simp only [List.length_drop,List.length_take];rfl) | (simp only [ByteArray.size_append,Int.natCast_add];rfl) | (rw [B.dP] <;> first | rfl | omega | (simp only [decide_eq_false_iff_not,decide_eq_true_eq,Int.not_lt,Nat.not_lt,gt_iff_lt] at * <;> omega))) ?_;(with_reducible refine (aX.calls k a1 0 (a1.size:Int) a0 Ws t171 _ A4.out).mono ?_);rintro e w6 ⟨rfl,hb⟩;refine ⟨_,rfl,?_⟩;have d9:=aj.mk (bE (by repeat (first | (with_reducible first | exact HB.out | apply ak | apply ah | apply au) | exact HB.out)) hb);clear HB;have HB:=d9;clear d9;(try clear hb);(try clear hb2);(try clear hk);(try clear hi)))
      go_ret
      exact ⟨by first | rfl | (simp [aJ,aK] <;> rfl) | (simp [*,aJ,aK] <;> rfl),by repeat (first | (with_reducible first | exact HB.out | apply ak | apply ah | apply au) | exact HB.out)⟩
    · rw [if_neg c5] at H
      have pV:(t171 == 0) = false:=beq_eq_false_iff_ne.mpr c5
      have vM:(t171 != 0) = true:=bne_iff_ne.mpr c5
      obtain rfl:=Option.some.inj H
      go_enter Try.func83,Try.ntmps83
      go_wp2_with (first | ((with_reducible refine aQ (f:=104) rfl ?_);refine bP (some 15) rfl rfl Try.func104 (by kernel_rfl) rfl #[.string a1,.int .i64 0,.int .i64 (a1.size:Int),.int .i64 a0] rfl (by (try simp only [List.map_toArray,List.map_cons,List.map_nil]);first | done | rfl | (simp only [List.length_drop,List.length_take];rfl) | (simp only [ByteArray.size_append,Int.natCast_add];rfl) | (rw [B.dP] <;> first | rfl | omega | (simp only [decide_eq_false_iff_not,decide_eq_true_eq,Int.not_lt,Nat.not_lt,gt_iff_lt] at * <;> omega))) ?_;(with_reducible refine (aX.calls k a1 0 (a1.size:Int) a0 Ws t171 _ A4.out).mono ?_);rintro e w7 ⟨rfl,hb⟩;refine ⟨_,rfl,?_⟩;have d9:=aj.mk (bE (by repeat (first | (with_reducible first | exact HB.out | apply ak | apply ah | apply au) | exact HB.out)) hb);clear HB;have HB:=d9;clear d9;(try clear hb);(try clear hb2);(try clear hk);(try clear hi)))
      go_ret
      exact ⟨by first | rfl | (simp [aJ,aK] <;> rfl) | (simp [*,aJ,aK] <;> rfl),by repeat (first | (with_reducible first | exact HB.out | apply ak | apply ah | apply au) | exact HB.out)⟩
def bg.l0 : Nat → ByteArray → List ByteArray → Int → Int → Int → Int → Int → Option (List ByteArray)
  | 0,_,_,_,_,_,_,_=>none
  | k + 1,x1,x5,x7,x8,RJ,Jb,RL=>if x8 < Jb then ((aU.f k x1 x7).bind fun TK=>(if x5.length < 8796093022208 then (bg.l0 k x1 (x5 ++ [TK.1]) TK.2.1 (wrap64 (x8 + 1)) RJ Jb RL) else (none))) else (some x5)
def bg.f (k:Nat) (a0:Int) (a1:ByteArray):Option (List ByteArray):=(bR.f k a0 a1).bind fun Kr=>(if Kr = true then ((aH.f k a0).bind fun kM=>(bg.l0 k a1 ([]:List ByteArray) kM.1 0 kM.1 kM.2.1 kM.2.2)) else (some ([]:List ByteArray)))
set_option maxHeartbeats 8000000 in
set_option maxRecDepth 100000 in
theorem bg.calls (k:Nat) (a0:Int) (a1:ByteArray) (r:List ByteArray) (w:World) (h:bg.f k a0 a1 = some r) :
    Calls Try.prog 105 #[.int .i64 a0,.string a1] w fun e w'=>∃ Tt:Value,e = .returned (Tt) ∧ Kd.R Kd.string 9 w' w.heap.size (fun _=>True) Tt r ∧ Below w.heap.size w w':=by
  have NP:=Try.underlying142
  have HB:=aj.mk (Below.refl w.heap.size w)
  have H:((bR.f k a0 a1).bind fun Kr=>(if Kr = true then ((aH.f k a0).bind fun kM=>(bg.l0 k a1 ([]:List ByteArray) kM.1 0 kM.1 kM.2.1 kM.2.2)) else (some ([]:List ByteArray)))) = some r:=h
  clear h
  replace H:=zbm H
  obtain ⟨Kr,Tz,H⟩:=H
  replace H:(if Kr = true then ((aH.f k a0).bind fun kM=>(bg.l0 k a1 ([]:List ByteArray) kM.1 0 kM.1 kM.2.1 kM.2.2)) else (some ([]:List ByteArray))) = some r:=H
  have A3:=aj.mk Tz
  clear Tz
  by_cases c4:Kr = true
  · subst c4
    have H1:((aH.f k a0).bind fun kM=>(bg.l0 k a1 ([]:List ByteArray) kM.1 0 kM.1 kM.2.1 kM.2.2)) = some r:=by rw [if_pos rfl] at H;exact H
    clear H
    have H:=H1
    clear H1
    replace H:=zbm H
    obtain ⟨⟨t173,vN,t175⟩,TI,H⟩:=H
    replace H:(bg.l0 k a1 ([]:List ByteArray) t173 0 t173 vN t175) = some r:=H
    have A5:=aj.mk TI
    clear TI
    have H':=aj.mk H
    clear H
    go_enter Try.func105,Try.ntmps105
    go_wp2_with (first | ((with_reducible refine aQ (f:=83) rfl ?_);refine bP (some 14) rfl rfl Try.func83 (by kernel_rfl) rfl #[.int .i64 a0,.string a1] rfl (by (try simp only [List.map_toArray,List.map_cons,List.map_nil]);first | done | rfl | (simp only [List.length_drop,List.length_take];rfl) | (simp only [ByteArray.size_append,Int.natCast_add];rfl) | (rw [B.dP] <;> first | rfl | omega | (simp only [decide_eq_false_iff_not,decide_eq_true_eq,Int.not_lt,Nat.not_lt,gt_iff_lt] at * <;> omega))) ?_;(with_reducible refine (bR.calls k a0 a1 true _ A3.out).mono ?_);rintro e w6 ⟨rfl,hb⟩;refine ⟨_,rfl,?_⟩;have d9:=aj.mk (bE (by repeat (first | (with_reducible first | exact HB.out | apply ak | apply ah | apply au) | exact HB.out)) hb);clear HB;have HB:=d9;clear d9;(try clear hb);(try clear hb2);(try clear hk);(try clear hi)) | ((with_reducible refine aQ (f:=106) rfl ?_);refine bP (some 17) rfl rfl Try.func106 (by kernel_rfl) rfl #[.int .i64 a0] rfl (by (try simp only [List.map_toArray,List.map_cons,List.map_nil]);first | done | rfl | (simp only [List.length_drop,List.length_take];rfl) | (simp only [ByteArray.size_append,Int.natCast_add];rfl) | (rw [B.dP] <;> first | rfl | omega | (simp only [decide_eq_false_iff_not,decide_eq_true_eq,Int.not_lt,Nat.not_lt,gt_iff_lt] at * <;> omega))) ?_;(with_reducible refine (aH.calls k a0 t173 vN t175 _ A5.out).mono ?_);rintro e w7 ⟨rfl,hb⟩;refine ⟨_,rfl,?_⟩;have d9:=aj.mk (bE (by repeat (first | (with_reducible first | exact HB.out | apply ak | apply ah | apply au) | exact HB.out)) hb);clear HB;have HB:=d9;clear d9;(try clear hb);(try clear hb2);(try clear hk);(try clear hi)) | ((with_reducible refine gJ (N:=6) rfl ?_);refine fQ ?hg (N:=6) ?hd (cs:=#[.int .i64 0,.int .i64 0,.int .i64 0]) (t:=142) ?hr ?_;(case hd=>rfl);(case hg=>rfl);(case hr=>first | (go_simp;done) | (go_simp;rfl));intro nP hg w8 gW hb;have d9:=aj.mk (bE (by repeat (first | (with_reducible first | exact HB.out | apply ak | apply ah | apply au) | exact HB.out)) hb);have gZ:=aj.mk (gW);have jg:=aj.mk ((by rw [hg];exact (bL (by repeat (first | (with_reducible first | exact HB.out | apply ak | apply ah | apply au) | exact HB.out))):w.heap.size ≤ nP));have jN:=aj.mk ((by rw [hg];exact (bL (by repeat (first | (with_reducible first | exact HB.out | apply ak | apply ah | apply au) | exact HB.out))):w.heap.size ≤ nP));clear HB;have HB:=d9;have iY:=gZ;have ahI:=jg;have Fe:=jN;clear d9 gZ jg jN;clear hb gW hg;have NQ:w8.cell? ⟨nP,0,none⟩ = some (.int .i64 0):=(aM iY.out 0).trans rfl;have NR:w8.cell? ⟨nP,1,none⟩ = some (.int .i64 0):=(aM iY.out 1).trans rfl;have NS:w8.cell? ⟨nP,2,none⟩ = some (.int .i64 0):=(aM iY.out 2).trans rfl;have NT:=ay iY.out 0;have NU:=ay iY.out 1;have NV:=ay iY.out 2))
    go_loopg [5,7,8] k (fun kq v5 v7 v8 w'=>∃ (Fg:List ByteArray) (dJ:Int) (gK:Int),v7 = .int .i64 dJ ∧ v8 = .int .i64 gK ∧ aj (bg.l0 kq a1 Fg dJ gK t173 vN t175 = some r) ∧ aj (kq ≤ k) ∧ aj (Kd.R Kd.string 9 w' w.heap.size (fun _=>True) v5 Fg) ∧ aj (w'.heap[nP]? = some (.cells #[.int .i64 t173,.int .i64 vN,.int .i64 t175] 142 (0,0))) ∧ aj (Below w.heap.size w w'))
    case atStart=>exact ⟨(([]:List ByteArray)),(t173),(0),(by first | rfl | (simp;done) | (simp [*];done) | (simp [B.aV];done) | (simp [B.aW];done)),(by first | rfl | (simp;done) | (simp [*];done) | (simp [B.aV];done) | (simp [B.aW];done)),H',⟨Nat.le_refl _⟩,⟨by first | exact Kd.jF _ _ _ _ _ | exact Kd.lD _ _ _ _ _ | exact Kd.lF _ _ _ _ _ | exact Kd.lu _ _ _ _ _ | exact Kd.lC _ _ _ _ _⟩,⟨by (with_reducible repeat (first | refine aG ?_ _ | refine aI ?_ | refine aA ?_ _));refine bU (cs:=#[.int .i64 t173,.int .i64 vN,.int .i64 0]) ?_ 2 _ rfl;(with_reducible repeat (first | refine aG ?_ _ | refine aI ?_ | refine aA ?_ _));refine bU (cs:=#[.int .i64 t173,.int .i64 0,.int .i64 0]) ?_ 1 _ rfl;(with_reducible repeat (first | refine aG ?_ _ | refine aI ?_ | refine aA ?_ _));refine bU (cs:=#[.int .i64 0,.int .i64 0,.int .i64 0]) ?_ 0 _ rfl;(with_reducible repeat (first | refine aG ?_ _ | refine aI ?_ | refine aA ?_ _));exact iY.out⟩,⟨by repeat (first | (with_reducible first | exact HB.out | apply ak | apply ah | apply au | refine aR ?_ Fe.out) | exact HB.out)⟩⟩
    case round =>
      clear H'
      try clear c1
      try clear p2
      try clear c4
      try clear c8
      try clear NQ
      try clear NR
      try clear NS
      try clear NT
      try clear NU
      try clear NV
      obtain ⟨Fg,dJ,gK,rfl,rfl,HA,uF,vO,iY,HB⟩:=hrel
      cases gk with
      | zero=>exact absurd HA.out (by simp [bg.l0])
      | succ k1 =>
        have H:=HA.out
        clear HA
        simp only [bg.l0] at H
        by_cases c10:gK < vN
        · rw [if_pos c10] at H
          have rz:decide (gK < vN) = true:=decide_eq_true c10
          clear c10
          replace H:=zbm H
          obtain ⟨⟨NZ,RN,afH⟩,abk,H⟩:=H
          replace H:(if Fg.length < 8796093022208 then (bg.l0 k1 a1 (Fg ++ [NZ]) RN (wrap64 (gK + 1)) t173 vN t175) else (none)) = some r:=H
          have A11:=aj.mk abk
          clear abk
          by_cases c12:Fg.length < 8796093022208
          · rw [if_pos c12] at H
            have abl:=aj.mk c12
            clear c12
            obtain ⟨abm,Fh⟩:∃ y_:List ByteArray,y_ = (Fg ++ [NZ]):=⟨_,rfl⟩
            replace H:(bg.l0 k1 a1 abm RN (wrap64 (gK + 1)) t173 vN t175) = some r:=by first | (rw [Fh];with_reducible exact H) | (have Gz:=(Option.bind_some _ _).symm.trans H;rw [Fh];with_reducible exact Gz) | (have Gz:=(Option.bind_some _ _).symm.trans H;with_reducible exact Gz) | with_reducible exact H | (rw [Fh];exact H) | exact H
            have abn:=aj.mk Fh
            clear Fh
            have H':=aj.mk H
            clear H
            have C8:wr.cell? ⟨nP,0,none⟩ = some (.int .i64 t173):=(aM iY.out 0).trans rfl
            have C9:wr.cell? ⟨nP,1,none⟩ = some (.int .i64 vN):=(aM iY.out 1).trans rfl
            have Da:wr.cell? ⟨nP,2,none⟩ = some (.int .i64 t175):=(aM iY.out 2).trans rfl
            have Db:=ay iY.out 0
            have Dc:=ay iY.out 1
            have Df:=ay iY.out 2
            go_wp2_with (first | ((with_reducible refine aQ (f:=118) rfl ?_);refine bP (some 29) rfl rfl Try.func118 (by kernel_rfl) rfl #[.string a1,.int .i64 dJ] rfl (by (try simp only [List.map_toArray,List.map_cons,List.map_nil]);first | done | rfl | (simp only [List.length_drop,List.length_take];rfl) | (simp only [ByteArray.size_append,Int.natCast_add];rfl) | (rw [B.dP] <;> first | rfl | omega | (simp only [decide_eq_false_iff_not,decide_eq_true_eq,Int.not_lt,Nat.not_lt,gt_iff_lt] at * <;> omega))) ?_;(with_reducible refine (aU.calls k1 a1 dJ NZ RN afH _ A11.out).mono ?_);rintro e w' ⟨rfl,⟨nd,rfl⟩⟩;refine ⟨_,rfl,?_⟩) | ((with_reducible refine oh (b:=.append) (xs:=#[.tmp 33,.tmp 35]) rfl ?_);at_builtin;refine Kd.yV Kd.string (w0:=w) w.heap.size rfl (.tmp 33) (.tmp 35) 33 9 (.string ⟨#[]⟩) 16 rfl Try.underlying33 Iu rfl (by decide) (by omega) u5 Fg NZ [.string NZ] (fun _=>True) (fun _=>False) rfl rfl ?aP (fun _ hk=>hk.elim) ?aF ?aO ?aB ?aS ?aL ?_;(case aP=>exact rfl);(case aB=>exact (by repeat (first | (with_reducible first | exact HB.out | apply ak | apply ah | apply au | refine aR ?_ Fe.out) | exact HB.out)));(case aF=>exact (fun _ _=>trivial));(case aO=>exact (by (with_reducible repeat (first | apply Kd.fq | apply Kd.fI | apply Kd.fU));exact vO.out));(case aS=>exact (bL (by repeat (first | (with_reducible first | exact HB.out | apply ak | apply ah | apply au | refine aR ?_ Fe.out) | exact HB.out))));(case aL=>have:=abl.out;omega);intro ah5 w14 ho hb hg hat;rw [← abn.out] at ho;have d9:=aj.mk (qy (g:=nP) (o:=.cells #[.int .i64 t173,.int .i64 vN,.int .i64 t175] 142 (0,0)) (by (with_reducible repeat (first | refine aG ?_ _ | refine aI ?_ | refine aA ?_ _));exact iY.out) hg (Kd.Qv vO.out iY.out (by decide)));have gZ:=aj.mk (hb);have jg:=aj.mk (ho);clear iY;clear HB;clear vO;have iY:=d9;have HB:=gZ;have abo:=jg;clear d9 gZ jg;clear ho hb hg hat))
            go_roundg k1
            case measure=>have:=uF.out;omega
            case rel=>exact ⟨(abm),(RN),(wrap64 (gK + 1)),(by first | rfl | (simp;done) | (simp [*];done) | (simp [B.aV];done) | (simp [B.aW];done)),(by first | rfl | (simp;done) | (simp [*];done) | (simp [B.aV];done) | (simp [B.aW];done)),H',⟨by have:=uF.out;omega⟩,⟨by (with_reducible repeat (first | apply Kd.fq | apply Kd.fI | apply Kd.fU));exact abo.out⟩,⟨by (with_reducible repeat (first | refine aG ?_ _ | refine aI ?_ | refine aA ?_ _));exact iY.out⟩,⟨by repeat (first | (with_reducible first | exact HB.out | apply ak | apply ah | apply au | refine aR ?_ Fe.out) | exact HB.out)⟩⟩
          · rw [if_neg c12] at H
            exact absurd H (by simp)
        · rw [if_neg c10] at H
          have rz:decide (gK < vN) = false:=decide_eq_false c10
          clear c10
          obtain rfl:=Option.some.inj H
          have Dg:wr.cell? ⟨nP,0,none⟩ = some (.int .i64 t173):=(aM iY.out 0).trans rfl
          have Dh:wr.cell? ⟨nP,1,none⟩ = some (.int .i64 vN):=(aM iY.out 1).trans rfl
          have Di:wr.cell? ⟨nP,2,none⟩ = some (.int .i64 t175):=(aM iY.out 2).trans rfl
          have Dj:=ay iY.out 0
          have Dk:=ay iY.out 1
          have Dl:=ay iY.out 2
          go_wp2
          go_ret
          exact ⟨_,by first | rfl | (simp [aJ,aK] <;> rfl) | (simp [*,aJ,aK] <;> rfl),by (with_reducible repeat (first | apply Kd.fq | apply Kd.fI | apply Kd.fU));exact vO.out,by repeat (first | (with_reducible first | exact HB.out | apply ak | apply ah | apply au | refine aR ?_ Fe.out) | exact HB.out)⟩
  · replace c4:=Bool.eq_false_iff.mpr c4
    subst c4
    have H1:(some ([]:List ByteArray)) = some r:=by rw [if_neg (show ¬ (false = true) by decide)] at H;exact H
    clear H
    have H:=H1
    clear H1
    obtain rfl:=Option.some.inj H
    go_enter Try.func105,Try.ntmps105
    go_wp2_with (first | ((with_reducible refine aQ (f:=83) rfl ?_);refine bP (some 14) rfl rfl Try.func83 (by kernel_rfl) rfl #[.int .i64 a0,.string a1] rfl (by (try simp only [List.map_toArray,List.map_cons,List.map_nil]);first | done | rfl | (simp only [List.length_drop,List.length_take];rfl) | (simp only [ByteArray.size_append,Int.natCast_add];rfl) | (rw [B.dP] <;> first | rfl | omega | (simp only [decide_eq_false_iff_not,decide_eq_true_eq,Int.not_lt,Nat.not_lt,gt_iff_lt] at * <;> omega))) ?_;(with_reducible refine (bR.calls k a0 a1 false _ A3.out).mono ?_);rintro e w16 ⟨rfl,hb⟩;refine ⟨_,rfl,?_⟩;have d9:=aj.mk (bE (by repeat (first | (with_reducible first | exact HB.out | apply ak | apply ah | apply au) | exact HB.out)) hb);clear HB;have HB:=d9;clear d9;(try clear hb);(try clear hb2);(try clear hk);(try clear hi)))
    go_ret
    exact ⟨_,by first | rfl | (simp [aJ,aK] <;> rfl) | (simp [*,aJ,aK] <;> rfl),by first | exact Kd.jF _ _ _ _ _ | exact Kd.lD _ _ _ _ _ | exact Kd.lF _ _ _ _ _ | exact Kd.lu _ _ _ _ _ | exact Kd.lC _ _ _ _ _,by repeat (first | (with_reducible first | exact HB.out | apply ak | apply ah | apply au) | exact HB.out)⟩
def bI.l0 : Nat → ByteArray → List ByteArray → ByteArray → Int → Int → Option (ByteArray)
  | 0,_,_,_,_,_=>none
  | k + 1,x1,x5,x7,x8,x9=>if x9 < (x5.length:Int) then (if 0 ≤ x9 then ((fC.f k (pJ ByteArray.empty x5 x9)).bind fun Ab=>(if x7.size + Ab.size ≤ 9223372036854775807 then (bI.l0 k x1 x5 (x7 ++ Ab) (wrap64 (x8 + ((pJ ByteArray.empty x5 x9).size:Int))) (wrap64 (x9 + 1))) else (none))) else (none)) else (if 0 ≤ x8 then (if x8 ≤ (x1.size:Int) then (if x7.size + (x1.extract (x8:Int).toNat x1.size).size ≤ 9223372036854775807 then (some (x7 ++ (x1.extract (x8:Int).toNat x1.size))) else (none)) else (none)) else (none))
def bI.f (k:Nat) (a0:Int) (a1:ByteArray):Option (ByteArray):=(bR.f k a0 a1).bind fun t183=>(if t183 = true then ((bg.f k a0 a1).bind fun mP=>((aH.f k a0).bind fun jf=>(if 0 ≤ jf.1 then (if jf.1 ≤ (a1.size:Int) then (bI.l0 k a1 mP (a1.extract 0 (jf.1:Int).toNat) jf.1 0) else (none)) else (none)))) else (some (⟨#[]⟩:ByteArray)))
set_option maxHeartbeats 8000000 in
set_option maxRecDepth 100000 in
theorem bI.calls (k:Nat) (a0:Int) (a1:ByteArray) (r:ByteArray) (w:World) (h:bI.f k a0 a1 = some r) :
    Calls Try.prog 84 #[.int .i64 a0,.string a1] w fun e w'=>e = .returned (.string r) ∧ Below w.heap.size w w':=by
  have NP:=Try.underlying142
  have HB:=aj.mk (Below.refl w.heap.size w)
  have H:((bR.f k a0 a1).bind fun t183=>(if t183 = true then ((bg.f k a0 a1).bind fun mP=>((aH.f k a0).bind fun jf=>(if 0 ≤ jf.1 then (if jf.1 ≤ (a1.size:Int) then (bI.l0 k a1 mP (a1.extract 0 (jf.1:Int).toNat) jf.1 0) else (none)) else (none)))) else (some (⟨#[]⟩:ByteArray)))) = some r:=h
  clear h
  replace H:=zbm H
  obtain ⟨t183,Tz,H⟩:=H
  replace H:(if t183 = true then ((bg.f k a0 a1).bind fun mP=>((aH.f k a0).bind fun jf=>(if 0 ≤ jf.1 then (if jf.1 ≤ (a1.size:Int) then (bI.l0 k a1 mP (a1.extract 0 (jf.1:Int).toNat) jf.1 0) else (none)) else (none)))) else (some (⟨#[]⟩:ByteArray))) = some r:=H
  have A3:=aj.mk Tz
  clear Tz
  by_cases c4:t183 = true
  · subst c4
    have H1:((bg.f k a0 a1).bind fun mP=>((aH.f k a0).bind fun jf=>(if 0 ≤ jf.1 then (if jf.1 ≤ (a1.size:Int) then (bI.l0 k a1 mP (a1.extract 0 (jf.1:Int).toNat) jf.1 0) else (none)) else (none)))) = some r:=by rw [if_pos rfl] at H;exact H
    clear H
    have H:=H1
    clear H1
    replace H:=zbm H
    obtain ⟨mP,TI,H⟩:=H
    replace H:((aH.f k a0).bind fun jf=>(if 0 ≤ jf.1 then (if jf.1 ≤ (a1.size:Int) then (bI.l0 k a1 mP (a1.extract 0 (jf.1:Int).toNat) jf.1 0) else (none)) else (none))) = some r:=H
    have A5:=aj.mk TI
    clear TI
    replace H:=zbm H
    obtain ⟨⟨qU,N7,RO⟩,A60,H⟩:=H
    replace H:(if 0 ≤ qU then (if qU ≤ (a1.size:Int) then (bI.l0 k a1 mP (a1.extract 0 (qU:Int).toNat) qU 0) else (none)) else (none)) = some r:=H
    have A6:=aj.mk A60
    clear A60
    by_cases c7:0 ≤ qU
    · rw [if_pos c7] at H
      have uM:=eq_true c7
      have Kh:decide (0 ≤ qU) = true:=decide_eq_true c7
      clear c7
      by_cases c8:qU ≤ (a1.size:Int)
      · rw [if_pos c8] at H
        have rZ:=eq_true c8
        have r9:decide (qU ≤ (a1.size:Int)) = true:=decide_eq_true c8
        clear c8
        have H':=aj.mk H
        clear H
        go_enter Try.func84,Try.ntmps84
        go_wp2_with (first | ((with_reducible refine aQ (f:=83) rfl ?_);refine bP (some 12) rfl rfl Try.func83 (by kernel_rfl) rfl #[.int .i64 a0,.string a1] rfl (by (try simp only [List.map_toArray,List.map_cons,List.map_nil]);first | done | rfl | (simp only [List.length_drop,List.length_take];rfl) | (simp only [ByteArray.size_append,Int.natCast_add];rfl) | (rw [B.dP] <;> first | rfl | omega | (simp only [decide_eq_false_iff_not,decide_eq_true_eq,Int.not_lt,Nat.not_lt,gt_iff_lt] at * <;> omega))) ?_;(with_reducible refine (bR.calls k a0 a1 true _ A3.out).mono ?_);rintro e w9 ⟨rfl,hb⟩;refine ⟨_,rfl,?_⟩;have d9:=aj.mk (bE (by repeat (first | (with_reducible first | exact HB.out | apply ak | apply ah | apply au) | exact HB.out)) hb);clear HB;have HB:=d9;clear d9;(try clear hb);(try clear hb2);(try clear hk);(try clear hi)) | ((with_reducible refine aQ (f:=105) rfl ?_);refine bP (some 16) rfl rfl Try.func105 (by kernel_rfl) rfl #[.int .i64 a0,.string a1] rfl (by (try simp only [List.map_toArray,List.map_cons,List.map_nil]);first | done | rfl | (simp only [List.length_drop,List.length_take];rfl) | (simp only [ByteArray.size_append,Int.natCast_add];rfl) | (rw [B.dP] <;> first | rfl | omega | (simp only [decide_eq_false_iff_not,decide_eq_true_eq,Int.not_lt,Nat.not_lt,gt_iff_lt] at * <;> omega))) ?_;(with_reducible refine (bg.calls k a0 a1 mP _ A5.out).mono ?_);rintro e w10 ⟨afI,rfl,ho0,hb⟩;refine ⟨_,rfl,?_⟩;have d9:=aj.mk (Kd.um ho0 (bL (by repeat (first | (with_reducible first | exact HB.out | apply ak | apply ah | apply au) | exact HB.out))));have gZ:=aj.mk (bE (by repeat (first | (with_reducible first | exact HB.out | apply ak | apply ah | apply au) | exact HB.out)) hb);clear HB;have zy:=d9;have HB:=gZ;clear d9 gZ;(try clear hb);(try clear hb2);(try clear hk);(try clear hi);(try clear ho0)) | ((with_reducible refine aQ (f:=106) rfl ?_);refine bP (some 18) rfl rfl Try.func106 (by kernel_rfl) rfl #[.int .i64 a0] rfl (by (try simp only [List.map_toArray,List.map_cons,List.map_nil]);first | done | rfl | (simp only [List.length_drop,List.length_take];rfl) | (simp only [ByteArray.size_append,Int.natCast_add];rfl) | (rw [B.dP] <;> first | rfl | omega | (simp only [decide_eq_false_iff_not,decide_eq_true_eq,Int.not_lt,Nat.not_lt,gt_iff_lt] at * <;> omega))) ?_;(with_reducible refine (aH.calls k a0 qU N7 RO _ A6.out).mono ?_);rintro e Wj ⟨rfl,hb⟩;refine ⟨_,rfl,?_⟩;have d9:=aj.mk (Kd.kD (by (with_reducible repeat (first | apply Kd.fq | apply Kd.fI | apply Kd.fU));exact zy.out) hb);have gZ:=aj.mk (bE (by repeat (first | (with_reducible first | exact HB.out | apply ak | apply ah | apply au) | exact HB.out)) hb);clear zy;clear HB;have zy:=d9;have HB:=gZ;clear d9 gZ;(try clear hb);(try clear hb2);(try clear hk);(try clear hi)) | ((with_reducible refine gJ (N:=6) rfl ?_);refine fQ ?hg (N:=6) ?hd (cs:=#[.int .i64 0,.int .i64 0,.int .i64 0]) (t:=142) ?hr ?_;(case hd=>rfl);(case hg=>rfl);(case hr=>first | (go_simp;done) | (go_simp;rfl));intro rE hg w12 gW hb;have d9:=aj.mk (Kd.kD (by (with_reducible repeat (first | apply Kd.fq | apply Kd.fI | apply Kd.fU));exact zy.out) hb);have gZ:=aj.mk (bE (by repeat (first | (with_reducible first | exact HB.out | apply ak | apply ah | apply au) | exact HB.out)) hb);have jg:=aj.mk (gW);have jN:=aj.mk ((by rw [hg];exact (bL (by repeat (first | (with_reducible first | exact HB.out | apply ak | apply ah | apply au) | exact HB.out))):w.heap.size ≤ rE));have qR:=aj.mk ((by rw [hg];exact (bL (by repeat (first | (with_reducible first | exact HB.out | apply ak | apply ah | apply au) | exact HB.out))):w.heap.size ≤ rE));clear zy;clear HB;have zy:=d9;have HB:=gZ;have nQ:=jg;have ahJ:=jN;have Jc:=qR;clear d9 gZ jg jN qR;clear hb gW hg;have C8:w12.cell? ⟨rE,0,none⟩ = some (.int .i64 0):=(aM nQ.out 0).trans rfl;have C9:w12.cell? ⟨rE,1,none⟩ = some (.int .i64 0):=(aM nQ.out 1).trans rfl;have Da:w12.cell? ⟨rE,2,none⟩ = some (.int .i64 0):=(aM nQ.out 2).trans rfl;have Db:=ay nQ.out 0;have Dc:=ay nQ.out 1;have Df:=ay nQ.out 2))
        go_loopg [7,8,9] k (fun kq v7 v8 v9 w'=>∃ (dJ:ByteArray) (gK:Int) (iL:Int),v7 = .string dJ ∧ v8 = .int .i64 gK ∧ v9 = .int .i64 iL ∧ aj (bI.l0 kq a1 mP dJ gK iL = some r) ∧ aj (kq ≤ k) ∧ aj (Kd.R Kd.string 9 w' w.heap.size (fun _=>True) afI mP) ∧ aj (w'.heap[rE]? = some (.cells #[.int .i64 qU,.int .i64 N7,.int .i64 RO] 142 (0,0))) ∧ aj (Below w.heap.size w w'))
        case atStart=>exact ⟨(a1.extract 0 (qU:Int).toNat),(qU),(0),(by first | rfl | (simp;done) | (simp [*];done) | (simp [B.aV];done) | (simp [B.aW];done)),(by first | rfl | (simp;done) | (simp [*];done) | (simp [B.aV];done) | (simp [B.aW];done)),(by first | rfl | (simp;done) | (simp [*];done) | (simp [B.aV];done) | (simp [B.aW];done)),H',⟨Nat.le_refl _⟩,⟨by (with_reducible repeat (first | apply Kd.fq | apply Kd.fI | apply Kd.fU));exact Kd.pO (Kd.uo (p:=⟨rE,2,none⟩) (Kd.uo (p:=⟨rE,1,none⟩) (Kd.uo (p:=⟨rE,0,none⟩) (Kd.uq zy.out nQ.out (by decide)) (fun _ hk=>hk.2) (.int .i64 qU)) (fun _ hk=>hk.2) (.int .i64 N7)) (fun _ hk=>hk.2) (.int .i64 RO)) (fun _ hk=>trivial)⟩,⟨by (with_reducible repeat (first | refine aG ?_ _ | refine aI ?_ | refine aA ?_ _));refine bU (cs:=#[.int .i64 qU,.int .i64 N7,.int .i64 0]) ?_ 2 _ rfl;(with_reducible repeat (first | refine aG ?_ _ | refine aI ?_ | refine aA ?_ _));refine bU (cs:=#[.int .i64 qU,.int .i64 0,.int .i64 0]) ?_ 1 _ rfl;(with_reducible repeat (first | refine aG ?_ _ | refine aI ?_ | refine aA ?_ _));refine bU (cs:=#[.int .i64 0,.int .i64 0,.int .i64 0]) ?_ 0 _ rfl;(with_reducible repeat (first | refine aG ?_ _ | refine aI ?_ | refine aA ?_ _));exact nQ.out⟩,⟨by repeat (first | (with_reducible first | exact HB.out | apply ak | apply ah | apply au | refine aR ?_ Jc.out) | exact HB.out)⟩⟩
        case round =>
          clear H'
          try clear c1
          try clear p2
          try clear c4
          try clear c7
          try clear uM
          try clear Kh
          try clear c8
          try clear rZ
          try clear r9
          try clear c10
          try clear C8
          try clear C9
          try clear Da
          try clear Db
          try clear Dc
          try clear Df
          obtain ⟨dJ,gK,iL,rfl,rfl,rfl,HA,uF,vO,nQ,HB⟩:=hrel
          cases gk with
          | zero=>exact absurd HA.out (by simp [bI.l0])
          | succ k1 =>
            have H:=HA.out
            clear HA
            simp only [bI.l0] at H
            by_cases c14:iL < (mP.length:Int)
            · rw [if_pos c14] at H
              have Bd:decide (iL < (mP.length:Int)) = true:=decide_eq_true c14
              clear c14
              by_cases c15:0 ≤ iL
              · rw [if_pos c15] at H
                have aaf:decide (0 ≤ iL) = true:=decide_eq_true c15
                clear c15
                replace H:=zbm H
                obtain ⟨Ab,abp,H⟩:=H
                replace H:(if dJ.size + Ab.size ≤ 9223372036854775807 then (bI.l0 k1 a1 mP (dJ ++ Ab) (wrap64 (gK + ((pJ ByteArray.empty mP iL).size:Int))) (wrap64 (iL + 1))) else (none)) = some r:=H
                have A16:=aj.mk abp
                clear abp
                by_cases c17:dJ.size + Ab.size ≤ 9223372036854775807
                · rw [if_pos c17] at H
                  have TF:=eq_true c17
                  have ahK:decide (dJ.size + Ab.size ≤ 9223372036854775807) = true:=decide_eq_true c17
                  try have ahL:(9223372036854775807 < dJ.size + Ab.size) = False:=eq_false (Nat.not_lt.2 c17)
                  have H':=aj.mk H
                  clear H
                  obtain ⟨ah6,ah7,afJ⟩:=Kd.xu vO.out
                  subst afJ
                  have Wt:0 ≤ (iL:Int):=of_decide_eq_true (by first | (with_reducible assumption) | assumption)
                  have Wu:iL < (mP.length:Int):=of_decide_eq_true (by first | (with_reducible assumption) | assumption)
                  obtain ⟨abq,afK,ad6⟩:=Kd.AX (Kd.pQ vO.out).2.2 iL Wt Wu
                  cases afK
                  replace Wt:=eq_true Wt
                  replace Wu:=eq_true Wu
                  go_wp2_with (first | ((with_reducible refine aQ (f:=101) rfl ?_);refine bP (some 36) rfl rfl Try.func101 (by kernel_rfl) rfl #[.string (pJ ByteArray.empty mP iL)] rfl (by (try simp only [List.map_toArray,List.map_cons,List.map_nil]);first | done | rfl | (simp only [List.length_drop,List.length_take];rfl) | (simp only [ByteArray.size_append,Int.natCast_add];rfl) | (rw [B.dP] <;> first | rfl | omega | (simp only [decide_eq_false_iff_not,decide_eq_true_eq,Int.not_lt,Nat.not_lt,gt_iff_lt] at * <;> omega))) ?_;(with_reducible refine (fC.calls k1 (pJ ByteArray.empty mP iL) Ab _ A16.out).mono ?_);rintro e w19 ⟨rfl,hb⟩;refine ⟨_,rfl,?_⟩;have d9:=aj.mk (Kd.kD (by (with_reducible repeat (first | apply Kd.fq | apply Kd.fI | apply Kd.fU));exact vO.out) hb);have gZ:=aj.mk (dN (g:=rE) (o:=.cells #[.int .i64 qU,.int .i64 N7,.int .i64 RO] 142 (0,0)) (by (with_reducible repeat (first | refine aG ?_ _ | refine aI ?_ | refine aA ?_ _));exact nQ.out) hb);have jg:=aj.mk (bE (by repeat (first | (with_reducible first | exact HB.out | apply ak | apply ah | apply au | refine aR ?_ Jc.out) | exact HB.out)) hb);clear vO;clear nQ;clear HB;have vO:=d9;have nQ:=gZ;have HB:=jg;clear d9 gZ jg;(try clear hb);(try clear hb2);(try clear hk);(try clear hi);have Wv:0 ≤ (iL:Int):=of_decide_eq_true (by first | (with_reducible assumption) | assumption);have Ww:iL < (mP.length:Int):=of_decide_eq_true (by first | (with_reducible assumption) | assumption);obtain ⟨abr,afL,ad7⟩:=Kd.AX (Kd.pQ vO.out).2.2 iL Wv Ww;obtain rfl:abq = abr:=(by injection afL);replace Wv:=eq_true Wv;replace Ww:=eq_true Ww))
                  go_roundg k1
                  case measure=>have:=uF.out;omega
                  case rel=>exact ⟨(dJ ++ Ab),(wrap64 (gK + ((pJ ByteArray.empty mP iL).size:Int))),(wrap64 (iL + 1)),(by first | rfl | (simp;done) | (simp [*];done) | (simp [B.aV];done) | (simp [B.aW];done)),(by first | rfl | (simp;done) | (simp [*];done) | (simp [B.aV];done) | (simp [B.aW];done)),(by first | rfl | (simp;done) | (simp [*];done) | (simp [B.aV];done) | (simp [B.aW];done)),H',⟨by have:=uF.out;omega⟩,⟨by (with_reducible repeat (first | apply Kd.fq | apply Kd.fI | apply Kd.fU));exact vO.out⟩,⟨by (with_reducible repeat (first | refine aG ?_ _ | refine aI ?_ | refine aA ?_ _));exact nQ.out⟩,⟨by repeat (first | (with_reducible first | exact HB.out | apply ak | apply ah | apply au | refine aR ?_ Jc.out) | exact HB.out)⟩⟩
                · rw [if_neg c17] at H
                  exact absurd H (by simp)
              · rw [if_neg c15] at H
                exact absurd H (by simp)
            · rw [if_neg c14] at H
              have Bd:decide (iL < (mP.length:Int)) = false:=decide_eq_false c14
              clear c14
              by_cases c20:0 ≤ gK
              · rw [if_pos c20] at H
                have NH:=eq_true c20
                have aaA:decide (0 ≤ gK) = true:=decide_eq_true c20
                clear c20
                by_cases c21:gK ≤ (a1.size:Int)
                · rw [if_pos c21] at H
                  have TB:=eq_true c21
                  have TD:decide (gK ≤ (a1.size:Int)) = true:=decide_eq_true c21
                  clear c21
                  by_cases FD:dJ.size + (a1.extract (gK:Int).toNat a1.size).size ≤ 9223372036854775807
                  · rw [if_pos FD] at H
                    have NW:=eq_true FD
                    have NY:decide (dJ.size + (a1.extract (gK:Int).toNat a1.size).size ≤ 9223372036854775807) = true:=decide_eq_true FD
                    try have ahM:(9223372036854775807 < dJ.size + (a1.extract (gK:Int).toNat a1.size).size) = False:=eq_false (Nat.not_lt.2 FD)
                    obtain rfl:=Option.some.inj H
                    obtain ⟨ah8,ah9,afM⟩:=Kd.xu vO.out
                    subst afM
                    go_wp2
                    go_ret
                    exact ⟨by first | rfl | (simp [aJ,aK] <;> rfl) | (simp [*,aJ,aK] <;> rfl),by repeat (first | (with_reducible first | exact HB.out | apply ak | apply ah | apply au | refine aR ?_ Jc.out) | exact HB.out)⟩
                  · rw [if_neg FD] at H
                    exact absurd H (by simp)
                · rw [if_neg c21] at H
                  exact absurd H (by simp)
              · rw [if_neg c20] at H
                exact absurd H (by simp)
      · rw [if_neg c8] at H
        exact absurd H (by simp)
    · rw [if_neg c7] at H
      exact absurd H (by simp)
  · replace c4:=Bool.eq_false_iff.mpr c4
    subst c4
    have H1:(some (⟨#[]⟩:ByteArray)) = some r:=by rw [if_neg (show ¬ (false = true) by decide)] at H;exact H
    clear H
    have H:=H1
    clear H1
    obtain rfl:=Option.some.inj H
    go_enter Try.func84,Try.ntmps84
    go_wp2_with (first | ((with_reducible refine aQ (f:=83) rfl ?_);refine bP (some 12) rfl rfl Try.func83 (by kernel_rfl) rfl #[.int .i64 a0,.string a1] rfl (by (try simp only [List.map_toArray,List.map_cons,List.map_nil]);first | done | rfl | (simp only [List.length_drop,List.length_take];rfl) | (simp only [ByteArray.size_append,Int.natCast_add];rfl) | (rw [B.dP] <;> first | rfl | omega | (simp only [decide_eq_false_iff_not,decide_eq_true_eq,Int.not_lt,Nat.not_lt,gt_iff_lt] at * <;> omega))) ?_;(with_reducible refine (bR.calls k a0 a1 false _ A3.out).mono ?_);rintro e w24 ⟨rfl,hb⟩;refine ⟨_,rfl,?_⟩;have d9:=aj.mk (bE (by repeat (first | (with_reducible first | exact HB.out | apply ak | apply ah | apply au) | exact HB.out)) hb);clear HB;have HB:=d9;clear d9;(try clear hb);(try clear hb2);(try clear hk);(try clear hi)))
    go_ret
    exact ⟨by first | rfl | (simp [aJ,aK] <;> rfl) | (simp [*,aJ,aK] <;> rfl),by repeat (first | (with_reducible first | exact HB.out | apply ak | apply ah | apply au) | exact HB.out)⟩
end Go.Proofs.Ytdkkgecdhapfhaa.ZQ
namespace Go.Proofs.Ytdkkgecdhapfhaa.ZQ
open Go.RowKit Go.Proofs.YtdkkgecdhapfhaaW.bD Go.Proofs.YtdkkgecdhapfhaaW.dL Go.Proofs.YtdkkgecdhapfhaaW.eO Go.Proofs.Ytdkkgecdhapfhaa.B
def wF (msg:ByteArray) (i:Int):ByteArray × Int × Int:=(bF.f (rounds i) msg i).getD (⟨#[]⟩,0,0)
theorem TL (msg:ByteArray) (i:Int) (hm:msg.size ≤ 100000):bF.f (rounds i) msg i = some (wF msg i):=by
  obtain ⟨R,h1,_⟩:=Bg (rounds i) msg i hm (Nat.le_refl _)
  unfold wF;rw [h1];rfl
theorem TM (k:Nat) (msg:ByteArray) (i:Int) (hm:msg.size ≤ 100000) (hk:rounds i ≤ k):bF.f k msg i = some (wF msg i):=EZ hk (TL msg i hm)
theorem vP (k:Nat) (msg:ByteArray) (i:Int) (hm:msg.size ≤ 100000) (hk:rounds i ≤ k):aU.f k msg i = some (wF msg i):=by
  obtain ⟨R,h1,h2⟩:=Bg k msg i hm hk
  rw [TM k msg i hm hk] at h1
  rw [h2,h1]
theorem uP (msg:ByteArray) (i:Int) (hm:msg.size ≤ 100000) :
    ((wF msg i).2.2 = 0 ∧ jM (wF msg i).1 = true ∧ 0 ≤ i ∧ i < (wF msg i).2.1 ∧ (wF msg i).2.1 ≤ (msg.size:Int)) ∨ (((wF msg i).2.2 = 2 ∨ (wF msg i).2.2 = 3) ∧ (wF msg i).1 = ⟨#[]⟩ ∧ (wF msg i).2.1 = 0):=GI hm (TL msg i hm)
def Fj (msg:ByteArray) (e:Int):Nat → Int → List ByteArray → Option (List ByteArray × Int)
  | 0,i,l=>some (l,i)
  | n + 1,i,l=>if (wF msg i).2.2 = 0 then (if (wF msg i).2.1 > e then none else Fj msg e n (wF msg i).2.1 (l ++ [(wF msg i).1])) else none
theorem qH (msg:ByteArray) (e:Int) (hm:msg.size ≤ 100000):∀ (n:Nat) (i:Int) (l:List ByteArray) (R:List ByteArray × Int),Fj msg e n i l = some R → i ≤ e → i ≤ R.2 ∧ R.2 ≤ e ∧ R.1.length = l.length + n ∧ (∃ l',R.1 = l ++ l' ∧ ∀ x ∈ l',jM x = true)
  | 0,i,l,R,h,hi=>by cases h;exact ⟨Int.le_refl _,hi,rfl,[],by simp,by simp⟩
  | n + 1,i,l,R,h,hi=>by
    rw [Fj] at h
    by_cases h0:(wF msg i).2.2 = 0
    · rw [if_pos h0] at h
      by_cases h1:(wF msg i).2.1 > e
      · rw [if_pos h1] at h;cases h
      · rw [if_neg h1] at h
        obtain ⟨a1,a2,a3,l',a4,a5⟩:=qH msg e hm n _ _ R h (by omega)
        rcases uP msg i hm with ⟨_,b2,_,b4,_⟩ | ⟨b1,_⟩
        · refine ⟨by omega,a2,by rw [a3,List.length_append,List.length_singleton];omega,(wF msg i).1 :: l',by rw [a4];simp,?_⟩
          intro x hx
          rcases List.mem_cons.mp hx with rfl | hx
          · exact b2
          · exact a5 x hx
        · omega
    · rw [if_neg h0] at h;cases h
def K0 : Nat:=101000
theorem qI {msg:ByteArray} {i:Int} {k:Nat} (hm:msg.size ≤ 100000) (hi:i ≤ (msg.size:Int)) (hk:K0 ≤ k):rounds i ≤ k:=by unfold rounds;unfold K0 at hk;omega
theorem Dm (msg:ByteArray) (e s0 s1 s2:Int) (a b:ByteArray) (hm:msg.size ≤ 100000) (he:e ≤ (msg.size:Int)) (h2:0 ≤ s2 ∧ s2 ≤ 1000) (c:Int) (hc:c ≤ 100):∀ (n k:Nat) (i x:Int) (l:List ByteArray),K0 + n ≤ k → x + n = c → 0 ≤ x → 0 ≤ i → i ≤ e → l.length + n ≤ 1000 →
    bV.l0 (k + 1) msg i e c x s0 s1 s2 a b l = (match Fj msg e n i l with
      | some R=>some (a,msg.extract R.2.toNat e.toNat,R.1,(((msg.extract R.2.toNat e.toNat).size:Int) == s2))
      | none=>some (⟨#[]⟩,⟨#[]⟩,[],false))
  | 0,k,i,x,l,hk,hx,hx0,hi,hie,hl=>by
    rw [bV.l0,if_neg (by omega),if_pos hi,if_pos hie,if_pos he,Fj]
  | n + 1,k,i,x,l,hk,hx,hx0,hi,hie,hl=>by
    obtain ⟨k,rfl⟩:∃ m,k = m + 1:=⟨k - 1,by omega⟩
    rw [bV.l0,if_pos (by omega),TM (k + 1) msg i hm (qI hm (by omega) (by omega)),Fj]
    simp only [Option.bind_some]
    by_cases h0:(wF msg i).2.2 = 0
    · rw [if_pos h0,if_pos h0]
      by_cases h1:(wF msg i).2.1 > e
      · rw [if_pos h1,if_pos h1]
      · rcases uP msg i hm with ⟨_,_,_,b4,_⟩ | ⟨b1,_⟩
        · rw [if_neg h1,if_neg h1,if_pos (by omega),dP (by omega) (by omega)]
          exact Dm msg e s0 s1 s2 a b hm he h2 c hc n k _ (x + 1) _ (by omega) (by omega) (by omega) (by omega) (by omega) (by rw [List.length_append,List.length_singleton];omega)
        · omega
    · rw [if_neg h0,if_neg h0]
def N8 (s:ByteArray):Nat → Int → Bool
  | 0,_=>false
  | k + 1,i=>if i < (s.size:Int) then N8 s k (i + 1 + bt s i) else decide (i = s.size)
def GL (s:ByteArray):Bool:=decide (0 < s.size) && N8 s (s.size + 1) 0
theorem Wx (s:ByteArray) {k:Nat} {i:Int} (h:(s.size:Int) < i):N8 s k i = false:=by
  cases k with
  | zero=>rfl
  | succ k=>rw [N8,if_neg (by omega)];simp;omega
theorem N9 (s:ByteArray) (hs:s.size ≤ 100000) (d:Nat):∀ (k m:Nat) (i:Int),0 ≤ i → i ≤ (s.size:Int) → s.size - i.toNat ≤ d → d + 1 ≤ k → d + 1 ≤ m → dK.l0 k (s.extract i.toNat s.size) = some (N8 s m i):=by
  induction d with
  | zero =>
    intro k m i h0 h1 h2 hk hm
    obtain ⟨k,rfl⟩:∃ j,k = j + 1:=⟨k - 1,by omega⟩
    obtain ⟨m,rfl⟩:∃ j,m = j + 1:=⟨m - 1,by omega⟩
    rw [dK.l0,if_pos (toList_nil.mpr (by rw [ByteArray.size_extract];omega)),N8,if_neg (by omega),decide_eq_true (by omega)]
  | succ d ih =>
    intro k m i h0 h1 h2 hk hm
    obtain ⟨k,rfl⟩:∃ j,k = j + 1:=⟨k - 1,by omega⟩
    obtain ⟨m,rfl⟩:∃ j,m = j + 1:=⟨m - 1,by omega⟩
    have hz:(s.extract i.toNat s.size).size = s.size - i.toNat:=by rw [ByteArray.size_extract];omega
    by_cases hi:i < (s.size:Int)
    · have hb:bt (s.extract i.toNat s.size) 0 = bt s i:=by
        rw [mI (by omega) (by omega)];congr 1;omega
      have hr:=gB s i
      rw [dK.l0,if_neg (by rw [toList_nil];omega),if_pos (by omega),hb,dP (n:=bt s i) (by omega) (by omega),dP (n:=1 + bt s i) (by omega) (by omega),N8,if_pos hi]
      by_cases h3:1 + bt s i > ((s.extract i.toNat s.size).size:Int)
      · rw [if_pos h3,Wx s (by omega)]
      · rw [if_neg h3,if_pos (by omega),if_pos (by omega)]
        have e:(s.extract i.toNat s.size).extract (1 + bt s i).toNat (s.extract i.toNat s.size).size = s.extract (i + 1 + bt s i).toNat s.size:=by
          rw [ByteArray.extract_extract,hz]
          congr 1 <;> omega
        rw [e]
        exact ih k m _ (by omega) (by omega) (by omega) (by omega) (by omega)
    · rw [dK.l0,if_pos (toList_nil.mpr (by omega)),N8,if_neg hi,decide_eq_true (by omega)]
theorem Oa (k:Nat) (hk:K0 ≤ k) (s:ByteArray) (hs:s.size ≤ 100000):dK.f k s = some (GL s):=by
  unfold dK.f GL
  by_cases h:s.toList = ([]:List UInt8)
  · rw [if_pos h];rw [toList_nil] at h;rw [h];rfl
  · rw [if_neg h]
    rw [toList_nil] at h
    unfold K0 at hk
    have:=N9 s hs s.size k (s.size + 1) 0 (by omega) (by omega) (by omega) (by omega) (by omega)
    rw [show (0:Int).toNat = 0 from rfl,ByteArray.extract_zero_size] at this
    rw [this,decide_eq_true (by omega),Bool.true_and]
theorem Dp (s:ByteArray) (hs:s.size ≤ 100000) (d:Nat):∀ (k m:Nat) (i:Int),0 ≤ i → (i:Int) ≤ s.size + 300 → 0 < i ∨ 0 < s.size → s.size - i.toNat ≤ d → d + 1 ≤ k → d + 1 ≤ m → bq.l0 k s i = some (N8 s m i):=by
  induction d with
  | zero =>
    intro k m i h0 h1 hp h2 hk hm
    obtain ⟨k,rfl⟩:∃ j,k = j + 1:=⟨k - 1,by omega⟩
    obtain ⟨m,rfl⟩:∃ j,m = j + 1:=⟨m - 1,by omega⟩
    have hlt:¬ i < (s.size:Int):=by omega
    rw [bq.l0,if_neg hlt,N8,if_neg hlt]
    by_cases h:i = (s.size:Int)
    · rw [if_pos h,decide_eq_true (by omega),decide_eq_true h]
    · rw [if_neg h,decide_eq_false h]
  | succ d ih =>
    intro k m i h0 h1 hp h2 hk hm
    obtain ⟨k,rfl⟩:∃ j,k = j + 1:=⟨k - 1,by omega⟩
    obtain ⟨m,rfl⟩:∃ j,m = j + 1:=⟨m - 1,by omega⟩
    have hr:=gB s i
    rw [bq.l0,N8]
    by_cases hi:i < (s.size:Int)
    · rw [if_pos hi,if_pos hi,if_pos h0,dP (n:=bt s i) (by omega) (by omega),dP (n:=i + 1) (by omega) (by omega),dP (by omega) (by omega)]
      exact ih k m _ (by omega) (by omega) (by omega) (by omega) (by omega) (by omega)
    · rw [if_neg hi,if_neg hi]
      by_cases h:i = (s.size:Int)
      · rw [if_pos h,decide_eq_true (by omega),decide_eq_true h]
      · rw [if_neg h,decide_eq_false h]
theorem Dq (k:Nat) (hk:K0 ≤ k) (s:ByteArray) (hs:s.size ≤ 100000):bq.f k s = some (GL s):=by
  unfold bq.f GL
  unfold K0 at hk
  by_cases h:0 < s.size
  · rw [Dp s hs s.size k (s.size + 1) 0 (by omega) (by omega) (by omega) (by omega) (by omega) (by omega),decide_eq_true h,Bool.true_and]
  · obtain ⟨k,rfl⟩:∃ j,k = j + 1:=⟨k - 1,by omega⟩
    rw [bq.l0,if_neg (by omega),if_pos (by omega),decide_eq_false h];rfl
end Go.Proofs.Ytdkkgecdhapfhaa.ZQ
namespace Go.Proofs.Ytdkkgecdhapfhaa.ZQ
open Go.RowKit Go.Proofs.YtdkkgecdhapfhaaW.bD Go.Proofs.YtdkkgecdhapfhaaW.dL Go.Proofs.YtdkkgecdhapfhaaW.eO Go.Proofs.Ytdkkgecdhapfhaa.B
theorem GN (l m:List ByteArray):strings_Join.cat (l ++ m) = strings_Join.cat l ++ strings_Join.cat m:=by
  induction l with
  | nil=>exact (empty_append _).symm
  | cons x l ih=>rw [List.cons_append,strings_Join.cat,ih,strings_Join.cat,ByteArray.append_assoc]
theorem RP (x:ByteArray):strings_Join.cat [x] = x:=append_empty x
theorem p9 {n:ByteArray} (h:jM n = true):n.size ≤ 255:=by
  obtain ⟨l,_,_,hz⟩:=Ip.mp h;exact hz
theorem uQ : ∀ {l:List ByteArray},(∀ x ∈ l,jM x = true) → (strings_Join.cat l).size ≤ 255 * l.length
  | [],_=>Nat.zero_le _
  | x :: l,h=>by
    have h1:=p9 (h x (by simp))
    have h2:=uQ (l:=l) (fun y hy=>h y (by simp [hy]))
    rw [strings_Join.cat,ByteArray.size_append,List.length_cons]
    omega
def zA (d:ByteArray):ByteArray × Int:=if (d.size:Int) > 65535 then (⟨#[]⟩,4) else (d,0)
theorem vQ (d:ByteArray):(if (d.size:Int) > 65535 then some ((⟨#[]⟩:ByteArray),(4:Int)) else some (d,0)) = some (zA d):=by
  unfold zA;split <;> rfl
def Kt (msg:ByteArray) (i size:Int) (s:Int × Int × Int):ByteArray × Int :=
  if s.1 ≤ size then (match Fj msg (i + size) s.2.1.toNat (i + s.1) [] with
    | some R=>if R.2 + s.2.2 = i + size then zA (msg.extract i.toNat (i + s.1).toNat ++ strings_Join.cat R.1 ++ msg.extract R.2.toNat (i + size).toNat) else (⟨#[]⟩,4)
    | none=>(⟨#[]⟩,4)) else (⟨#[]⟩,4)
def Ac (msg:ByteArray) (i size kind:Int):ByteArray × Int :=
  if gV msg i size then (match aD.zw kind with
    | some s=>Kt msg i size s
    | none=>if kind = 16 then (if GL (msg.extract i.toNat (i + size).toNat) = true then zA (msg.extract i.toNat (i + size).toNat) else (⟨#[]⟩,4)) else zA (msg.extract i.toNat (i + size).toNat))
  else (⟨#[]⟩,2)
theorem kY {kind:Int} {s:Int × Int × Int} (h:aD.zw kind = some s):0 ≤ s.1 ∧ s.1 ≤ 16 ∧ 0 ≤ s.2.1 ∧ s.2.1 ≤ 2 ∧ 0 ≤ s.2.2 ∧ s.2.2 ≤ 20 ∧ kind ≠ 16 ∧ (s.1 = 0 → s.2.1 = 0 → False):=by
  unfold aD.zw at h
  repeat' split at h
  all_goals (first | (cases h;subst_vars;decide) | cases h)
theorem Wy (k:Nat) (hk:K0 ≤ k) (kind:Int) (hkind:kind ≠ 16) (d:ByteArray):aD.fin k kind d true = some (zA d):=by
  unfold aD.fin
  rw [if_pos rfl,if_neg hkind,vQ]
theorem vR (k:Nat) (kind:Int) (d:ByteArray):aD.fin k kind d false = some (⟨#[]⟩,4):=by
  unfold aD.fin;rw [if_neg Bool.false_ne_true]
theorem Bp (msg:ByteArray) (i size kind:Int) (k:Nat) (hk:K0 ≤ k) (hm:msg.size ≤ 100000) (f:ByteArray → Option Bool) (hf:∀ s,s.size ≤ 100000 → f s = some (GL s)) (t:ByteArray) (ht:t.size ≤ 100000) :
    (if kind = 16 then ((f t).bind fun b=>if b = true then (if (t.size:Int) > 65535 then some ((⟨#[]⟩:ByteArray),(4:Int)) else some (t,0)) else some (⟨#[]⟩,4)) else (if (t.size:Int) > 65535 then some (⟨#[]⟩,4) else some (t,0))) =
      some (if kind = 16 then (if GL t = true then zA t else (⟨#[]⟩,4)) else zA t):=by
  rw [hf t ht,vQ]
  simp only [Option.bind_some]
  split
  · split <;> rfl
  · rfl
theorem Ku (k:Nat) (hk:K0 + 10 ≤ k) (msg:ByteArray) (i size kind:Int) (hm:msg.size ≤ 100000) (ht:gV msg i size) (s:Int × Int × Int) (hs:aD.zw kind = some s):aD.g k msg i size kind s = some (Kt msg i size s):=by
  obtain ⟨h0,h1,h2⟩:=ht
  obtain ⟨a1,a2,a3,a4,a5,a6,a7,a8⟩:=kY hs
  obtain ⟨s0,s1,s2⟩:=s
  simp only at a1 a2 a3 a4 a5 a6 a8
  have e1:wrap64 (i + size) = i + size:=dP (by omega) (by omega)
  have e2:wrap64 (i + size - i) = size:=by rw [dP (by omega) (by omega)];omega
  have e3:wrap64 (i + s0) = i + s0:=dP (by omega) (by omega)
  unfold aD.g bV.f Kt
  simp only [e1,e2,e3]
  by_cases c:s0 ≤ size
  · rw [if_pos c,if_pos c,if_pos h0,if_pos (by omega),if_pos (by omega)]
    obtain ⟨k,rfl⟩:∃ j,k = j + 1:=⟨k - 1,by omega⟩
    rw [Dm msg (i + size) s0 s1 s2 _ _ hm h2 ⟨a5,by omega⟩ s1 (by omega) s1.toNat k (i + s0) 0 [] (by omega) (by omega) (Int.le_refl _) (by omega) (by omega) (by simp only [List.length_nil];omega)]
    have hz:(msg.extract i.toNat (i + s0).toNat).size ≤ 16:=by rw [ByteArray.size_extract];omega
    cases hr:Fj msg (i + size) s1.toNat (i + s0) [] with
    | none =>
      simp only [Option.bind_some]
      rw [if_pos (by decide),if_pos (by decide),vR]
    | some R =>
      obtain ⟨b1,b2,b3,l',b4,b5⟩:=qH msg _ hm _ _ _ R hr (by omega)
      have hcz:=uQ b5
      rw [List.nil_append] at b4
      rw [← b4] at hcz
      rw [List.length_nil,Nat.zero_add] at b3
      have hbz:(msg.extract R.2.toNat (i + size).toNat).size = (i + size - R.2).toNat:=by rw [ByteArray.size_extract];omega
      simp only [Option.bind_some]
      rw [if_pos (by omega),if_pos (by omega)]
      by_cases d:R.2 + s2 = i + size
      · rw [if_pos d,show (((msg.extract R.2.toNat (i + size).toNat).size:Int) == s2) = true from beq_iff_eq.mpr (by omega),Wy k.succ (by omega) kind a7]
      · rw [if_neg d,show (((msg.extract R.2.toNat (i + size).toNat).size:Int) == s2) = false from beq_eq_false_iff_ne.mpr (by omega),vR]
  · rw [if_neg c,if_neg c]
    simp only [Option.bind_some]
    rw [if_pos (by decide),if_pos (by decide),vR]
theorem Wz (k:Nat) (hk:K0 + 10 ≤ k) (msg:ByteArray) (i size kind:Int) (hm:msg.size ≤ 100000):aD.f k msg i size kind = some (Ac msg i size kind):=by
  unfold aD.f Ac
  rw [uL msg i size (by omega)]
  simp only [Option.bind_some]
  by_cases ht:gV msg i size
  · rw [if_pos ht,if_pos ht]
    simp only [if_true]
    cases hs:aD.zw kind with
    | some s=>exact Ku k hk msg i size kind hm ht s hs
    | none =>
      have hz:(msg.extract i.toNat (i + size).toNat).size ≤ 100000:=by rw [ByteArray.size_extract];omega
      have:=Bp msg i size kind k (by omega) hm (dK.f k) (fun s h=>Oa k (by omega) s h) _ hz
      unfold aD.fin
      rw [if_pos rfl]
      exact this
  · rw [if_neg ht,if_neg ht];rfl
theorem oC (k:Nat) (hk:1 ≤ k) (kind:Int):aH.f k kind = some ((aD.zw kind).getD (0,0,0)):=by
  obtain ⟨k,rfl⟩:∃ j,k = j + 1:=⟨k - 1,by omega⟩
  unfold aH.f aD.zw
  simp only [aH.j0]
  by_cases h1:kind = 1
  · subst h1;rfl
  by_cases h2:kind = 28
  · subst h2;rfl
  by_cases h3:kind = 2
  · subst h3;rfl
  by_cases h4:kind = 5
  · subst h4;rfl
  by_cases h5:kind = 12
  · subst h5;rfl
  by_cases h6:kind = 6
  · subst h6;rfl
  by_cases h7:kind = 15
  · subst h7;rfl
  by_cases h8:kind = 33
  · subst h8;rfl
  simp [h1,h2,h3,h4,h5,h6,h7,h8]
theorem Fp (msg:ByteArray) (i size s0 s1 s2:Int) (hm:msg.size ≤ 100000) (ht:gV msg i size) (h2:0 ≤ s2 ∧ s2 ≤ 1000) (hs:s1 ≤ 100):∀ (n k:Nat) (j x:Int) (out:ByteArray),K0 + n ≤ k → x + n = s1 → 0 ≤ x → i + size < j → j ≤ (msg.size:Int) → out.size + 300 * n ≤ 1000000 →
    aX.l0 (k + 1) msg i size out j x s0 s1 s2 = some (⟨#[]⟩,4)
  | 0,k,j,x,out,hk,hx,hx0,hj,hjm,ho=>by
    obtain ⟨t0,t1,t2⟩:=ht
    rw [aX.l0,if_neg (by omega),dP (n:=j + s2) (by omega) (by omega),dP (n:=i + size) (by omega) (by omega),if_neg (by omega)]
  | n + 1,k,j,x,out,hk,hx,hx0,hj,hjm,ho=>by
    obtain ⟨k,rfl⟩:∃ m,k = m + 1:=⟨k - 1,by omega⟩
    rw [aX.l0,if_pos (by omega),vP (k + 1) msg j hm (qI hm (by omega) (by omega))]
    simp only [Option.bind_some]
    rcases uP msg j hm with ⟨b1,b2,_,b4,b5⟩ | ⟨b1,_⟩
    · have hz:=p9 b2
      rw [if_pos b1,if_pos (by omega),dP (n:=x + 1) (by omega) (by omega)]
      exact Fp msg i size s0 s1 s2 hm ht h2 hs n k _ _ _ (by omega) (by omega) (by omega) (by omega) b5 (by rw [ByteArray.size_append];omega)
    · rw [if_neg (by omega)]
theorem Oc (msg:ByteArray) (i size s0 s1 s2:Int) (a:ByteArray) (hm:msg.size ≤ 100000) (ht:gV msg i size) (h2:0 ≤ s2 ∧ s2 ≤ 1000) (hs:s1 ≤ 100):∀ (n k:Nat) (j x:Int) (l:List ByteArray),K0 + n ≤ k → x + n = s1 → 0 ≤ x → 0 ≤ j → j ≤ i + size → (a ++ strings_Join.cat l).size + 300 * n ≤ 800000 →
    aX.l0 (k + 1) msg i size (a ++ strings_Join.cat l) j x s0 s1 s2 = some (match Fj msg (i + size) n j l with
      | some R=>if R.2 + s2 = i + size then zA (a ++ strings_Join.cat R.1 ++ msg.extract R.2.toNat (i + size).toNat) else (⟨#[]⟩,4)
      | none=>(⟨#[]⟩,4))
  | 0,k,j,x,l,hk,hx,hx0,hj0,hj,ho=>by
    obtain ⟨t0,t1,t2⟩:=ht
    rw [aX.l0,if_neg (by omega),dP (n:=j + s2) (by omega) (by omega),dP (n:=i + size) (by omega) (by omega),Fj]
    simp only
    by_cases c:j + s2 = i + size
    · have hz:(msg.extract j.toNat (i + size).toNat).size ≤ 100000:=by rw [ByteArray.size_extract];omega
      rw [if_pos c,if_pos c,if_pos hj0,if_pos hj,if_pos t2,if_pos (by omega),vQ]
    · rw [if_neg c,if_neg c]
  | n + 1,k,j,x,l,hk,hx,hx0,hj0,hj,ho=>by
    have ht0:=ht
    obtain ⟨t0,t1,t2⟩:=ht
    obtain ⟨k,rfl⟩:∃ m,k = m + 1:=⟨k - 1,by omega⟩
    rw [aX.l0,if_pos (by omega),vP (k + 1) msg j hm (qI hm (by omega) (by omega)),Fj]
    simp only [Option.bind_some]
    rcases uP msg j hm with ⟨b1,b2,_,b4,b5⟩ | ⟨b1,_⟩
    · have hz:=p9 b2
      rw [if_pos b1,if_pos b1,if_pos (by omega),dP (n:=x + 1) (by omega) (by omega)]
      by_cases c:(wF msg j).2.1 > i + size
      · rw [if_pos c]
        exact Fp msg i size s0 s1 s2 hm ht0 h2 hs n k _ _ _ (by omega) (by omega) (by omega) (by omega) b5 (by rw [ByteArray.size_append];omega)
      · rw [if_neg c]
        have e:a ++ strings_Join.cat l ++ (wF msg j).1 = a ++ strings_Join.cat (l ++ [(wF msg j).1]):=by rw [GN,RP,ByteArray.append_assoc]
        rw [e]
        exact Oc msg i size s0 s1 s2 a hm ht0 h2 hs n k _ _ _ (by omega) (by omega) (by omega) (by omega) (by omega) (by rw [← e,ByteArray.size_append];omega)
    · rw [if_neg (by omega),if_neg (by omega)]
theorem GQ (k:Nat) (hk:K0 + 10 ≤ k) (msg:ByteArray) (i size kind:Int) (hm:msg.size ≤ 100000):aX.f k msg i size kind = some (Ac msg i size kind):=by
  unfold aX.f Ac
  rw [pW msg i size (by omega),oC k (by omega)]
  simp only [Option.bind_some]
  by_cases ht:gV msg i size
  · rw [if_pos ht,if_pos ht]
    simp only [if_true]
    obtain ⟨t0,t1,t2⟩:=ht
    have hz:(msg.extract i.toNat (i + size).toNat).size = size.toNat:=by rw [ByteArray.size_extract];omega
    cases hs:aD.zw kind with
    | none =>
      simp only [Option.getD_none]
      rw [if_pos (by decide)]
      exact Bp msg i size kind k (by omega) hm (bq.f k) (fun s h=>Dq k (by omega) s h) _ (by omega)
    | some s =>
      obtain ⟨a1,a2,a3,a4,a5,a6,a7,a8⟩:=kY hs
      obtain ⟨s0,s1,s2⟩:=s
      simp only at a1 a2 a3 a4 a5 a6 a8
      simp only [Option.getD_some]
      have main:(if s0 > size then some ((⟨#[]⟩:ByteArray),(4:Int)) else (if 0 ≤ s0 then (if s0 ≤ ((msg.extract i.toNat (i + size).toNat).size:Int) then (aX.l0 k msg i size ((msg.extract i.toNat (i + size).toNat).extract 0 (s0:Int).toNat) (wrap64 (i + s0)) 0 s0 s1 s2) else none) else none)) = some (Kt msg i size (s0,s1,s2)):=by
        unfold Kt
        simp only
        by_cases c:s0 > size
        · rw [if_pos c,if_neg (by omega)]
        · rw [if_neg c,if_pos a1,if_pos (by omega),if_pos (by omega),dP (by omega) (by omega)]
          obtain ⟨k,rfl⟩:∃ j,k = j + 1:=⟨k - 1,by omega⟩
          have e:(msg.extract i.toNat (i + size).toNat).extract 0 s0.toNat = msg.extract i.toNat (i + s0).toNat:=by
            rw [ByteArray.extract_extract];congr 1 <;> omega
          have hz2:(msg.extract i.toNat (i + s0).toNat).size ≤ 16:=by rw [ByteArray.size_extract];omega
          have h:=Oc msg i size s0 s1 s2 (msg.extract i.toNat (i + s0).toNat) hm ⟨t0,t1,t2⟩ ⟨a5,by omega⟩ (by omega) s1.toNat k (i + s0) 0 [] (by omega) (by omega) (Int.le_refl _) (by omega) (by omega) (by simp only [strings_Join.cat,append_empty];omega)
          simp only [strings_Join.cat,append_empty] at h
          rw [e,h]
      have hne:¬ ((s0 == 0 && (s1 == 0 && (s2 == 0))) = true):=by
        intro h
        simp only [Bool.and_eq_true,beq_iff_eq] at h
        exact a8 h.1 h.2.1
      rw [if_neg hne]
      exact main
  · rw [if_neg ht,if_neg ht];rfl
end Go.Proofs.Ytdkkgecdhapfhaa.ZQ
namespace Go.Proofs.Ytdkkgecdhapfhaa.ZQ
open Go.RowKit Go.Proofs.YtdkkgecdhapfhaaW.bD Go.Proofs.YtdkkgecdhapfhaaW.dL Go.Proofs.YtdkkgecdhapfhaaW.eO Go.Proofs.Ytdkkgecdhapfhaa.B
def xg (kind:Int) (d:ByteArray):Bool:=decide (d.size ≤ 65535) && (decide ((Ac d 0 d.size kind).2 = 0) && decide ((Ac d 0 d.size kind).1 = d))
theorem uR {kind:Int} {d:ByteArray}:xg kind d = true ↔ d.size ≤ 65535 ∧ Ac d 0 d.size kind = (d,0):=by
  unfold xg
  simp only [Bool.and_eq_true,decide_eq_true_eq]
  constructor
  · rintro ⟨h1,h2,h3⟩;exact ⟨h1,Prod.ext h3 h2⟩
  · rintro ⟨h1,h2⟩;rw [h2];exact ⟨h1,rfl,rfl⟩
theorem Bq (k:Nat) (hk:K0 + 10 ≤ k) (kind:Int) (d:ByteArray):iT.f k kind d = some (xg kind d):=by
  unfold iT.f xg
  by_cases h:(d.size:Int) > 65535
  · rw [if_pos h,decide_eq_false (by omega)];rfl
  · rw [if_neg h,Wz k hk d 0 _ kind (by omega),decide_eq_true (by omega),Bool.true_and]
    simp only [Option.bind_some]
    by_cases h0:(Ac d 0 d.size kind).2 = 0
    · rw [if_pos h0,decide_eq_true h0,zl,Bool.true_and]
    · rw [if_neg h0,decide_eq_false h0,Bool.false_and]
theorem nE (k:Nat) (hk:K0 + 10 ≤ k) (kind:Int) (d:ByteArray):bR.f k kind d = some (xg kind d):=by
  unfold bR.f xg
  by_cases h:(d.size:Int) > 65535
  · rw [if_pos h,decide_eq_false (by omega)];rfl
  · rw [if_neg h,GQ k hk d 0 _ kind (by omega),decide_eq_true (by omega),Bool.true_and]
    simp only [Option.bind_some]
    by_cases h0:(Ac d 0 d.size kind).2 = 0
    · rw [if_pos h0,decide_eq_true h0,zl,Bool.true_and]
    · rw [if_neg h0,decide_eq_false h0,Bool.false_and]
theorem GR (d:ByteArray):gV d 0 d.size:=⟨Int.le_refl _,by omega,by omega⟩
theorem Kv {x d:ByteArray} (h:zA x = (d,0)):x = d ∧ x.size ≤ 65535:=by
  unfold zA at h
  split at h
  · have:=congrArg Prod.snd h;cases this
  · exact ⟨congrArg Prod.fst h,by omega⟩
theorem qb {kind:Int} {d:ByteArray} {s:Int × Int × Int} (h:xg kind d = true) (hs:aD.zw kind = some s) :
    ∃ R,s.1 ≤ (d.size:Int) ∧ Fj d d.size s.2.1.toNat s.1 [] = some R ∧ R.2 + s.2.2 = d.size ∧ d = d.extract 0 s.1.toNat ++ strings_Join.cat R.1 ++ d.extract R.2.toNat d.size ∧ s.1 ≤ R.2 ∧ R.2 ≤ (d.size:Int) ∧ R.1.length = s.2.1.toNat ∧ (∀ x ∈ R.1,jM x = true) ∧ R.2 = s.1 + (strings_Join.cat R.1).size:=by
  obtain ⟨h0,h1⟩:=uR.mp h
  unfold Ac Kt at h1
  rw [if_pos (GR d),hs] at h1
  simp only [Int.zero_add,Int.toNat_natCast] at h1
  obtain ⟨a1,a2,a3,a4,a5,a6,a7,a8⟩:=kY hs
  by_cases c:s.1 ≤ (d.size:Int)
  · rw [if_pos c] at h1
    cases hr:Fj d d.size s.2.1.toNat s.1 [] with
    | none=>rw [hr] at h1;have:=congrArg Prod.snd h1;cases this
    | some R =>
      rw [hr] at h1
      simp only at h1
      by_cases e:R.2 + s.2.2 = d.size
      · rw [if_pos e] at h1
        obtain ⟨h2,_⟩:=Kv h1
        obtain ⟨b1,b2,b3,l',b4,b5⟩:=qH d _ (by omega) _ _ _ R hr c
        rw [List.nil_append] at b4
        rw [← b4] at b5
        have hz:=congrArg ByteArray.size h2
        simp only [ByteArray.size_append,ByteArray.size_extract] at hz
        refine ⟨R,c,rfl,e,h2.symm,b1,b2,by rw [b3];simp,b5,?_⟩
        simp only [show (0:Int).toNat = 0 from rfl] at hz
        omega
      · rw [if_neg e] at h1;have:=congrArg Prod.snd h1;cases this
  · rw [if_neg c] at h1;have:=congrArg Prod.snd h1;cases this
def prt (kind:Int) (d:ByteArray):ByteArray × ByteArray × List ByteArray × Bool :=
  if xg kind d = true then (match aD.zw kind with
    | some s=>(match Fj d d.size s.2.1.toNat s.1 [] with
      | some R=>(d.extract 0 s.1.toNat,d.extract R.2.toNat d.size,R.1,true)
      | none=>(⟨#[]⟩,⟨#[]⟩,[],false))
    | none=>(d,⟨#[]⟩,[],true)) else (⟨#[]⟩,⟨#[]⟩,[],false)
theorem vS : (⟨#[]⟩:ByteArray).size = 0:=rfl
theorem wT (k:Nat) (hk:K0 + 20 ≤ k) (d:ByteArray) (hd:d.size ≤ 65535) (s0 s1 s2:Int) (a1:0 ≤ s0) (a3:0 ≤ s1) (a4:s1 ≤ 2) (a5:0 ≤ s2) (a6:s2 ≤ 20) (R:List ByteArray × Int) (c1:s0 ≤ (d.size:Int)) (c2:Fj d d.size s1.toNat s0 [] = some R) (c3:R.2 + s2 = d.size) :
    bV.f k d 0 (d.size:Int) s0 s1 s2 = some (d.extract 0 s0.toNat,d.extract R.2.toNat d.size,R.1,true):=by
  unfold bV.f
  have e2:wrap64 ((d.size:Int) - 0) = d.size:=by rw [dP (by omega) (by omega)];omega
  have e3:wrap64 (0 + s0) = s0:=by rw [dP (by omega) (by omega)];omega
  obtain ⟨b1,b2,_⟩:=qH d _ (by omega) _ _ _ R c2 c1
  have hz:((d.extract R.2.toNat d.size).size:Int) = s2:=by rw [ByteArray.size_extract];omega
  obtain ⟨k,rfl⟩:∃ j,k = j + 1:=⟨k - 1,by omega⟩
  have h:=Dm d d.size s0 s1 s2 (d.extract 0 s0.toNat) ⟨#[]⟩ (by omega) (Int.le_refl _) ⟨a5,by omega⟩ s1 (by omega) s1.toNat k s0 0 [] (by omega) (by omega) (Int.le_refl _) a1 c1 (by simp only [List.length_nil];omega)
  rw [c2] at h
  simp only [Int.toNat_natCast] at h
  rw [show (((d.extract R.2.toNat d.size).size:Int) == s2) = true from beq_iff_eq.mpr hz] at h
  rw [e2,if_pos c1,if_pos (Int.le_refl _),e3,if_pos a1,if_pos c1]
  exact h
theorem Kw (k:Nat) (hk:K0 + 20 ≤ k) (kind:Int) (d:ByteArray):dh.f k kind d = some (prt kind d):=by
  unfold dh.f prt
  rw [Bq k (by omega)]
  simp only [Option.bind_some]
  by_cases h:xg kind d = true
  · rw [if_pos h,if_pos h]
    cases hs:aD.zw kind with
    | none=>rfl
    | some s =>
      obtain ⟨R,c1,c2,c3,c4,c5,c6,c7,c8,c9⟩:=qb h hs
      obtain ⟨a1,a2,a3,a4,a5,a6,a7,a8⟩:=kY hs
      obtain ⟨h0,_⟩:=uR.mp h
      obtain ⟨s0,s1,s2⟩:=s
      simp only at a1 a2 a3 a4 a5 a6 c1 c2 c3 c5
      simp only [c2]
      exact wT k hk d h0 s0 s1 s2 a1 a3 a4 a5 a6 R c1 c2 c3
  · rw [if_neg h,if_neg h]
theorem Bt {kind:Int} {d:ByteArray}:(∀ x ∈ (prt kind d).2.2.1,jM x = true) ∧ (prt kind d).2.2.1.length ≤ 2:=by
  unfold prt
  by_cases h:xg kind d = true
  · rw [if_pos h]
    cases hs:aD.zw kind with
    | none=>exact ⟨by simp,by simp⟩
    | some s =>
      obtain ⟨R,c1,c2,c3,c4,c5,c6,c7,c8,c9⟩:=qb h hs
      obtain ⟨a1,a2,a3,a4,a5,a6,a7,a8⟩:=kY hs
      simp only [c2]
      exact ⟨c8,by omega⟩
  · rw [if_neg h];exact ⟨by simp,by simp⟩
theorem wG (k:Nat) (hk:600 ≤ k) (n:ByteArray) (hs:n.size ≤ 1000000000):mK.f k n = some (if jM n = true then oI n else ⟨#[]⟩):=by
  unfold mK.f
  rw [EX k hk n hs,V3 n hs]
  simp only [Option.bind_some]
  split <;> rfl
theorem zB (k:Nat) (hk:600 ≤ k) (n:ByteArray) (hs:n.size ≤ 1000000000):fC.f k n = some (if jM n = true then oI n else ⟨#[]⟩):=by
  unfold fC.f
  rw [uJ k hk n hs,Nz n hs]
  simp only [Option.bind_some]
  split <;> rfl
theorem all_eq (k:Nat) (hk:600 ≤ k):∀ l:List ByteArray,(∀ x ∈ l,jM x = true) → eH.all k l = some (l.map oI)
  | [],_=>rfl
  | x :: l,h=>by
    have hx:=h x (by simp)
    have hz:=p9 hx
    rw [eH.all,wG k hk x (by omega),if_pos hx]
    simp only [Option.bind_some]
    rw [all_eq k hk l (fun y hy=>h y (by simp [hy]))]
    rfl
theorem uS : ∀ l:List ByteArray,(strings_Join.cat (l.map oI)).size = (strings_Join.cat l).size
  | []=>rfl
  | x :: l=>by rw [List.map_cons,strings_Join.cat,strings_Join.cat,ByteArray.size_append,ByteArray.size_append,Bh,uS l]
def lw (kind:Int) (d:ByteArray):ByteArray:=(prt kind d).1 ++ strings_Join.cat ((prt kind d).2.2.1.map oI) ++ (prt kind d).2.1
theorem Ky {kind:Int} {d:ByteArray}:(prt kind d).1.size ≤ 65535 ∧ (prt kind d).2.1.size ≤ 65535:=by
  unfold prt
  by_cases h:xg kind d = true
  · obtain ⟨h0,_⟩:=uR.mp h
    rw [if_pos h]
    cases hs:aD.zw kind with
    | none=>exact ⟨h0,by show (⟨#[]⟩:ByteArray).size ≤ 65535;decide⟩
    | some s =>
      obtain ⟨R,c1,c2,_⟩:=qb h hs
      simp only [c2]
      simp only [ByteArray.size_extract]
      omega
  · rw [if_neg h];exact ⟨by decide,by decide⟩
theorem RQ (k:Nat) (hk:K0 + 20 ≤ k) (kind:Int) (d:ByteArray):eH.f k kind d = some (lw kind d):=by
  obtain ⟨p1,p2⟩:=@Bt kind d
  obtain ⟨p3,p4⟩:=@Ky kind d
  have hcz:=uQ p1
  unfold eH.f
  rw [Kw k hk]
  simp only [Option.bind_some]
  rw [all_eq k (by unfold K0 at hk;omega) _ p1]
  simp only [Option.bind_some]
  unfold eH.fin lw
  rw [if_pos (by rw [uS];omega),if_pos (by rw [List.length_map];omega)]
theorem uT (d:ByteArray) (e s0 s1 s2:Int) (hm:d.size ≤ 100000) (he:e ≤ (d.size:Int)) (hs:s1 ≤ 100):∀ (n k:Nat) (l:List ByteArray) (i x:Int) (R:List ByteArray × Int),K0 + n ≤ k → x + n = s1 → 0 ≤ x → i ≤ e → l.length + n ≤ 1000 → Fj d e n i l = some R →
    bg.l0 (k + 1) d l i x s0 s1 s2 = some R.1
  | 0,k,l,i,x,R,hk,hx,hx0,hi,hl,h=>by
    cases h
    rw [bg.l0,if_neg (by omega)]
  | n + 1,k,l,i,x,R,hk,hx,hx0,hi,hl,h=>by
    obtain ⟨k,rfl⟩:∃ m,k = m + 1:=⟨k - 1,by omega⟩
    rw [Fj] at h
    rw [bg.l0,if_pos (by omega),vP (k + 1) d i hm (qI hm (by omega) (by omega))]
    simp only [Option.bind_some]
    by_cases h0:(wF d i).2.2 = 0
    · rw [if_pos h0] at h
      by_cases h1:(wF d i).2.1 > e
      · rw [if_pos h1] at h;cases h
      · rw [if_neg h1] at h
        rw [if_pos (by omega),dP (by omega) (by omega)]
        exact uT d e s0 s1 s2 hm he hs n k _ _ _ R (by omega) (by omega) (by omega) (by omega) (by rw [List.length_append,List.length_singleton];omega) h
    · rw [if_neg h0] at h;cases h
theorem Dr (k:Nat) (hk:K0 + 20 ≤ k) (kind:Int) (d:ByteArray):bg.f k kind d = some (prt kind d).2.2.1:=by
  unfold bg.f prt
  rw [nE k (by omega),oC k (by omega)]
  simp only [Option.bind_some]
  obtain ⟨k,rfl⟩:∃ j,k = j + 1:=⟨k - 1,by omega⟩
  by_cases h:xg kind d = true
  · rw [if_pos h,if_pos h]
    obtain ⟨h0,_⟩:=uR.mp h
    cases hs:aD.zw kind with
    | none =>
      rw [Option.getD_none,bg.l0,if_neg (by decide)]
    | some s =>
      obtain ⟨R,c1,c2,c3,c4,c5,c6,c7,c8,c9⟩:=qb h hs
      obtain ⟨a1,a2,a3,a4,a5,a6,a7,a8⟩:=kY hs
      simp only [c2,Option.getD_some]
      exact uT d d.size _ _ _ (by omega) (Int.le_refl _) (by omega) s.2.1.toNat k [] s.1 0 R (by omega) (by omega) (Int.le_refl _) c1 (by simp only [List.length_nil];omega) c2
  · rw [if_neg h,if_neg h]
theorem RS {α} (d:α) (p:List α) (x:α) (s:List α):pJ d (p ++ x :: s) (p.length:Int) = x:=by
  unfold pJ;simp
theorem sw (d:ByteArray) (hd:d.size ≤ 65535) (xs:List ByteArray) (hxs:xs.length ≤ 1000):∀ (suf pre:List ByteArray) (k:Nat) (out:ByteArray) (i:Int),xs = pre ++ suf → (∀ x ∈ suf,jM x = true) → 700 + suf.length ≤ k → 0 ≤ i → i + (strings_Join.cat suf).size ≤ d.size → out.size + (strings_Join.cat suf).size ≤ 1000000 →
    bI.l0 (k + 1) d xs out i (pre.length:Int) = some (out ++ strings_Join.cat (suf.map oI) ++ d.extract (i + (strings_Join.cat suf).size).toNat d.size)
  | [],pre,k,out,i,hx,hn,hk,hi,hs,ho=>by
    rw [List.append_nil] at hx
    subst hx
    have hz:(d.extract i.toNat d.size).size ≤ 65535:=by rw [ByteArray.size_extract];omega
    simp only [strings_Join.cat,List.map_nil,EK,append_empty] at hs ho ⊢
    rw [bI.l0,if_neg (by omega),if_pos hi,if_pos (by omega),if_pos (by omega)]
    congr 3
    omega
  | x :: suf,pre,k,out,i,hx,hn,hk,hi,hs,ho=>by
    obtain ⟨k,rfl⟩:∃ j,k = j + 1:=⟨k - 1,by simp only [List.length_cons] at hk;omega⟩
    have hxn:=hn x (by simp)
    have hz:=p9 hxn
    have hrd:pJ ByteArray.empty xs (pre.length:Int) = x:=by rw [hx];exact RS _ _ _ _
    have hl:(xs.length:Int) = pre.length + suf.length + 1:=by rw [hx];simp;omega
    simp only [List.length_cons,strings_Join.cat,ByteArray.size_append] at hk hs ho
    have hlz:=Bh x
    rw [bI.l0,if_pos (by omega),if_pos (by omega),hrd,zB (k + 1) (by omega) x (by omega),if_pos hxn]
    simp only [Option.bind_some]
    rw [if_pos (by omega),dP (n:=i + (x.size:Int)) (by omega) (by omega),dP (by omega) (by omega),show ((pre.length:Int) + 1) = ((pre ++ [x]).length:Int) from by simp]
    have:=sw d hd xs hxs suf (pre ++ [x]) k (out ++ oI x) (i + x.size) (by rw [hx];simp) (fun y hy=>hn y (by simp [hy])) (by omega) (by omega) (by omega) (by rw [ByteArray.size_append];omega)
    rw [this]
    have e:i + (x.size:Int) + ((strings_Join.cat suf).size:Int) = i + ((x.size + (strings_Join.cat suf).size:Nat):Int):=by omega
    rw [e]
    simp only [List.map_cons,strings_Join.cat,ByteArray.size_append,ByteArray.append_assoc]
theorem GU (k:Nat) (hk:K0 + 20 ≤ k) (kind:Int) (d:ByteArray):bI.f k kind d = some (lw kind d):=by
  obtain ⟨p1,p2⟩:=@Bt kind d
  unfold bI.f
  rw [nE k (by omega),Dr k hk,oC k (by omega)]
  simp only [Option.bind_some]
  unfold lw prt
  unfold prt at p1 p2
  unfold K0 at hk
  obtain ⟨k,rfl⟩:∃ j,k = j + 1:=⟨k - 1,by omega⟩
  by_cases h:xg kind d = true
  · simp only [if_pos h] at p1 p2 ⊢
    obtain ⟨h0,_⟩:=uR.mp h
    cases hs:aD.zw kind with
    | none =>
      simp only [Option.getD_none]
      rw [if_pos (Int.le_refl _),if_pos (by omega)]
      have:=sw d h0 [] (by simp) [] [] k (d.extract 0 0) 0 rfl (by simp) (by simp only [List.length_nil];omega) (Int.le_refl _) (by simp only [strings_Join.cat,vS];omega) (by simp only [strings_Join.cat,vS,ByteArray.size_extract];omega)
      simp only [List.length_nil] at this
      rw [show ((0:Int).toNat) = 0 from rfl,show ((0:Nat):Int) = 0 from rfl] at *
      rw [this]
      have e0:d.extract 0 0 = ⟨#[]⟩:=eq_empty (by rw [ByteArray.size_extract];omega)
      simp [strings_Join.cat,e0,empty_append,append_empty,vS,ByteArray.extract_zero_size]
    | some s =>
      obtain ⟨R,c1,c2,c3,c4,c5,c6,c7,c8,c9⟩:=qb h hs
      obtain ⟨a1,a2,a3,a4,a5,a6,a7,a8⟩:=kY hs
      simp only [hs,c2,Option.getD_some] at p1 p2 ⊢
      have hcz:=uQ p1
      rw [if_pos a1,if_pos c1]
      have:=sw d h0 R.1 (by omega) R.1 [] k (d.extract 0 s.1.toNat) s.1 rfl p1 (by omega) a1 (by omega) (by rw [ByteArray.size_extract];omega)
      rw [show ((([]:List ByteArray).length:Nat):Int) = 0 from rfl] at this
      rw [this,c9]
  · simp only [if_neg h]
    rfl
end Go.Proofs.Ytdkkgecdhapfhaa.ZQ
set_option maxRecDepth 100000
namespace Go.Proofs.Ytdkkgecdhapfhaa.Kn
open Go Go.RowKit Ev
abbrev AG := List AV → Option (List AV × List AV)
def WA (g:ByteArray → SV):AG:=fun fZ=>match fZ with
  | [.one (.f (.str q))]=>if q.size ≤ 1000000 then some (Ig [g q],Ig [.str q]) else none
  | _=>none
def WB (g:Int → ByteArray → SV):AG:=fun fZ=>match fZ with
  | [.one (.f (.int .i64 k)),.one (.f (.str q))]=>if q.size ≤ 1000000 then some (Ig [g k q],Ig [.int .i64 k,.str q]) else none
  | _=>none
theorem xB {f:FuncId} {g:ByteArray → SV} (h:∀ q w,q.size ≤ 1000000 → Calls Try.prog f #[.string q] w fun e w'=>e = .returned (encS (g q)) ∧ Below w.heap.size w w'):Sat Try.prog f (WA g):=by
  refine Sat.wI fun fZ r he=>?_
  unfold WA at he
  split at he
  · split at he
    · cases he;rename_i q hq;exact ⟨[.str q],[g q],rfl,rfl,fun w=>h q w hq⟩
    · cases he
  · cases he
theorem xC {f:FuncId} {g:Int → ByteArray → SV} (h:∀ k q w,q.size ≤ 1000000 → Calls Try.prog f #[.int .i64 k,.string q] w fun e w'=>e = .returned (encS (g k q)) ∧ Below w.heap.size w w'):Sat Try.prog f (WB g):=by
  refine Sat.wI fun fZ r he=>?_
  unfold WB at he
  split at he
  · split at he
    · cases he;rename_i k q hq;exact ⟨[.int .i64 k,.str q],[g k q],rfl,rfl,fun w=>h k q w hq⟩
    · cases he
  · cases he
def XW (g:ByteArray → Int → Int → Int × Bool):AG:=fun fZ=>match fZ with
  | [.one (.f (.str q)),.one (.f (.int .i64 a)),.one (.f (.int .i64 z))]=>if q.size ≤ 1000000 then some (Ig [.int .i64 (g q a z).1,.bool (g q a z).2],Ig [.str q,.int .i64 a,.int .i64 z]) else none
  | _=>none
theorem Jd {f:FuncId} {g:ByteArray → Int → Int → Int × Bool} (h:∀ q a z w,q.size ≤ 1000000 → Calls Try.prog f #[.string q,.int .i64 a,.int .i64 z] w fun e w'=>e = .returned (.tuple #[.int .i64 (g q a z).1,.bool (g q a z).2]) ∧ Below w.heap.size w w'):Sat Try.prog f (XW g):=by
  refine Sat.wI fun fZ r he=>?_
  unfold XW at he
  split at he
  · split at he
    · cases he;rename_i q a z hq;exact ⟨[.str q,.int .i64 a,.int .i64 z],[.int .i64 (g q a z).1,.bool (g q a z).2],rfl,rfl,fun w=>h q a z w hq⟩
    · cases he
  · cases he
def Fq (s:ByteArray) (a z:Int):Int × Bool:=if ZQ.j3 s a z then (ZQ.iq z.toNat s a,true) else (0,false)
def WC (q:ByteArray):ByteArray:=if B.jM q = true then B.oI q else ⟨#[]⟩
def Od : Th:=⟨B.jM,WC,ZQ.xg,ZQ.lw⟩
def leafs : List (FuncId × AG):=[
  (91,WA fun q=>.bool (B.jM q)),(92,WA fun q=>.str (WC q)),
  (100,WA fun q=>.bool (B.jM q)),(101,WA fun q=>.str (WC q)),
  (94,WB fun k q=>.bool (ZQ.xg k q)),(95,WB fun k q=>.str (ZQ.lw k q)),
  (83,WB fun k q=>.bool (ZQ.xg k q)),(84,WB fun k q=>.str (ZQ.lw k q)),
  (88,Qo 1 false),(70,Qo 3 true),
  (74,XW Fq),(75,XW Fq),(82,gMC)]
theorem Fu : ∀ p ∈ leafs,Sat Try.prog p.1 p.2:=by
  have hk:∀ q:ByteArray,q.size ≤ 1000000 → q.size ≤ 1000000000:=fun q h=>by omega
  intro p hp
  simp only [leafs,List.mem_cons,List.not_mem_nil,or_false] at hp
  rcases hp with rfl | rfl | rfl | rfl | rfl | rfl | rfl | rfl | rfl | rfl | rfl | rfl | rfl
  · exact xB fun q w hq=>ZQ.iP.calls 600 q _ w (ZQ.EX 600 (Nat.le_refl _) q (hk q hq))
  · exact xB fun q w hq=>ZQ.mK.calls 600 q _ w (ZQ.wG 600 (Nat.le_refl _) q (hk q hq))
  · exact xB fun q w hq=>ZQ.dB.calls 600 q _ w (ZQ.uJ 600 (Nat.le_refl _) q (hk q hq))
  · exact xB fun q w hq=>ZQ.fC.calls 600 q _ w (ZQ.zB 600 (Nat.le_refl _) q (hk q hq))
  · exact xC fun k q w hq=>ZQ.iT.calls _ k q _ w (ZQ.Bq (ZQ.K0 + 20) (by omega) k q)
  · exact xC fun k q w hq=>ZQ.eH.calls _ k q _ w (ZQ.RQ (ZQ.K0 + 20) (by omega) k q)
  · exact xC fun k q w hq=>ZQ.bR.calls _ k q _ w (ZQ.nE (ZQ.K0 + 20) (by omega) k q)
  · exact xC fun k q w hq=>ZQ.bI.calls _ k q _ w (ZQ.GU (ZQ.K0 + 20) (by omega) k q)
  · exact Qp
  · exact Qq
  · refine Jd fun q a z w hq=>?_
    have h:=ZQ.get_eq 9 (Nat.le_refl _) q a z (by omega)
    exact (ZQ.bn.calls 9 q a z _ _ w h).mono fun e w' hh=>⟨hh.1,hh.2.below⟩
  · refine Jd fun q a z w hq=>?_
    have h:=ZQ.su 9 (Nat.le_refl _) q a z hq
    exact (ZQ.av.calls 9 q a z _ _ w h).mono fun e w' hh=>⟨hh.1,hh.2.below⟩
  · exact Qr
theorem zC : ∀ p ∈ leafs,∃ fn,Try.prog.funcs[p.1]? = some fn ∧ (fn.name == "runtime.NumGoroutine") = false ∧ fn.body.isSome = true:=by
  intro p hp
  simp only [leafs,List.mem_cons,List.not_mem_nil,or_false] at hp
  rcases hp with rfl | rfl | rfl | rfl | rfl | rfl | rfl | rfl | rfl | rfl | rfl | rfl | rfl
  · exact ⟨Try.f91,by kernel_rfl,by kernel_rfl,by kernel_rfl⟩
  · exact ⟨Try.f92,by kernel_rfl,by kernel_rfl,by kernel_rfl⟩
  · exact ⟨Try.f100,by kernel_rfl,by kernel_rfl,by kernel_rfl⟩
  · exact ⟨Try.f101,by kernel_rfl,by kernel_rfl,by kernel_rfl⟩
  · exact ⟨Try.f94,by kernel_rfl,by kernel_rfl,by kernel_rfl⟩
  · exact ⟨Try.f95,by kernel_rfl,by kernel_rfl,by kernel_rfl⟩
  · exact ⟨Try.f83,by kernel_rfl,by kernel_rfl,by kernel_rfl⟩
  · exact ⟨Try.f84,by kernel_rfl,by kernel_rfl,by kernel_rfl⟩
  · exact ⟨Try.f88,by kernel_rfl,by kernel_rfl,by kernel_rfl⟩
  · exact ⟨Try.f70,by kernel_rfl,by kernel_rfl,by kernel_rfl⟩
  · exact ⟨Try.f74,by kernel_rfl,by kernel_rfl,by kernel_rfl⟩
  · exact ⟨Try.f75,by kernel_rfl,by kernel_rfl,by kernel_rfl⟩
  · exact ⟨Try.f82,by kernel_rfl,by kernel_rfl,by kernel_rfl⟩
def Kz : Env:=pF leafs
theorem RU : iG Try.prog Kz:=yJ Fu
theorem KA : eB Try.prog Kz:=rT zC
noncomputable def ins : List (FuncId × AG):=(50,VD Kz 200000000000001 (0 + 4)) :: leafs
theorem WE : ∀ p ∈ ins,Sat Try.prog p.1 p.2:=by
  intro p hp
  rcases List.mem_cons.mp hp with rfl | hp
  · exact MU RU KA _ _
  · exact Fu p hp
theorem Oe : ∀ p ∈ ins,∃ fn,Try.prog.funcs[p.1]? = some fn ∧ (fn.name == "runtime.NumGoroutine") = false ∧ fn.body.isSome = true:=by
  intro p hp
  rcases List.mem_cons.mp hp with rfl | hp
  · exact ⟨Try.f50,by kernel_rfl,by kernel_rfl,by kernel_rfl⟩
  · exact zC p hp
noncomputable def ext1 : Env:=pF ins
theorem RV : iG Try.prog ext1:=yJ WE
theorem KC : eB Try.prog ext1:=rT Oe
theorem WG : Od.Ok ext1:=by
  constructor <;> intros <;> simp_all [ext1,ins,leafs,pF,WA,WB,Ig,XQ,Od,vs,vb,vi]
theorem Je {α:Type} (sz:Nat) (own:Bool) (l:List α) (f:α → List FV) (hf:∀ x,(f x).length = sz) (h:l.length ≤ 1000000):Qo sz own [vl (l.map f)] = some ([.one (if own then .own sz (l.map f) else .f (.sl (l.map f)))],[vl (l.map f)]):=by
  have h1:((l.map f).all fun r=>r.length == sz) = true:=by
    rw [List.all_eq_true];intro r hr;obtain ⟨x, -,rfl⟩:=List.mem_map.mp hr;exact beq_iff_eq.mpr (hf x)
  show (if (l.map f).length ≤ 1000000 ∧ _ then _ else _) = _
  rw [if_pos ⟨by rw [List.length_map];exact h,h1⟩]
theorem abt (l:List ByteArray) (h:l.length ≤ 1000000):Qo 1 false [vl (l.map gH)] = some ([vl (l.map gH)],[vl (l.map gH)]):=Je 1 false l gH (fun _=>rfl) h
theorem abu (l:List Qn) (h:l.length ≤ 1000000):Qo 3 true [vl (l.map rQ)] = some ([.one (.own 3 (l.map rQ))],[vl (l.map rQ)]):=Je 3 true l rQ (fun _=>rfl) h
theorem abv : qL Kz:=⟨fun l h=>abu l h,fun l h=>abt l h⟩
theorem WH : qL ext1:=⟨fun l h=>abu l h,fun l h=>abt l h⟩
theorem Bu (fZ:List AV):ext1 50 fZ = VD Kz 200000000000001 (0 + 4) fZ:=by
  unfold ext1 ins pF;rw [if_pos rfl]
theorem WI : VE Kz:=⟨fun m=>rfl⟩
theorem Og : P9 ext1 where
  d0 q:=by rw [Bu];exact MG q
  d1 s q h ho hm hc:=by rw [Bu];exact MH abv WI (Nat.le_refl _) s q h ho hm hc
theorem WJ : JF Fq ext1:=by
  refine ⟨fun s a z h=>?_,fun s a z h=>?_,fun s a z=>?_⟩
  · simp [ext1,ins,leafs,pF,XW,Ig,XQ,h,vs,vb,vi]
  · simp [ext1,ins,leafs,pF,XW,Ig,XQ,h,vs,vb,vi]
  · unfold Fq
    split
    · exact (ZQ.ou _ _ _).1
    · exact Int.le_refl _
theorem RX : Od.pI Fq:=by constructor <;> decide +kernel
end Go.Proofs.Ytdkkgecdhapfhaa.Kn
namespace Go.Proofs.Ytdkkgecdhapfhaa.Ev
open Go Go.RowKit
structure Old (w w':World):Prop where
  os:w'.os = w.os
  output:w'.output = w.output
  size:w.heap.size ≤ w'.heap.size
  block:∀ k,k < w.heap.size → w'.heap[k]? = w.heap[k]?
theorem Old.frame {W w':World} (h:Old W w') (may:MemPlace → Prop):W.keptBut w' may:=by
  refine ⟨h.os,h.output,fun i hi=>?_⟩
  rw [h.block i hi]
  split <;> simp_all
theorem Old.same {W w':World} (h:Old W w') {p:MemPlace} (hp:p.block < W.heap.size):W.sameAt w' p:=by
  cases p with
  | cell b o=>exact World.cell?_of_block (w:=W) (h.block b hp)
  | map b=>exact h.block b hp
theorem Old.trod {H:Type} {enc:TypeId × Value → H} {P:Program} {t:TypeId} (hl:laidOutB P = true) (hr:P.readableRec t = true) (hrow:t < P.types.size) {W W':World} {v:Value} {d:DataW H} {ps:List MemPlace}
    (h:DataW.Trod enc P W 0 (fun _=>true) true t v d ps) (hb:Old W W') (hlt:∀ x ∈ ps,x.block < W.heap.size):DataW.Trod enc P W' 0 (fun b=>decide (b < W.heap.size)) true t v d ps :=
  WideElems.Trod_stays hl hr hrow h (fun x hx=>hb.same (hlt x hx)) (fun x hx=>by simpa using hlt x hx)
theorem KD {P:Program} {Γ:Env} (kP:iG P Γ) {f:FuncId} {fZ rP:List AV} {b:Bool} {vals:List Value} {W:World} (h:Γ f fZ = some ([.one (.f (.bool b))],rP)) (ha:fO (fun k=>k < W.heap.size) W fZ vals []) :
    Calls P f vals.toArray W fun e W'=>e = .returned (.bool b) ∧ Old W W':=by
  refine (kP f fZ _ _ h (fun k=>k < W.heap.size) W vals [] ha List.nodup_nil (by simp) (fun _ h=>h)).mono fun e w' ⟨bK,vC,b1,b2,he,hp⟩=>?_
  refine ⟨?_,hp.kp.1,hp.kp.2,hp.big,fun k hk=>hp.ext k hk (by simp)⟩
  match vC,hp.rs with
  | [v],⟨c1,c2,h1,h2,h3⟩=>rw [he,show v = .bool b from h1.1];rfl
def GV (P:Program) {α:Type} (T:TypeId) (f:α → List FV) (G:α → Prop):Prop :=
  ∀ {H:Type} (enc:TypeId × Value → H) (w:World) (spare:Nat → Bool) (held:Bool) (fuel:Nat) (cs:List Value) (x:DataW H × List MemPlace),
    DataW.trod enc P w 0 spare held fuel T cs = some x → (∀ n ∈ x.1.weights P T,n ≤ reachBytes) → ∃ a:α,bZ (fun k=>k < w.heap.size) w (f a) cs ∧ G a
section
variable {P : Program}
theorem uU {k:IntKind} {T:TypeId} (h:P.underlying T = some (.int k)):GV P T (fun n=>[FV.int k n]) (fun n=>(Lit.int k n).wf = true):=by
  intro H enc w spare held fuel cs x hx _
  obtain ⟨n,rfl,rfl,hw⟩:=DataW.trod_int h hx
  exact ⟨n,⟨by simp only [eY],trivial⟩,hw⟩
theorem Oh {T:TypeId} (h:P.underlying T = some .bool):GV P T (fun b=>[FV.bool b]) (fun _=>True):=by
  intro H enc w spare held fuel cs x hx _
  obtain ⟨b,rfl,rfl⟩:=DataW.trod_bool h hx
  exact ⟨b,⟨by simp only [eY],trivial⟩,trivial⟩
theorem Jf {T:TypeId} (h:P.underlying T = some .string):GV P T (fun s=>[FV.str s]) (fun s=>s.size ≤ 140737488351232):=by
  intro H enc w spare held fuel cs x hx hz
  obtain ⟨s,rfl,rfl,hw⟩:=DataW.trod_string h hx
  refine ⟨s,⟨by simp only [eY],trivial⟩,?_⟩
  have:=hz s.data.toList.length (by simp [DataW.weights])
  rw [Array.length_toList] at this
  exact this
theorem nR {H:Type} {e:TypeId}:∀ {ds:List (DataW H)} {i:Nat} {d:DataW H},ds[i]? = some d → ∀ n ∈ d.weights P e,n ∈ DataW.weightsAll P e ds
  | [],i,d,h,_,_=>by simp at h
  | d0 :: ds,0,d,h,n,hn=>by
    simp at h;subst h
    exact List.mem_append.mpr (.inl hn)
  | d0 :: ds,i + 1,d,h,n,hn=>by
    simp at h
    exact List.mem_append.mpr (.inr (nR h n hn))
theorem wH {H:Type} {ts:List TypeId} {ds:List (DataW H)} (h:(DataW.weightsEach P ts ds).all (· ≤ reachBytes) = true) {j:Nat} {t:TypeId} {d:DataW H} (ht:ts[j]? = some t) (hd:ds[j]? = some d) :
    ∀ n ∈ d.weights P t,n ≤ reachBytes:=fun n hn=>by
  have:=List.all_eq_true.1 h n (DataW.weights_mem_each ht hd n hn)
  simpa using this
theorem uV {α:Type} {Q:Nat → α → Prop}:∀ n,(∀ i,i < n → ∃ y,Q i y) → ∃ ys:List α,ys.length = n ∧ ∀ i y,ys[i]? = some y → Q i y
  | 0,_=>⟨[],rfl,by simp⟩
  | n + 1,h=>by
    obtain ⟨ys,hl,hq⟩:=uV n (fun i hi=>h i (by omega))
    obtain ⟨y,hy⟩:=h n (by omega)
    refine ⟨ys ++ [y],by simp [hl],fun i z hz=>?_⟩
    by_cases hi:i < n
    · rw [List.getElem?_append_left (by omega)] at hz
      exact hq i z hz
    · have hlt:=(List.getElem?_eq_some_iff.1 hz).1
      simp only [List.length_append,List.length_singleton] at hlt
      obtain rfl:i = n:=by omega
      rw [List.getElem?_append_right (by omega),hl,Nat.sub_self] at hz
      simp at hz
      subst hz
      exact hy
theorem Bv {Fz:Nat → Prop} {w:World} {b:Nat}:∀ (xs:List FV) (cs:List Value) (o:Nat),bZ Fz w xs cs → (∀ i u,cs[i]? = some u → w.cell? ⟨b,o + i,none⟩ = some u) → dZ Fz w b o xs
  | [],_,_,_,_=>by simp only [dZ]
  | x :: xs,[],_,h,_=>h.elim
  | x :: xs,c :: cs,o,h,hc=>by
    simp only [dZ]
    exact ⟨⟨c,hc 0 c rfl,h.1⟩,Bv xs cs (o + 1) h.2 fun i u hi=>by rw [show o + 1 + i = o + (i + 1) from by omega];exact hc (i + 1) u hi⟩
theorem zD {Fz:Nat → Prop} {w:World} {sz b:Nat} {α:Type} {f:α → List FV} (hf:∀ a,(f a).length = sz):∀ (l:List α) (o:Nat),(∀ i y,l[i]? = some y → dZ Fz w b (o + i * sz) (f y)) → cZ Fz w sz b o (l.map f)
  | [],_,_=>by simp only [List.map_nil,cZ]
  | y :: l,o,h=>by
    simp only [List.map_cons,cZ]
    refine ⟨hf y,by simpa using h 0 y rfl,zD hf l (o + sz) fun i z hz=>?_⟩
    rw [show o + sz + i * sz = o + (i + 1) * sz from by rw [Nat.add_mul];omega]
    exact h (i + 1) z hz
theorem KE (a:Addr) (x y:Nat):(a.add x).add y = a.add (x + y):=by
  unfold Addr.add
  by_cases hx:x = 0
  · subst hx;simp
  · by_cases hy:y = 0
    · subst hy;simp [hx]
    · simp [hx,hy,Nat.add_assoc]
theorem zF {w:World} {a:Addr} {u:Value} (h:w.cell? a = some u):a = ⟨a.block,a.off,none⟩ ∧ a.block < w.heap.size:=by
  unfold World.cell? at h
  split at h
  · rename_i c _ _ hb
    split at h
    · cases h
    · rename_i hs
      obtain ⟨b,o,s⟩:=a
      cases s with
      | none=>exact ⟨rfl,by have:=(Array.getElem?_eq_some_iff.mp hb).1;exact this⟩
      | some s=>simp at hs
  · cases h
theorem Bw {α:Type} {f:α → List FV} {T e:TypeId} {G:α → Prop} (sz:Nat) (h:P.underlying T = some (.slice e)) (hc:P.cellsOf e = sz) (h0:0 < sz) (hf:∀ a,(f a).length = sz) (hby:decide (1 ≤ P.bytesOf e) = true) (hd:GV P e f G) :
    GV P T (fun l:List α=>[FV.sl (l.map f)]) (fun l=>l.length ≤ 140737488351232 ∧ ∀ x ∈ l,G x):=by
  intro H enc w spare held fuel cs x hx hz
  rcases DataW.trod_slice h hx with ⟨rfl,rfl⟩ | ⟨a,len,cap,elems,rest,n,_,rfl,rfl,hb,hl,hm,hlen,hel,_,_⟩
  · refine ⟨[],⟨?_,trivial⟩,by simp⟩
    simp only [eY]
    exact ⟨none,0,rfl,Nat.le_refl _,by simp,.inl rfl⟩
  · have hw:∀ m ∈ (elems.length + rest.length) * P.bytesOf e :: (DataW.weightsAll P e (elems.map (·.1)) ++ DataW.weightsAll P e (rest.map (·.1))),m ≤ reachBytes:=by
      intro m hm'
      refine hz m ?_
      simp only [DataW.weights,h,List.length_map]
      exact hm'
    obtain ⟨ys,hyl,hys⟩:=uV (α:=α) (Q:=fun i y=>∃ c,w.cells? 0 (a.add (i * P.cellsOf e)) (P.cellsOf e) = some c ∧ bZ (fun k=>k < w.heap.size) w (f y) c ∧ G y) len (fun i hi=>by
      have h1:=hel i hi
      rw [List.getElem?_eq_getElem (by omega),Option.bind_eq_some_iff] at h1
      obtain ⟨c,hc1,hc2⟩:=h1
      obtain ⟨y,hy,hg⟩:=hd enc w spare held n c _ hc2 (fun m hm'=>by
        refine hw m (List.mem_cons_of_mem _ (List.mem_append.mpr (.inl ?_)))
        exact nR (i:=i) (d:=(elems[i]'(by omega)).1) (by rw [List.getElem?_map,List.getElem?_eq_getElem (by omega)];rfl) m hm')
      exact ⟨y,c,hc1,hy,hg⟩)
    have hlen1:(elems.length + rest.length) * P.bytesOf e ≤ reachBytes:=hw _ (by simp)
    have hlm:cap ≤ 9223372036854775807:=by unfold maxLen at hm;omega
    refine ⟨ys,⟨?_,trivial⟩,?_,?_⟩
    · simp only [eY,List.length_map]
      refine ⟨some a,cap,by rw [hyl],by omega,by omega,?_⟩
      cases hy0:ys with
      | nil=>exact .inl rfl
      | cons y0 ys0 =>
        right
        obtain ⟨c0,k0,_,_⟩:=hys 0 y0 (by rw [hy0];rfl)
        rw [hc] at k0
        obtain ⟨_,kl,kc⟩:=World.cells?_some k0
        have k1:=kc 0 h0
        rw [List.getElem?_eq_getElem (by omega)] at k1
        obtain ⟨ea,eb⟩:=zF k1
        have ea0:(a.add (0 * sz)).add 0 = a:=by simp [Addr.add]
        rw [ea0] at ea eb
        refine ⟨a.block,a.off,sz,congrArg some ea,eb,?_⟩
        rw [← hy0]
        refine zD hf ys a.off fun i y hi=>?_
        obtain ⟨c,hc1,hk,_⟩:=hys i y hi
        rw [hc] at hc1
        obtain ⟨_,hcl,hcc⟩:=World.cells?_some hc1
        refine Bv _ c _ hk fun j u hj=>?_
        have hj':j < sz:=by have:=(List.getElem?_eq_some_iff.1 hj).1;omega
        have:=hcc j hj'
        rw [KE,hj] at this
        obtain ⟨e1,_⟩:=zF this
        rw [e1] at this
        have e2:a.add (i * sz + j) = ⟨a.block,a.off + i * sz + j,none⟩:=by
          rw [ea];unfold Addr.add;split
          · rename_i hz;congr 1;simp only;omega
          · congr 1;simp only;omega
        rw [e2] at this
        exact this
    · rw [hyl,← hlen]
      have h1:elems.length * P.bytesOf e ≤ (elems.length + rest.length) * P.bytesOf e:=Nat.mul_le_mul_right _ (by omega)
      have h2:reachBytes = 140737488351232:=rfl
      have h3:elems.length * 1 ≤ elems.length * P.bytesOf e:=Nat.mul_le_mul_left _ (of_decide_eq_true hby)
      omega
    · intro y hy
      obtain ⟨i,hi,rfl⟩:=List.mem_iff_getElem.1 hy
      obtain ⟨_,_,_,hg⟩:=hys i _ (List.getElem?_eq_getElem hi)
      exact hg
def RY (P:Program) {α:Type} (sz:Nat) (f:α → List FV) (fs:List (TypeId × Nat)) (off:Nat) (G:α → Prop):Prop :=
  ∀ {H:Type} (enc:TypeId × Value → H) (w:World) (spare:Nat → Bool) (held:Bool) (n:Nat) (cs:List Value) (xs:List (DataW H × List MemPlace)),
    (∀ (i:Nat) (f:TypeId × Nat),fs[i]? = some f → DataW.trod enc P w 0 spare held n f.1 ((cs.drop f.2).take (P.cellsOf f.1)) = xs[i]?) → xs.length = fs.length →
    (∀ (i:Nat) (x:DataW H × List MemPlace) (f:TypeId × Nat),xs[i]? = some x → fs[i]? = some f → ∀ m ∈ x.1.weights P f.1,m ≤ reachBytes) → cs.length = off + sz → ∃ a,bZ (fun k=>k < w.heap.size) w (f a) (cs.drop off) ∧ G a
theorem vT {α:Type} {sz:Nat} {f:α → List FV} {t:TypeId} {off:Nat} {G:α → Prop} (hd:GV P t f G) (hc:P.cellsOf t = sz):RY P sz f [(t,off)] off G:=by
  intro H enc w spare held n cs xs hf hl hw hn
  match xs,hl with
  | [y],_ =>
    have h1:=hf 0 _ rfl
    have h2:(cs.drop off).take (P.cellsOf t) = cs.drop off:=List.take_of_length_le (by rw [List.length_drop];omega)
    rw [h2] at h1
    exact hd enc w spare held n _ y h1 (hw 0 y _ rfl rfl)
theorem Bz {Fz:Nat → Prop} {w:World}:∀ {xs ys:List FV} {cs ds:List Value},bZ Fz w xs cs → bZ Fz w ys ds → bZ Fz w (xs ++ ys) (cs ++ ds)
  | [],_,[],_,_,h=>h
  | [],_,_ :: _,_,h,_=>h.elim
  | _ :: _,_,[],_,h,_=>h.elim
  | x :: xs,ys,c :: cs,ds,h,k=>⟨h.1,Bz h.2 k⟩
theorem kg {α β:Type} {sz sz':Nat} {f:α → List FV} {g:β → List FV} {t:TypeId} {fs:List (TypeId × Nat)} {off:Nat} {G:α → Prop} {G':β → Prop} (hd:GV P t f G) (hc:P.cellsOf t = sz)
    (hr:RY P sz' g fs (off + sz) G'):RY P (sz + sz') (fun p:α × β=>f p.1 ++ g p.2) ((t,off) :: fs) off (fun p=>G p.1 ∧ G' p.2):=by
  intro H enc w spare held n cs xs hf hl hw hn
  match xs,hl with
  | y :: ys,hl =>
    have h1:=hf 0 _ rfl
    obtain ⟨a,ha,ga⟩:=hd enc w spare held n _ y h1 (hw 0 y _ rfl rfl)
    obtain ⟨b,hb,gb⟩:=hr enc w spare held n cs ys (fun i f hi=>hf (i + 1) f hi) (by simpa using hl) (fun i x f hx hfi=>hw (i + 1) x f hx hfi) (by omega)
    refine ⟨(a,b),?_,ga,gb⟩
    have e:cs.drop off = (cs.drop off).take (P.cellsOf t) ++ cs.drop (off + sz):=by rw [← List.drop_drop,hc,List.take_append_drop]
    rw [e]
    exact Bz ha hb
theorem sD {α:Type} {sz:Nat} {f:α → List FV} {T:TypeId} {fs:Array Field} {G:α → Prop} (h:P.underlying T = some (.struct fs)) (hc:P.cellsOf T = sz)
    (hd:RY P sz f (fs.toList.map fun f=>(f.type,f.offset)) 0 G):GV P T f G:=by
  intro H enc w spare held fuel cs x hx hz
  obtain ⟨xs,n,_,rfl,hl,hlen,hf⟩:=DataW.trod_struct h hx
  have hd':=hd enc w spare held n cs xs ?_ (by rw [List.length_map,Array.length_toList];exact hlen) ?_ (by rw [Nat.zero_add,← hc];exact hl)
  · obtain ⟨a,ha,ga⟩:=hd'
    exact ⟨a,by simpa using ha,ga⟩
  · intro i f hi
    rw [List.getElem?_map,Option.map_eq_some_iff] at hi
    obtain ⟨f',hf',rfl⟩:=hi
    exact hf i f' (by rw [← Array.getElem?_toList];exact hf')
  · intro i x f hxi hfi m hm
    refine hz m ?_
    simp only [DataW.weights,h]
    refine DataW.weights_mem_each (j:=i) (t:=f.1) (d:=x.1) ?_ ?_ m hm
    · rw [List.getElem?_map] at hfi ⊢
      rw [Option.map_eq_some_iff] at hfi ⊢
      obtain ⟨f',hf',rfl⟩:=hfi
      exact ⟨f',hf',rfl⟩
    · rw [List.getElem?_map,hxi];rfl
theorem xD {α β:Type} {T:TypeId} {f:α → List FV} {f':β → List FV} {G:α → Prop} {G':β → Prop} (g:α → β) (hg:∀ a,f' (g a) = f a) (hG:∀ a,G a → G' (g a)) (hd:GV P T f G):GV P T f' G':=by
  intro H enc w spare held fuel cs x hx hz
  obtain ⟨a,ha,ga⟩:=hd enc w spare held fuel cs x hx hz
  exact ⟨g a,by rw [hg];exact ha,hG a ga⟩
theorem zG {w:World} {r:Reach} {base:Nat} {t:TypeId} {fs:Array Field} {v:Value} (ht:P.underlying t = some (.struct fs)) (h:Value.okWide P w r base t v):∃ cs,v = .agg cs:=by
  simp only [Value.okWide,ht] at h
  obtain ⟨cs,h1,_⟩:=h
  exact ⟨cs,h1⟩
theorem Fv {Fz:Nat → Prop} {w:World}:∀ {xs:List FV} {cs:List Value},bZ Fz w xs cs → lT Fz w (xs.map .f) cs []
  | [],[],_=>rfl
  | [],_ :: _,h=>h.elim
  | _ :: _,[],h=>h.elim
  | x :: xs,c :: cs,h=>⟨[],[],⟨h.1,rfl⟩,Fv h.2,rfl⟩
theorem Oi {Fz:Nat → Prop} {w:World} {xs:List FV} {cs:Array Value} (h:bZ Fz w xs cs.toList):oU Fz w (.agg (xs.map .f)) (.agg cs) []:=⟨cs,rfl,Fv h⟩
theorem Fw {Fz:Nat → Prop} {w:World} {x:FV} {v:Value} (h:eY Fz w x v):oU Fz w (.one (.f x)) v []:=⟨h,rfl⟩
theorem sF {Fz:Nat → Prop} {w:World} {x:AV} {v:Value} {xs:List AV} {vs:List Value} (h:oU Fz w x v []) (k:fO Fz w xs vs []):fO Fz w (x :: xs) (v :: vs) []:=⟨[],[],h,k,rfl⟩
theorem KF {Fz:Nat → Prop} {w:World}:fO Fz w [] [] []:=rfl
end
end Go.Proofs.Ytdkkgecdhapfhaa.Ev
set_option maxRecDepth 100000
namespace Go.Proofs.Ytdkkgecdhapfhaa.Kn
open Go Ev
theorem opQ : GV Try.prog 32 rQ (fun _=>True) :=
  xD (fun p:ByteArray × Int × Int=>⟨p.1,p.2.1,p.2.2⟩) (by exact fun _=>rfl) (by exact fun _ _=>trivial) (sD Try.underlying32 (by kernel_rfl) (kg (sz:=1) (sz':=2) (Jf Try.underlying9) (by kernel_rfl) (kg (sz:=1) (sz':=1) (uU Try.underlying3) (by kernel_rfl) (vT (uU Try.underlying3) (by kernel_rfl)))))
theorem opD : GV Try.prog 33 (fun d:List ByteArray=>[.sl (d.map gH)]) (fun d=>d.length ≤ 140737488351232) :=
  xD (fun d:List ByteArray=>d) (by exact fun _=>rfl) (by exact fun _ h=>h.1) (Bw 1 Try.underlying33 (by kernel_rfl) (by decide) (fun _=>rfl) (by kernel_rfl) (Jf Try.underlying9))
theorem opS : GV Try.prog 35 rS (fun x=>x.d.length ≤ 140737488351232) :=
  xD (fun p:Qn × List ByteArray × Int=>⟨p.1.q,p.1.t,p.1.c,p.2.1,p.2.2⟩) (by exact fun _=>rfl) (by exact fun _ h=>h.2.1) (sD Try.underlying35 (by kernel_rfl) (kg (sz:=3) (sz':=2) opQ (by kernel_rfl) (kg (sz:=1) (sz':=1) opD (by kernel_rfl) (vT (uU Try.underlying3) (by kernel_rfl)))))
theorem opO : GV Try.prog 80 KP (fun x=>x.s.d.length ≤ 140737488351232) :=
  xD (fun p:Int × Int × Qn × Bool × Se=>⟨p.1,p.2.1,p.2.2.1,p.2.2.2.1,p.2.2.2.2⟩) (by exact fun _=>rfl) (by exact fun _ h=>h.2.2.2.2) (sD Try.underlying80 (by kernel_rfl) (kg (sz:=1) (sz':=10) (uU Try.underlying3) (by kernel_rfl) (kg (sz:=1) (sz':=9) (uU Try.underlying3) (by kernel_rfl) (kg (sz:=3) (sz':=6) opQ (by kernel_rfl) (kg (sz:=1) (sz':=5) (Oh Try.underlying4) (by kernel_rfl) (vT opS (by kernel_rfl)))))))
theorem opL : GV Try.prog 71 (fun l:List On=>[.sl (l.map KP)]) (fun l=>l.length ≤ 140737488351232 ∧ ∀ x ∈ l,x.s.d.length ≤ 140737488351232) :=
  Bw 11 Try.underlying71 (by kernel_rfl) (by decide) (fun _=>rfl) (by kernel_rfl) opO
end Go.Proofs.Ytdkkgecdhapfhaa.Kn

/- A part of the proof of ChainLinks: cut, joined and given short names by a program of this session (wip/tools/pack.py); Lean checks it. No condition. -/
import Derived.Test.YtfokaoeinpnagaaPCLksj
import Derived.Test.YtfokaoeinpnagaaPCLksl
import Derived.Test.YtfokaoeinpnagaaPCLksk
import Derived.Test.YtfokaoeinpnagaaPCLksh
import Derived.Test.YtfokaoeinpnagaaPCLksi
import Derived.Test.YtfokaoeinpnagaaPCLkse
import Derived.ProofKit
import Derived.OpenShut
import Derived.SizedLaws
import Derived.ChangeArms
import Derived.ChangeSlices
import Derived.Carry
import Derived.KernelRfl
import Derived.Test.YtfokaoeinpnagaaPCLksd
set_option linter.unusedSectionVars false
set_option linter.unusedSimpArgs false
set_option linter.unusedVariables false
namespace Go.Proofs.Ytfokaoeinpnagaa.ZQ
open Go.RowKit Go.Proofs.YtfokaoeinpnagaaW.bD Go.Proofs.YtfokaoeinpnagaaW.dI Go.Proofs.YtfokaoeinpnagaaW.eO
attribute [local go_sem] jr jv ku kC iF iG jw jy
attribute [local go_sem high] V7
def aN.j0 : Nat → Int → Bool → Option (Int × Int × Int)
 | 0,_,_=>none
 | k + 1,x3,x4=>if x4 = true then (some (0,1,0)) else (if x3 = 6 then (some (0,2,20)) else (if x3 = 15 then (some (2,1,0)) else (if x3 = 33 then (some (6,1,0)) else (if x3 = 1 then (some (4,0,0)) else (if x3 = 28 then (some (16,0,0)) else (some (0,0,0)))))))
def aN.f (k:Nat) (a0:Int):Option (Int × Int × Int):=if a0 = 2 then (aN.j0 k a0 (a0 == 2)) else (if a0 = 5 then (aN.j0 k a0 (a0 == 5)) else (aN.j0 k a0 (a0 == 12)))
set_option maxHeartbeats 8000000 in
set_option maxRecDepth 100000 in
theorem aN.calls (k:Nat) (a0:Int) (r1:Int) (r2:Int) (r3:Int) (w:World) (h:aN.f k a0 = some (r1,r2,r3)) :
  Calls Try.prog 53 #[.int .i64 a0] w fun e w'=>e = .returned (.agg #[.int .i64 r1,.int .i64 r2,.int .i64 r3]) ∧ Below w.heap.size w w':=by
 have Tm:=Try.underlying119
 have HB:=aj.mk (Below.refl w.heap.size w)
 have H:(if a0 = 2 then (aN.j0 k a0 (a0 == 2)) else (if a0 = 5 then (aN.j0 k a0 (a0 == 5)) else (aN.j0 k a0 (a0 == 12)))) = some (r1,r2,r3):=h
 clear h
 have VN:=aj.mk H
 clear H
 go_enter Try.func53,Try.ntmps53
 go_upto_if 4 with (first | ((with_reducible refine gJ (N:=2) rfl ?_);refine fQ ?hg (N:=2) ?hd (cs:=#[.int .i64 0,.int .i64 0,.int .i64 0]) (t:=119) ?hr ?_;(case hd=>rfl);(case hg=>rfl);(case hr=>first | (go_simp;done) | (go_simp;rfl));intro gX hg w3 gW hb;have eH:=aj.mk (bI (by repeat (first | (with_reducible first | exact HB.out | apply ak | apply ah | apply au) | exact HB.out)) hb);have iB:=aj.mk (gW);have jE:=aj.mk ((by rw [hg];exact (bK (by repeat (first | (with_reducible first | exact HB.out | apply ak | apply ah | apply au) | exact HB.out))):w.heap.size ≤ gX));have jJ:=aj.mk ((by rw [hg];exact (bK (by repeat (first | (with_reducible first | exact HB.out | apply ak | apply ah | apply au) | exact HB.out))):w.heap.size ≤ gX));clear HB;have HB:=eH;have dR:=iB;have ahw:=jE;have qW:=jJ;clear eH iB jE jJ;clear hb gW hg))
 (try simp only [Act.put,List.setIfInBounds_toArray,List.set_cons_zero,List.set_cons_succ])
 go_cut [4] (fun v4 wc=>∃ (kq:Nat) (qE:Bool),v4 = .bool qE ∧ aj (aN.j0 kq a0 qE = some (r1,r2,r3)) ∧ aj (kq ≤ k) ∧ aj (wc.heap[gX]? = some (.cells #[.int .i64 0,.int .i64 0,.int .i64 0] 119 (0,0))) ∧ aj (Below w.heap.size w wc))
 case first =>
  have H:=VN.out
  clear VN
  by_cases c4:a0 = 2
  ·rw [if_pos c4] at H
   have qG:(a0 == 2) = true:=beq_iff_eq.mpr c4
   have JF:(a0 != 2) = false:=bne_eq_false_iff_eq.mpr c4
   clear c4
   (first | rw [qG] | rw [MW] | (simp only [gT,iA];rw [qG]) | skip)
   have H':=aj.mk H
   clear H
   go_wp2
   go_meet
   case rel=>exact ⟨_,((a0 == 2)),(by first | rfl | (simp;done) | (simp [*];done) | (simp [B.aX];done) | (simp [B.aY];done)),H',⟨by first | omega | exact Nat.le_refl _⟩,⟨by (with_reducible repeat (first | refine aG ?_ _ | refine aH ?_ | refine aD ?_ _));exact dR.out⟩,⟨by repeat (first | (with_reducible first | exact HB.out | apply ak | apply ah | apply au | refine aT ?_ qW.out) | exact HB.out)⟩⟩
  ·rw [if_neg c4] at H
   have qG:(a0 == 2) = false:=beq_eq_false_iff_ne.mpr c4
   have JF:(a0 != 2) = true:=bne_iff_ne.mpr c4
   (first | rw [qG] | rw [MW] | (simp only [gT,iA];rw [qG]) | skip)
   by_cases c5:a0 = 5
   ·rw [if_pos c5] at H
    have pJ:(a0 == 5) = true:=beq_iff_eq.mpr c5
    have uZ:(a0 != 5) = false:=bne_eq_false_iff_eq.mpr c5
    clear c5
    have H':=aj.mk H
    clear H
    go_wp2
    go_meet
    case rel=>exact ⟨_,((a0 == 5)),(by first | rfl | (simp;done) | (simp [*];done) | (simp [B.aX];done) | (simp [B.aY];done)),H',⟨by first | omega | exact Nat.le_refl _⟩,⟨by (with_reducible repeat (first | refine aG ?_ _ | refine aH ?_ | refine aD ?_ _));exact dR.out⟩,⟨by repeat (first | (with_reducible first | exact HB.out | apply ak | apply ah | apply au | refine aT ?_ qW.out) | exact HB.out)⟩⟩
   ·rw [if_neg c5] at H
    have pJ:(a0 == 5) = false:=beq_eq_false_iff_ne.mpr c5
    have uZ:(a0 != 5) = true:=bne_iff_ne.mpr c5
    have H':=aj.mk H
    clear H
    go_wp2
    go_meet
    case rel=>exact ⟨_,((a0 == 12)),(by first | rfl | (simp;done) | (simp [*];done) | (simp [B.aX];done) | (simp [B.aY];done)),H',⟨by first | omega | exact Nat.le_refl _⟩,⟨by (with_reducible repeat (first | refine aG ?_ _ | refine aH ?_ | refine aD ?_ _));exact dR.out⟩,⟨by repeat (first | (with_reducible first | exact HB.out | apply ak | apply ah | apply au | refine aT ?_ qW.out) | exact HB.out)⟩⟩
 case rest =>
  clear VN
  try clear p2
  try clear c4
  try clear qG
  try clear JF
  try clear MW
  try clear c5
  try clear pJ
  try clear uZ
  obtain ⟨kq,qE,rfl,HA,HJ1,dR,HB⟩:=hcut
  cases kq with
  | zero=>exact absurd HA.out (by simp [aN.j0])
  | succ kj1 =>
   have H:=HA.out
   clear HA
   simp only [aN.j0] at H
   by_cases c6:qE = true
   ·subst c6
    have H1:(some (0,1,0)) = some (r1,r2,r3):=by rw [if_pos rfl] at H;exact H
    clear H
    have H:=H1
    clear H1
    simp only [Option.some.injEq,Prod.mk.injEq] at H
    obtain ⟨rfl,rfl,rfl⟩:=H
    have afC:wc.cell? ⟨gX,0,none⟩ = some (.int .i64 0):=(aK dR.out 0).trans rfl
    have afD:wc.cell? ⟨gX,1,none⟩ = some (.int .i64 0):=(aK dR.out 1).trans rfl
    have afE:wc.cell? ⟨gX,2,none⟩ = some (.int .i64 0):=(aK dR.out 2).trans rfl
    have afF:=ay dR.out 0
    have afG:=ay dR.out 1
    have afH:=ay dR.out 2
    go_wp2
    refine bodyPost_ret (results_cell_row rfl _ _ gX 119 #[.int .i64 0,.int .i64 1,.int .i64 0] (0,0) _ rfl (by (with_reducible repeat (first | refine aG ?_ _ | refine aH ?_ | refine aD ?_ _));refine bU (cs:=#[.int .i64 0,.int .i64 1,.int .i64 0]) ?_ 2 _ rfl;(with_reducible repeat (first | refine aG ?_ _ | refine aH ?_ | refine aD ?_ _));refine bU (cs:=#[.int .i64 0,.int .i64 0,.int .i64 0]) ?_ 1 _ rfl;(with_reducible repeat (first | refine aG ?_ _ | refine aH ?_ | refine aD ?_ _));refine bU (cs:=#[.int .i64 0,.int .i64 0,.int .i64 0]) ?_ 0 _ rfl;(with_reducible repeat (first | refine aG ?_ _ | refine aH ?_ | refine aD ?_ _));exact dR.out) Try.underlying119 rfl (by kernel_rfl)) rfl ?_
    exact ⟨by first | rfl | (simp [aI,aJ] <;> rfl) | (simp [*,aI,aJ] <;> rfl),by repeat (first | (with_reducible first | exact HB.out | apply ak | apply ah | apply au | refine aT ?_ qW.out) | exact HB.out)⟩
   ·replace c6:=Bool.eq_false_iff.mpr c6
    subst c6
    have H1:(if a0 = 6 then (some (0,2,20)) else (if a0 = 15 then (some (2,1,0)) else (if a0 = 33 then (some (6,1,0)) else (if a0 = 1 then (some (4,0,0)) else (if a0 = 28 then (some (16,0,0)) else (some (0,0,0))))))) = some (r1,r2,r3):=by rw [if_neg (show ¬ (false = true) by decide)] at H;exact H
    clear H
    have H:=H1
    clear H1
    by_cases c8:a0 = 6
    ·rw [if_pos c8] at H
     have uW:(a0 == 6) = true:=beq_iff_eq.mpr c8
     have uX:(a0 != 6) = false:=bne_eq_false_iff_eq.mpr c8
     clear c8
     simp only [Option.some.injEq,Prod.mk.injEq] at H
     obtain ⟨rfl,rfl,rfl⟩:=H
     have Nn:wc.cell? ⟨gX,0,none⟩ = some (.int .i64 0):=(aK dR.out 0).trans rfl
     have Np:wc.cell? ⟨gX,1,none⟩ = some (.int .i64 0):=(aK dR.out 1).trans rfl
     have Nq:wc.cell? ⟨gX,2,none⟩ = some (.int .i64 0):=(aK dR.out 2).trans rfl
     have Nr:=ay dR.out 0
     have Ns:=ay dR.out 1
     have Nu:=ay dR.out 2
     go_wp2
     refine bodyPost_ret (results_cell_row rfl _ _ gX 119 #[.int .i64 0,.int .i64 2,.int .i64 20] (0,0) _ rfl (by (with_reducible repeat (first | refine aG ?_ _ | refine aH ?_ | refine aD ?_ _));refine bU (cs:=#[.int .i64 0,.int .i64 2,.int .i64 0]) ?_ 2 _ rfl;(with_reducible repeat (first | refine aG ?_ _ | refine aH ?_ | refine aD ?_ _));refine bU (cs:=#[.int .i64 0,.int .i64 0,.int .i64 0]) ?_ 1 _ rfl;(with_reducible repeat (first | refine aG ?_ _ | refine aH ?_ | refine aD ?_ _));refine bU (cs:=#[.int .i64 0,.int .i64 0,.int .i64 0]) ?_ 0 _ rfl;(with_reducible repeat (first | refine aG ?_ _ | refine aH ?_ | refine aD ?_ _));exact dR.out) Try.underlying119 rfl (by kernel_rfl)) rfl ?_
     exact ⟨by first | rfl | (simp [aI,aJ] <;> rfl) | (simp [*,aI,aJ] <;> rfl),by repeat (first | (with_reducible first | exact HB.out | apply ak | apply ah | apply au | refine aT ?_ qW.out) | exact HB.out)⟩
    ·rw [if_neg c8] at H
     have uW:(a0 == 6) = false:=beq_eq_false_iff_ne.mpr c8
     have uX:(a0 != 6) = true:=bne_iff_ne.mpr c8
     by_cases c10:a0 = 15
     ·rw [if_pos c10] at H
      have qV:(a0 == 15) = true:=beq_iff_eq.mpr c10
      have Ay:(a0 != 15) = false:=bne_eq_false_iff_eq.mpr c10
      clear c10
      simp only [Option.some.injEq,Prod.mk.injEq] at H
      obtain ⟨rfl,rfl,rfl⟩:=H
      have ady:wc.cell? ⟨gX,0,none⟩ = some (.int .i64 0):=(aK dR.out 0).trans rfl
      have adz:wc.cell? ⟨gX,1,none⟩ = some (.int .i64 0):=(aK dR.out 1).trans rfl
      have adA:wc.cell? ⟨gX,2,none⟩ = some (.int .i64 0):=(aK dR.out 2).trans rfl
      have adB:=ay dR.out 0
      have adC:=ay dR.out 1
      have adD:=ay dR.out 2
      go_wp2
      refine bodyPost_ret (results_cell_row rfl _ _ gX 119 #[.int .i64 2,.int .i64 1,.int .i64 0] (0,0) _ rfl (by (with_reducible repeat (first | refine aG ?_ _ | refine aH ?_ | refine aD ?_ _));refine bU (cs:=#[.int .i64 2,.int .i64 1,.int .i64 0]) ?_ 2 _ rfl;(with_reducible repeat (first | refine aG ?_ _ | refine aH ?_ | refine aD ?_ _));refine bU (cs:=#[.int .i64 2,.int .i64 0,.int .i64 0]) ?_ 1 _ rfl;(with_reducible repeat (first | refine aG ?_ _ | refine aH ?_ | refine aD ?_ _));refine bU (cs:=#[.int .i64 0,.int .i64 0,.int .i64 0]) ?_ 0 _ rfl;(with_reducible repeat (first | refine aG ?_ _ | refine aH ?_ | refine aD ?_ _));exact dR.out) Try.underlying119 rfl (by kernel_rfl)) rfl ?_
      exact ⟨by first | rfl | (simp [aI,aJ] <;> rfl) | (simp [*,aI,aJ] <;> rfl),by repeat (first | (with_reducible first | exact HB.out | apply ak | apply ah | apply au | refine aT ?_ qW.out) | exact HB.out)⟩
     ·rw [if_neg c10] at H
      have qV:(a0 == 15) = false:=beq_eq_false_iff_ne.mpr c10
      have Ay:(a0 != 15) = true:=bne_iff_ne.mpr c10
      by_cases c12:a0 = 33
      ·rw [if_pos c12] at H
       have tT:(a0 == 33) = true:=beq_iff_eq.mpr c12
       have tV:(a0 != 33) = false:=bne_eq_false_iff_eq.mpr c12
       clear c12
       simp only [Option.some.injEq,Prod.mk.injEq] at H
       obtain ⟨rfl,rfl,rfl⟩:=H
       have QH:wc.cell? ⟨gX,0,none⟩ = some (.int .i64 0):=(aK dR.out 0).trans rfl
       have QI:wc.cell? ⟨gX,1,none⟩ = some (.int .i64 0):=(aK dR.out 1).trans rfl
       have QJ:wc.cell? ⟨gX,2,none⟩ = some (.int .i64 0):=(aK dR.out 2).trans rfl
       have QK:=ay dR.out 0
       have QL:=ay dR.out 1
       have QM:=ay dR.out 2
       go_wp2
       refine bodyPost_ret (results_cell_row rfl _ _ gX 119 #[.int .i64 6,.int .i64 1,.int .i64 0] (0,0) _ rfl (by (with_reducible repeat (first | refine aG ?_ _ | refine aH ?_ | refine aD ?_ _));refine bU (cs:=#[.int .i64 6,.int .i64 1,.int .i64 0]) ?_ 2 _ rfl;(with_reducible repeat (first | refine aG ?_ _ | refine aH ?_ | refine aD ?_ _));refine bU (cs:=#[.int .i64 6,.int .i64 0,.int .i64 0]) ?_ 1 _ rfl;(with_reducible repeat (first | refine aG ?_ _ | refine aH ?_ | refine aD ?_ _));refine bU (cs:=#[.int .i64 0,.int .i64 0,.int .i64 0]) ?_ 0 _ rfl;(with_reducible repeat (first | refine aG ?_ _ | refine aH ?_ | refine aD ?_ _));exact dR.out) Try.underlying119 rfl (by kernel_rfl)) rfl ?_
       exact ⟨by first | rfl | (simp [aI,aJ] <;> rfl) | (simp [*,aI,aJ] <;> rfl),by repeat (first | (with_reducible first | exact HB.out | apply ak | apply ah | apply au | refine aT ?_ qW.out) | exact HB.out)⟩
      ·rw [if_neg c12] at H
       have tT:(a0 == 33) = false:=beq_eq_false_iff_ne.mpr c12
       have tV:(a0 != 33) = true:=bne_iff_ne.mpr c12
       by_cases c14:a0 = 1
       ·rw [if_pos c14] at H
        have H9:(a0 == 1) = true:=beq_iff_eq.mpr c14
        have Te:(a0 != 1) = false:=bne_eq_false_iff_eq.mpr c14
        clear c14
        simp only [Option.some.injEq,Prod.mk.injEq] at H
        obtain ⟨rfl,rfl,rfl⟩:=H
        have Ct:wc.cell? ⟨gX,0,none⟩ = some (.int .i64 0):=(aK dR.out 0).trans rfl
        have Cu:wc.cell? ⟨gX,1,none⟩ = some (.int .i64 0):=(aK dR.out 1).trans rfl
        have Cv:wc.cell? ⟨gX,2,none⟩ = some (.int .i64 0):=(aK dR.out 2).trans rfl
        have Cw:=ay dR.out 0
        have Cx:=ay dR.out 1
        have Cy:=ay dR.out 2
        go_wp2
        refine bodyPost_ret (results_cell_row rfl _ _ gX 119 #[.int .i64 4,.int .i64 0,.int .i64 0] (0,0) _ rfl (by (with_reducible repeat (first | refine aG ?_ _ | refine aH ?_ | refine aD ?_ _));refine bU (cs:=#[.int .i64 4,.int .i64 0,.int .i64 0]) ?_ 2 _ rfl;(with_reducible repeat (first | refine aG ?_ _ | refine aH ?_ | refine aD ?_ _));refine bU (cs:=#[.int .i64 4,.int .i64 0,.int .i64 0]) ?_ 1 _ rfl;(with_reducible repeat (first | refine aG ?_ _ | refine aH ?_ | refine aD ?_ _));refine bU (cs:=#[.int .i64 0,.int .i64 0,.int .i64 0]) ?_ 0 _ rfl;(with_reducible repeat (first | refine aG ?_ _ | refine aH ?_ | refine aD ?_ _));exact dR.out) Try.underlying119 rfl (by kernel_rfl)) rfl ?_
        exact ⟨by first | rfl | (simp [aI,aJ] <;> rfl) | (simp [*,aI,aJ] <;> rfl),by repeat (first | (with_reducible first | exact HB.out | apply ak | apply ah | apply au | refine aT ?_ qW.out) | exact HB.out)⟩
       ·rw [if_neg c14] at H
        have H9:(a0 == 1) = false:=beq_eq_false_iff_ne.mpr c14
        have Te:(a0 != 1) = true:=bne_iff_ne.mpr c14
        by_cases c16:a0 = 28
        ·rw [if_pos c16] at H
         have H7:(a0 == 28) = true:=beq_iff_eq.mpr c16
         have aa2:(a0 != 28) = false:=bne_eq_false_iff_eq.mpr c16
         clear c16
         simp only [Option.some.injEq,Prod.mk.injEq] at H
         obtain ⟨rfl,rfl,rfl⟩:=H
         have adE:wc.cell? ⟨gX,0,none⟩ = some (.int .i64 0):=(aK dR.out 0).trans rfl
         have adF:wc.cell? ⟨gX,1,none⟩ = some (.int .i64 0):=(aK dR.out 1).trans rfl
         have adG:wc.cell? ⟨gX,2,none⟩ = some (.int .i64 0):=(aK dR.out 2).trans rfl
         have adH:=ay dR.out 0
         have adI:=ay dR.out 1
         have adJ:=ay dR.out 2
         go_wp2
         refine bodyPost_ret (results_cell_row rfl _ _ gX 119 #[.int .i64 16,.int .i64 0,.int .i64 0] (0,0) _ rfl (by (with_reducible repeat (first | refine aG ?_ _ | refine aH ?_ | refine aD ?_ _));refine bU (cs:=#[.int .i64 16,.int .i64 0,.int .i64 0]) ?_ 2 _ rfl;(with_reducible repeat (first | refine aG ?_ _ | refine aH ?_ | refine aD ?_ _));refine bU (cs:=#[.int .i64 16,.int .i64 0,.int .i64 0]) ?_ 1 _ rfl;(with_reducible repeat (first | refine aG ?_ _ | refine aH ?_ | refine aD ?_ _));refine bU (cs:=#[.int .i64 0,.int .i64 0,.int .i64 0]) ?_ 0 _ rfl;(with_reducible repeat (first | refine aG ?_ _ | refine aH ?_ | refine aD ?_ _));exact dR.out) Try.underlying119 rfl (by kernel_rfl)) rfl ?_
         exact ⟨by first | rfl | (simp [aI,aJ] <;> rfl) | (simp [*,aI,aJ] <;> rfl),by repeat (first | (with_reducible first | exact HB.out | apply ak | apply ah | apply au | refine aT ?_ qW.out) | exact HB.out)⟩
        ·rw [if_neg c16] at H
         have H7:(a0 == 28) = false:=beq_eq_false_iff_ne.mpr c16
         have aa2:(a0 != 28) = true:=bne_iff_ne.mpr c16
         simp only [Option.some.injEq,Prod.mk.injEq] at H
         obtain ⟨rfl,rfl,rfl⟩:=H
         have Iq:wc.cell? ⟨gX,0,none⟩ = some (.int .i64 0):=(aK dR.out 0).trans rfl
         have Ir:wc.cell? ⟨gX,1,none⟩ = some (.int .i64 0):=(aK dR.out 1).trans rfl
         have Iu:wc.cell? ⟨gX,2,none⟩ = some (.int .i64 0):=(aK dR.out 2).trans rfl
         have Iw:=ay dR.out 0
         have Iy:=ay dR.out 1
         have Iz:=ay dR.out 2
         go_wp2
         refine bodyPost_ret (results_cell_row rfl _ _ gX 119 #[.int .i64 0,.int .i64 0,.int .i64 0] (0,0) _ rfl (by (with_reducible repeat (first | refine aG ?_ _ | refine aH ?_ | refine aD ?_ _));refine bU (cs:=#[.int .i64 0,.int .i64 0,.int .i64 0]) ?_ 2 _ rfl;(with_reducible repeat (first | refine aG ?_ _ | refine aH ?_ | refine aD ?_ _));refine bU (cs:=#[.int .i64 0,.int .i64 0,.int .i64 0]) ?_ 1 _ rfl;(with_reducible repeat (first | refine aG ?_ _ | refine aH ?_ | refine aD ?_ _));refine bU (cs:=#[.int .i64 0,.int .i64 0,.int .i64 0]) ?_ 0 _ rfl;(with_reducible repeat (first | refine aG ?_ _ | refine aH ?_ | refine aD ?_ _));exact dR.out) Try.underlying119 rfl (by kernel_rfl)) rfl ?_
         exact ⟨by first | rfl | (simp [aI,aJ] <;> rfl) | (simp [*,aI,aJ] <;> rfl),by repeat (first | (with_reducible first | exact HB.out | apply ak | apply ah | apply au | refine aT ?_ qW.out) | exact HB.out)⟩
def bn.l0 : Nat → ByteArray → Int → Option (Bool)
 | 0,_,_=>none
 | k + 1,x0,x3=>if x3 < (x0.size:Int) then (if 0 ≤ x3 then (bn.l0 k x0 (wrap64 ((wrap64 (x3 + 1)) + (wrap64 (bt x0 x3))))) else (none)) else (if x3 = (x0.size:Int) then (some (decide (x3 > 0))) else (some false))
def bn.f (k:Nat) (a0:ByteArray):Option (Bool):=bn.l0 k a0 0
set_option maxHeartbeats 8000000 in
set_option maxRecDepth 100000 in
theorem bn.calls (k:Nat) (a0:ByteArray) (r:Bool) (w:World) (h:bn.f k a0 = some r) :
  Calls Try.prog 93 #[.string a0] w fun e w'=>e = .returned (.bool r) ∧ aW w w':=by
 have H:(bn.l0 k a0 0) = some r:=h
 clear h
 have H':=aj.mk H
 clear H
 go_enter Try.func93,Try.ntmps93
 go_wp2
 go_loopg [3] k (fun kq v3 w'=>∃ (oH:Int),v3 = .int .i64 oH ∧ aj (bn.l0 kq a0 oH = some r) ∧ aj (kq ≤ k) ∧ aW w w')
 case atStart=>exact ⟨(0),(by first | rfl | (simp;done) | (simp [*];done) | (simp [B.aX];done) | (simp [B.aY];done)),H',⟨Nat.le_refl _⟩,by repeat (first | exact aW.refl _ | apply aW.step)⟩
 case round =>
  clear H'
  obtain ⟨oH,rfl,HA,vO,⟨m1,rfl⟩⟩:=hrel
  cases gk with
  | zero=>exact absurd HA.out (by simp [bn.l0])
  | succ k1 =>
   have H:=HA.out
   clear HA
   simp only [bn.l0] at H
   by_cases c2:oH < (a0.size:Int)
   ·rw [if_pos c2] at H
    have wD:decide (oH < (a0.size:Int)) = true:=decide_eq_true c2
    clear c2
    by_cases c3:0 ≤ oH
    ·rw [if_pos c3] at H
     have qH:decide (0 ≤ oH) = true:=decide_eq_true c3
     clear c3
     have H':=aj.mk H
     clear H
     have p4:0 ≤ (oH:Int):=of_decide_eq_true (by first | (with_reducible assumption) | assumption)
     have q4:oH < (a0.size:Int):=of_decide_eq_true (by first | (with_reducible assumption) | assumption)
     have hx4:=nN a0 oH
     replace p4:=eq_true p4
     replace q4:=eq_true q4
     go_wp2
     go_roundg k1
     case measure=>have:=vO.out;omega
     case rel=>exact ⟨(wrap64 ((wrap64 (oH + 1)) + (wrap64 (bt a0 oH)))),(by first | rfl | (simp;done) | (simp [*];done) | (simp [B.aX];done) | (simp [B.aY];done)),H',⟨by have:=vO.out;omega⟩,by repeat (first | exact aW.refl _ | apply aW.step)⟩
    ·rw [if_neg c3] at H
     exact absurd H (by simp)
   ·rw [if_neg c2] at H
    have wD:decide (oH < (a0.size:Int)) = false:=decide_eq_false c2
    clear c2
    by_cases c5:oH = (a0.size:Int)
    ·rw [if_pos c5] at H
     have pJ:(oH == (a0.size:Int)) = true:=beq_iff_eq.mpr c5
     have uZ:(oH != (a0.size:Int)) = false:=bne_eq_false_iff_eq.mpr c5
     clear c5
     obtain rfl:=Option.some.inj H
     go_wp2
     go_ret
     exact ⟨by first | rfl | (simp;done) | (simp [*];done),by repeat (first | exact aW.refl _ | apply aW.step)⟩
    ·rw [if_neg c5] at H
     have pJ:(oH == (a0.size:Int)) = false:=beq_eq_false_iff_ne.mpr c5
     have uZ:(oH != (a0.size:Int)) = true:=bne_iff_ne.mpr c5
     obtain rfl:=Option.some.inj H
     go_wp2
     go_ret
     exact ⟨by first | rfl | (simp;done) | (simp [*];done),by repeat (first | exact aW.refl _ | apply aW.step)⟩
def aV.l0 : Nat → ByteArray → Int → Int → ByteArray → Int → Int → Int → Int → Int → Option (ByteArray × Int)
 | 0,_,_,_,_,_,_,_,_,_=>none
 | k + 1,x0,x1,x2,x13,Qe,x15,QN,IB,IC=>if x15 < IB then ((aR.f k x0 Qe).bind fun IE=>(if IE.2.2 = 0 then (if x13.size + IE.1.size ≤ 9223372036854775807 then (aV.l0 k x0 x1 x2 (x13 ++ IE.1) IE.2.1 (wrap64 (x15 + 1)) QN IB IC) else (none)) else (some ((⟨#[]⟩:ByteArray),4)))) else (if (wrap64 (Qe + IC)) = (wrap64 (x1 + x2)) then (if 0 ≤ Qe then (if Qe ≤ (wrap64 (x1 + x2)) then (if (wrap64 (x1 + x2)) ≤ (x0.size:Int) then (if x13.size + (x0.extract (Qe:Int).toNat ((wrap64 (x1 + x2)):Int).toNat).size ≤ 9223372036854775807 then (if ((x13 ++ (x0.extract (Qe:Int).toNat ((wrap64 (x1 + x2)):Int).toNat)).size:Int) > 65535 then (some ((⟨#[]⟩:ByteArray),4)) else (some (x13 ++ (x0.extract (Qe:Int).toNat ((wrap64 (x1 + x2)):Int).toNat),0))) else (none)) else (none)) else (none)) else (none)) else (some ((⟨#[]⟩:ByteArray),4)))
def aV.f (k:Nat) (a0:ByteArray) (a1:Int) (a2:Int) (a3:Int):Option (ByteArray × Int):=(bB.f a0 a1 a2).bind fun lu=>(if lu.2 = true then ((aN.f k a3).bind fun eX=>(if (eX.1 == 0 && (eX.2.1 == 0 && (eX.2.2 == 0))) = true then (if a3 = 16 then ((bn.f k lu.1).bind fun t173=>(if t173 = true then (if (lu.1.size:Int) > 65535 then (some ((⟨#[]⟩:ByteArray),4)) else (some (lu.1,0))) else (some ((⟨#[]⟩:ByteArray),4)))) else (if (lu.1.size:Int) > 65535 then (some ((⟨#[]⟩:ByteArray),4)) else (some (lu.1,0)))) else (if eX.1 > a2 then (some ((⟨#[]⟩:ByteArray),4)) else (if 0 ≤ eX.1 then (if eX.1 ≤ (lu.1.size:Int) then (aV.l0 k a0 a1 a2 (lu.1.extract 0 (eX.1:Int).toNat) (wrap64 (a1 + eX.1)) 0 eX.1 eX.2.1 eX.2.2) else (none)) else (none))))) else (some ((⟨#[]⟩:ByteArray),2)))
set_option maxHeartbeats 8000000 in
set_option maxRecDepth 100000 in
theorem aV.calls (k:Nat) (a0:ByteArray) (a1:Int) (a2:Int) (a3:Int) (r1:ByteArray) (r2:Int) (w:World) (h:aV.f k a0 a1 a2 a3 = some (r1,r2)) :
  Calls Try.prog 76 #[.string a0,.int .i64 a1,.int .i64 a2,.int .i64 a3] w fun e w'=>e = .returned (.tuple #[.string r1,.int .i64 r2]) ∧ Below w.heap.size w w':=by
 have Tm:=Try.underlying119
 have HB:=aj.mk (Below.refl w.heap.size w)
 have H:((bB.f a0 a1 a2).bind fun lu=>(if lu.2 = true then ((aN.f k a3).bind fun eX=>(if (eX.1 == 0 && (eX.2.1 == 0 && (eX.2.2 == 0))) = true then (if a3 = 16 then ((bn.f k lu.1).bind fun t173=>(if t173 = true then (if (lu.1.size:Int) > 65535 then (some ((⟨#[]⟩:ByteArray),4)) else (some (lu.1,0))) else (some ((⟨#[]⟩:ByteArray),4)))) else (if (lu.1.size:Int) > 65535 then (some ((⟨#[]⟩:ByteArray),4)) else (some (lu.1,0)))) else (if eX.1 > a2 then (some ((⟨#[]⟩:ByteArray),4)) else (if 0 ≤ eX.1 then (if eX.1 ≤ (lu.1.size:Int) then (aV.l0 k a0 a1 a2 (lu.1.extract 0 (eX.1:Int).toNat) (wrap64 (a1 + eX.1)) 0 eX.1 eX.2.1 eX.2.2) else (none)) else (none))))) else (some ((⟨#[]⟩:ByteArray),2)))) = some (r1,r2):=h
 clear h
 replace H:=zbm H
 obtain ⟨⟨t167,t168⟩,A50,H⟩:=H
 replace H:(if t168 = true then ((aN.f k a3).bind fun eX=>(if (eX.1 == 0 && (eX.2.1 == 0 && (eX.2.2 == 0))) = true then (if a3 = 16 then ((bn.f k t167).bind fun t173=>(if t173 = true then (if (t167.size:Int) > 65535 then (some ((⟨#[]⟩:ByteArray),4)) else (some (t167,0))) else (some ((⟨#[]⟩:ByteArray),4)))) else (if (t167.size:Int) > 65535 then (some ((⟨#[]⟩:ByteArray),4)) else (some (t167,0)))) else (if eX.1 > a2 then (some ((⟨#[]⟩:ByteArray),4)) else (if 0 ≤ eX.1 then (if eX.1 ≤ (t167.size:Int) then (aV.l0 k a0 a1 a2 (t167.extract 0 (eX.1:Int).toNat) (wrap64 (a1 + eX.1)) 0 eX.1 eX.2.1 eX.2.2) else (none)) else (none))))) else (some ((⟨#[]⟩:ByteArray),2))) = some (r1,r2):=H
 have A5:=aj.mk A50
 clear A50
 by_cases c6:t168 = true
 ·subst c6
  have H1:((aN.f k a3).bind fun eX=>(if (eX.1 == 0 && (eX.2.1 == 0 && (eX.2.2 == 0))) = true then (if a3 = 16 then ((bn.f k t167).bind fun t173=>(if t173 = true then (if (t167.size:Int) > 65535 then (some ((⟨#[]⟩:ByteArray),4)) else (some (t167,0))) else (some ((⟨#[]⟩:ByteArray),4)))) else (if (t167.size:Int) > 65535 then (some ((⟨#[]⟩:ByteArray),4)) else (some (t167,0)))) else (if eX.1 > a2 then (some ((⟨#[]⟩:ByteArray),4)) else (if 0 ≤ eX.1 then (if eX.1 ≤ (t167.size:Int) then (aV.l0 k a0 a1 a2 (t167.extract 0 (eX.1:Int).toNat) (wrap64 (a1 + eX.1)) 0 eX.1 eX.2.1 eX.2.2) else (none)) else (none))))) = some (r1,r2):=by rw [if_pos rfl] at H;exact H
  clear H
  have H:=H1
  clear H1
  replace H:=zbm H
  obtain ⟨⟨iI,kI,t171⟩,A70,H⟩:=H
  replace H:(if (iI == 0 && (kI == 0 && (t171 == 0))) = true then (if a3 = 16 then ((bn.f k t167).bind fun t173=>(if t173 = true then (if (t167.size:Int) > 65535 then (some ((⟨#[]⟩:ByteArray),4)) else (some (t167,0))) else (some ((⟨#[]⟩:ByteArray),4)))) else (if (t167.size:Int) > 65535 then (some ((⟨#[]⟩:ByteArray),4)) else (some (t167,0)))) else (if iI > a2 then (some ((⟨#[]⟩:ByteArray),4)) else (if 0 ≤ iI then (if iI ≤ (t167.size:Int) then (aV.l0 k a0 a1 a2 (t167.extract 0 (iI:Int).toNat) (wrap64 (a1 + iI)) 0 iI kI t171) else (none)) else (none)))) = some (r1,r2):=H
  have A7:=aj.mk A70
  clear A70
  by_cases c8:(iI == 0 && (kI == 0 && (t171 == 0))) = true
  ·rw [if_pos c8] at H
   have uW:(iI == 0 && (kI == 0 && (t171 == 0))) = true:=c8
   (try (have uX:decide (iI = 0 && (kI == 0 && (t171 == 0))) = true:=by simpa using c8))
   (try (have M6:(iI == 0 && (kI == 0 && (t171 == 0))) = true:=by simpa using c8))
   clear c8
   by_cases c9:a3 = 16
   ·rw [if_pos c9] at H
    have tQ:(a3 == 16) = true:=beq_iff_eq.mpr c9
    have Eh:(a3 != 16) = false:=bne_eq_false_iff_eq.mpr c9
    clear c9
    replace H:=zbm H
    obtain ⟨t173,Nf,H⟩:=H
    replace H:(if t173 = true then (if (t167.size:Int) > 65535 then (some ((⟨#[]⟩:ByteArray),4)) else (some (t167,0))) else (some ((⟨#[]⟩:ByteArray),4))) = some (r1,r2):=H
    have Tg:=aj.mk Nf
    clear Nf
    by_cases c11:t173 = true
    ·subst c11
     have H1:(if (t167.size:Int) > 65535 then (some ((⟨#[]⟩:ByteArray),4)) else (some (t167,0))) = some (r1,r2):=by rw [if_pos rfl] at H;exact H
     clear H
     have H:=H1
     clear H1
     by_cases c12:(t167.size:Int) > 65535
     ·rw [if_pos c12] at H
      have tT:decide (65535 < (t167.size:Int)) = true:=decide_eq_true c12
      have tV:decide (65535 < t167.size) = true:=decide_eq_true (by omega)
      clear c12
      simp only [Option.some.injEq,Prod.mk.injEq] at H
      obtain ⟨rfl,rfl⟩:=H
      go_enter Try.func76,Try.ntmps76
      go_wp2_with (first | ((with_reducible refine aU (f:=79) rfl ?_);refine bP (some 23) rfl rfl Try.func79 (by kernel_rfl) rfl #[.string a0,.int .i64 a1,.int .i64 a2] rfl (by (try simp only [List.map_toArray,List.map_cons,List.map_nil]);first | done | rfl | (simp only [List.length_drop,List.length_take];rfl) | (simp only [ByteArray.size_append,Int.natCast_add];rfl) | (rw [B.dW] <;> first | rfl | omega | (simp only [decide_eq_false_iff_not,decide_eq_true_eq,Int.not_lt,Nat.not_lt,gt_iff_lt] at * <;> omega))) ?_;(with_reducible refine (bB.calls a0 a1 a2 t167 true _ A5.out).mono ?_);rintro e w' ⟨rfl,⟨nd,rfl⟩⟩;refine ⟨_,rfl,?_⟩) | ((with_reducible refine aU (f:=53) rfl ?_);refine bP (some 29) rfl rfl Try.func53 (by kernel_rfl) rfl #[.int .i64 a3] rfl (by (try simp only [List.map_toArray,List.map_cons,List.map_nil]);first | done | rfl | (simp only [List.length_drop,List.length_take];rfl) | (simp only [ByteArray.size_append,Int.natCast_add];rfl) | (rw [B.dW] <;> first | rfl | omega | (simp only [decide_eq_false_iff_not,decide_eq_true_eq,Int.not_lt,Nat.not_lt,gt_iff_lt] at * <;> omega))) ?_;(with_reducible refine (aN.calls k a3 iI kI t171 _ A7.out).mono ?_);rintro e w13 ⟨rfl,hb⟩;refine ⟨_,rfl,?_⟩;have eH:=aj.mk (bI (by repeat (first | (with_reducible first | exact HB.out | apply ak | apply ah | apply au) | exact HB.out)) hb);clear HB;have HB:=eH;clear eH;(try clear hb);(try clear hb2);(try clear hk);(try clear hi)) | ((with_reducible refine gJ (N:=12) rfl ?_);(try (refine jA (by rfl) ?_;dsimp only));refine fQ ?hg (N:=12) ?hd (cs:=#[.int .i64 0,.int .i64 0,.int .i64 0]) (t:=119) ?hr ?_;(case hd=>rfl);(case hg=>rfl);(case hr=>first | (go_simp;done) | (go_simp;rfl));intro dJ hg w14 gW hb;have eH:=aj.mk (bI (by repeat (first | (with_reducible first | exact HB.out | apply ak | apply ah | apply au) | exact HB.out)) hb);have iB:=aj.mk (gW);have jE:=aj.mk ((by rw [hg];exact (bK (by repeat (first | (with_reducible first | exact HB.out | apply ak | apply ah | apply au) | exact HB.out))):w.heap.size ≤ dJ));have jJ:=aj.mk ((by rw [hg];exact (bK (by repeat (first | (with_reducible first | exact HB.out | apply ak | apply ah | apply au) | exact HB.out))):w.heap.size ≤ dJ));clear HB;have HB:=eH;have bR:=iB;have AL:=jE;have kM:=jJ;clear eH iB jE jJ;clear hb gW hg;have Ct:w14.cell? ⟨dJ,0,none⟩ = some (.int .i64 0):=(aK bR.out 0).trans rfl;have Cu:w14.cell? ⟨dJ,1,none⟩ = some (.int .i64 0):=(aK bR.out 1).trans rfl;have Cv:w14.cell? ⟨dJ,2,none⟩ = some (.int .i64 0):=(aK bR.out 2).trans rfl;have Cw:=ay bR.out 0;have Cx:=ay bR.out 1;have Cy:=ay bR.out 2) | (go_at_call 93;(with_reducible refine (bn.calls k t167 true _ Tg.out).mono ?_);rintro e w' ⟨rfl,⟨nd,rfl⟩⟩))
      go_ret2
      exact ⟨by first | rfl | (simp [aI,aJ] <;> rfl) | (simp [*,aI,aJ] <;> rfl),by repeat (first | (with_reducible first | exact HB.out | apply ak | apply ah | apply au | refine aT ?_ kM.out) | exact HB.out)⟩
     ·rw [if_neg c12] at H
      have tT:decide (65535 < (t167.size:Int)) = false:=decide_eq_false c12
      have tV:decide (65535 < t167.size) = false:=decide_eq_false (by omega)
      clear c12
      simp only [Option.some.injEq,Prod.mk.injEq] at H
      obtain ⟨rfl,rfl⟩:=H
      go_enter Try.func76,Try.ntmps76
      go_wp2_with (first | ((with_reducible refine aU (f:=79) rfl ?_);refine bP (some 23) rfl rfl Try.func79 (by kernel_rfl) rfl #[.string a0,.int .i64 a1,.int .i64 a2] rfl (by (try simp only [List.map_toArray,List.map_cons,List.map_nil]);first | done | rfl | (simp only [List.length_drop,List.length_take];rfl) | (simp only [ByteArray.size_append,Int.natCast_add];rfl) | (rw [B.dW] <;> first | rfl | omega | (simp only [decide_eq_false_iff_not,decide_eq_true_eq,Int.not_lt,Nat.not_lt,gt_iff_lt] at * <;> omega))) ?_;(with_reducible refine (bB.calls a0 a1 a2 t167 true _ A5.out).mono ?_);rintro e w' ⟨rfl,⟨nd,rfl⟩⟩;refine ⟨_,rfl,?_⟩) | ((with_reducible refine aU (f:=53) rfl ?_);refine bP (some 29) rfl rfl Try.func53 (by kernel_rfl) rfl #[.int .i64 a3] rfl (by (try simp only [List.map_toArray,List.map_cons,List.map_nil]);first | done | rfl | (simp only [List.length_drop,List.length_take];rfl) | (simp only [ByteArray.size_append,Int.natCast_add];rfl) | (rw [B.dW] <;> first | rfl | omega | (simp only [decide_eq_false_iff_not,decide_eq_true_eq,Int.not_lt,Nat.not_lt,gt_iff_lt] at * <;> omega))) ?_;(with_reducible refine (aN.calls k a3 iI kI t171 _ A7.out).mono ?_);rintro e w16 ⟨rfl,hb⟩;refine ⟨_,rfl,?_⟩;have eH:=aj.mk (bI (by repeat (first | (with_reducible first | exact HB.out | apply ak | apply ah | apply au) | exact HB.out)) hb);clear HB;have HB:=eH;clear eH;(try clear hb);(try clear hb2);(try clear hk);(try clear hi)) | ((with_reducible refine gJ (N:=12) rfl ?_);(try (refine jA (by rfl) ?_;dsimp only));refine fQ ?hg (N:=12) ?hd (cs:=#[.int .i64 0,.int .i64 0,.int .i64 0]) (t:=119) ?hr ?_;(case hd=>rfl);(case hg=>rfl);(case hr=>first | (go_simp;done) | (go_simp;rfl));intro dJ hg w17 gW hb;have eH:=aj.mk (bI (by repeat (first | (with_reducible first | exact HB.out | apply ak | apply ah | apply au) | exact HB.out)) hb);have iB:=aj.mk (gW);have jE:=aj.mk ((by rw [hg];exact (bK (by repeat (first | (with_reducible first | exact HB.out | apply ak | apply ah | apply au) | exact HB.out))):w.heap.size ≤ dJ));have jJ:=aj.mk ((by rw [hg];exact (bK (by repeat (first | (with_reducible first | exact HB.out | apply ak | apply ah | apply au) | exact HB.out))):w.heap.size ≤ dJ));clear HB;have HB:=eH;have bR:=iB;have AL:=jE;have kM:=jJ;clear eH iB jE jJ;clear hb gW hg;have Iq:w17.cell? ⟨dJ,0,none⟩ = some (.int .i64 0):=(aK bR.out 0).trans rfl;have Ir:w17.cell? ⟨dJ,1,none⟩ = some (.int .i64 0):=(aK bR.out 1).trans rfl;have Iu:w17.cell? ⟨dJ,2,none⟩ = some (.int .i64 0):=(aK bR.out 2).trans rfl;have Iw:=ay bR.out 0;have Iy:=ay bR.out 1;have Iz:=ay bR.out 2) | (go_at_call 93;(with_reducible refine (bn.calls k t167 true _ Tg.out).mono ?_);rintro e w' ⟨rfl,⟨nd,rfl⟩⟩))
      go_ret2
      exact ⟨by first | rfl | (simp [aI,aJ] <;> rfl) | (simp [*,aI,aJ] <;> rfl),by repeat (first | (with_reducible first | exact HB.out | apply ak | apply ah | apply au | refine aT ?_ kM.out) | exact HB.out)⟩
    ·replace c11:=Bool.eq_false_iff.mpr c11
     subst c11
     have H1:(some ((⟨#[]⟩:ByteArray),4)) = some (r1,r2):=by rw [if_neg (show ¬ (false = true) by decide)] at H;exact H
     clear H
     have H:=H1
     clear H1
     simp only [Option.some.injEq,Prod.mk.injEq] at H
     obtain ⟨rfl,rfl⟩:=H
     go_enter Try.func76,Try.ntmps76
     go_wp2_with (first | ((with_reducible refine aU (f:=79) rfl ?_);refine bP (some 23) rfl rfl Try.func79 (by kernel_rfl) rfl #[.string a0,.int .i64 a1,.int .i64 a2] rfl (by (try simp only [List.map_toArray,List.map_cons,List.map_nil]);first | done | rfl | (simp only [List.length_drop,List.length_take];rfl) | (simp only [ByteArray.size_append,Int.natCast_add];rfl) | (rw [B.dW] <;> first | rfl | omega | (simp only [decide_eq_false_iff_not,decide_eq_true_eq,Int.not_lt,Nat.not_lt,gt_iff_lt] at * <;> omega))) ?_;(with_reducible refine (bB.calls a0 a1 a2 t167 true _ A5.out).mono ?_);rintro e w' ⟨rfl,⟨nd,rfl⟩⟩;refine ⟨_,rfl,?_⟩) | ((with_reducible refine aU (f:=53) rfl ?_);refine bP (some 29) rfl rfl Try.func53 (by kernel_rfl) rfl #[.int .i64 a3] rfl (by (try simp only [List.map_toArray,List.map_cons,List.map_nil]);first | done | rfl | (simp only [List.length_drop,List.length_take];rfl) | (simp only [ByteArray.size_append,Int.natCast_add];rfl) | (rw [B.dW] <;> first | rfl | omega | (simp only [decide_eq_false_iff_not,decide_eq_true_eq,Int.not_lt,Nat.not_lt,gt_iff_lt] at * <;> omega))) ?_;(with_reducible refine (aN.calls k a3 iI kI t171 _ A7.out).mono ?_);rintro e w19 ⟨rfl,hb⟩;refine ⟨_,rfl,?_⟩;have eH:=aj.mk (bI (by repeat (first | (with_reducible first | exact HB.out | apply ak | apply ah | apply au) | exact HB.out)) hb);clear HB;have HB:=eH;clear eH;(try clear hb);(try clear hb2);(try clear hk);(try clear hi)) | ((with_reducible refine gJ (N:=12) rfl ?_);(try (refine jA (by rfl) ?_;dsimp only));refine fQ ?hg (N:=12) ?hd (cs:=#[.int .i64 0,.int .i64 0,.int .i64 0]) (t:=119) ?hr ?_;(case hd=>rfl);(case hg=>rfl);(case hr=>first | (go_simp;done) | (go_simp;rfl));intro dJ hg w20 gW hb;have eH:=aj.mk (bI (by repeat (first | (with_reducible first | exact HB.out | apply ak | apply ah | apply au) | exact HB.out)) hb);have iB:=aj.mk (gW);have jE:=aj.mk ((by rw [hg];exact (bK (by repeat (first | (with_reducible first | exact HB.out | apply ak | apply ah | apply au) | exact HB.out))):w.heap.size ≤ dJ));have jJ:=aj.mk ((by rw [hg];exact (bK (by repeat (first | (with_reducible first | exact HB.out | apply ak | apply ah | apply au) | exact HB.out))):w.heap.size ≤ dJ));clear HB;have HB:=eH;have bR:=iB;have AL:=jE;have kM:=jJ;clear eH iB jE jJ;clear hb gW hg;have QO:w20.cell? ⟨dJ,0,none⟩ = some (.int .i64 0):=(aK bR.out 0).trans rfl;have QS:w20.cell? ⟨dJ,1,none⟩ = some (.int .i64 0):=(aK bR.out 1).trans rfl;have QT:w20.cell? ⟨dJ,2,none⟩ = some (.int .i64 0):=(aK bR.out 2).trans rfl;have QU:=ay bR.out 0;have QV:=ay bR.out 1;have QW:=ay bR.out 2) | (go_at_call 93;(with_reducible refine (bn.calls k t167 false _ Tg.out).mono ?_);rintro e w' ⟨rfl,⟨nd,rfl⟩⟩))
     go_ret2
     exact ⟨by first | rfl | (simp [aI,aJ] <;> rfl) | (simp [*,aI,aJ] <;> rfl),by repeat (first | (with_reducible first | exact HB.out | apply ak | apply ah | apply au | refine aT ?_ kM.out) | exact HB.out)⟩
   ·rw [if_neg c9] at H
    have tQ:(a3 == 16) = false:=beq_eq_false_iff_ne.mpr c9
    have Eh:(a3 != 16) = true:=bne_iff_ne.mpr c9
    by_cases Ki:(t167.size:Int) > 65535
    ·rw [if_pos Ki] at H
     have Tn:decide (65535 < (t167.size:Int)) = true:=decide_eq_true Ki
     have Tp:decide (65535 < t167.size) = true:=decide_eq_true (by omega)
     clear Ki
     simp only [Option.some.injEq,Prod.mk.injEq] at H
     obtain ⟨rfl,rfl⟩:=H
     go_enter Try.func76,Try.ntmps76
     go_wp2_with (first | ((with_reducible refine aU (f:=79) rfl ?_);refine bP (some 23) rfl rfl Try.func79 (by kernel_rfl) rfl #[.string a0,.int .i64 a1,.int .i64 a2] rfl (by (try simp only [List.map_toArray,List.map_cons,List.map_nil]);first | done | rfl | (simp only [List.length_drop,List.length_take];rfl) | (simp only [ByteArray.size_append,Int.natCast_add];rfl) | (rw [B.dW] <;> first | rfl | omega | (simp only [decide_eq_false_iff_not,decide_eq_true_eq,Int.not_lt,Nat.not_lt,gt_iff_lt] at * <;> omega))) ?_;(with_reducible refine (bB.calls a0 a1 a2 t167 true _ A5.out).mono ?_);rintro e w' ⟨rfl,⟨nd,rfl⟩⟩;refine ⟨_,rfl,?_⟩) | ((with_reducible refine aU (f:=53) rfl ?_);refine bP (some 29) rfl rfl Try.func53 (by kernel_rfl) rfl #[.int .i64 a3] rfl (by (try simp only [List.map_toArray,List.map_cons,List.map_nil]);first | done | rfl | (simp only [List.length_drop,List.length_take];rfl) | (simp only [ByteArray.size_append,Int.natCast_add];rfl) | (rw [B.dW] <;> first | rfl | omega | (simp only [decide_eq_false_iff_not,decide_eq_true_eq,Int.not_lt,Nat.not_lt,gt_iff_lt] at * <;> omega))) ?_;(with_reducible refine (aN.calls k a3 iI kI t171 _ A7.out).mono ?_);rintro e w23 ⟨rfl,hb⟩;refine ⟨_,rfl,?_⟩;have eH:=aj.mk (bI (by repeat (first | (with_reducible first | exact HB.out | apply ak | apply ah | apply au) | exact HB.out)) hb);clear HB;have HB:=eH;clear eH;(try clear hb);(try clear hb2);(try clear hk);(try clear hi)) | ((with_reducible refine gJ (N:=12) rfl ?_);(try (refine jA (by rfl) ?_;dsimp only));refine fQ ?hg (N:=12) ?hd (cs:=#[.int .i64 0,.int .i64 0,.int .i64 0]) (t:=119) ?hr ?_;(case hd=>rfl);(case hg=>rfl);(case hr=>first | (go_simp;done) | (go_simp;rfl));intro dJ hg w24 gW hb;have eH:=aj.mk (bI (by repeat (first | (with_reducible first | exact HB.out | apply ak | apply ah | apply au) | exact HB.out)) hb);have iB:=aj.mk (gW);have jE:=aj.mk ((by rw [hg];exact (bK (by repeat (first | (with_reducible first | exact HB.out | apply ak | apply ah | apply au) | exact HB.out))):w.heap.size ≤ dJ));have jJ:=aj.mk ((by rw [hg];exact (bK (by repeat (first | (with_reducible first | exact HB.out | apply ak | apply ah | apply au) | exact HB.out))):w.heap.size ≤ dJ));clear HB;have HB:=eH;have bR:=iB;have AL:=jE;have kM:=jJ;clear eH iB jE jJ;clear hb gW hg;have QX:w24.cell? ⟨dJ,0,none⟩ = some (.int .i64 0):=(aK bR.out 0).trans rfl;have QY:w24.cell? ⟨dJ,1,none⟩ = some (.int .i64 0):=(aK bR.out 1).trans rfl;have QZ:w24.cell? ⟨dJ,2,none⟩ = some (.int .i64 0):=(aK bR.out 2).trans rfl;have Q0:=ay bR.out 0;have Q5:=ay bR.out 1;have Q6:=ay bR.out 2))
     go_ret2
     exact ⟨by first | rfl | (simp [aI,aJ] <;> rfl) | (simp [*,aI,aJ] <;> rfl),by repeat (first | (with_reducible first | exact HB.out | apply ak | apply ah | apply au | refine aT ?_ kM.out) | exact HB.out)⟩
    ·rw [if_neg Ki] at H
     have Tn:decide (65535 < (t167.size:Int)) = false:=decide_eq_false Ki
     have Tp:decide (65535 < t167.size) = false:=decide_eq_false (by omega)
     clear Ki
     simp only [Option.some.injEq,Prod.mk.injEq] at H
     obtain ⟨rfl,rfl⟩:=H
     go_enter Try.func76,Try.ntmps76
     go_wp2_with (first | ((with_reducible refine aU (f:=79) rfl ?_);refine bP (some 23) rfl rfl Try.func79 (by kernel_rfl) rfl #[.string a0,.int .i64 a1,.int .i64 a2] rfl (by (try simp only [List.map_toArray,List.map_cons,List.map_nil]);first | done | rfl | (simp only [List.length_drop,List.length_take];rfl) | (simp only [ByteArray.size_append,Int.natCast_add];rfl) | (rw [B.dW] <;> first | rfl | omega | (simp only [decide_eq_false_iff_not,decide_eq_true_eq,Int.not_lt,Nat.not_lt,gt_iff_lt] at * <;> omega))) ?_;(with_reducible refine (bB.calls a0 a1 a2 t167 true _ A5.out).mono ?_);rintro e w' ⟨rfl,⟨nd,rfl⟩⟩;refine ⟨_,rfl,?_⟩) | ((with_reducible refine aU (f:=53) rfl ?_);refine bP (some 29) rfl rfl Try.func53 (by kernel_rfl) rfl #[.int .i64 a3] rfl (by (try simp only [List.map_toArray,List.map_cons,List.map_nil]);first | done | rfl | (simp only [List.length_drop,List.length_take];rfl) | (simp only [ByteArray.size_append,Int.natCast_add];rfl) | (rw [B.dW] <;> first | rfl | omega | (simp only [decide_eq_false_iff_not,decide_eq_true_eq,Int.not_lt,Nat.not_lt,gt_iff_lt] at * <;> omega))) ?_;(with_reducible refine (aN.calls k a3 iI kI t171 _ A7.out).mono ?_);rintro e w26 ⟨rfl,hb⟩;refine ⟨_,rfl,?_⟩;have eH:=aj.mk (bI (by repeat (first | (with_reducible first | exact HB.out | apply ak | apply ah | apply au) | exact HB.out)) hb);clear HB;have HB:=eH;clear eH;(try clear hb);(try clear hb2);(try clear hk);(try clear hi)) | ((with_reducible refine gJ (N:=12) rfl ?_);(try (refine jA (by rfl) ?_;dsimp only));refine fQ ?hg (N:=12) ?hd (cs:=#[.int .i64 0,.int .i64 0,.int .i64 0]) (t:=119) ?hr ?_;(case hd=>rfl);(case hg=>rfl);(case hr=>first | (go_simp;done) | (go_simp;rfl));intro dJ hg w27 gW hb;have eH:=aj.mk (bI (by repeat (first | (with_reducible first | exact HB.out | apply ak | apply ah | apply au) | exact HB.out)) hb);have iB:=aj.mk (gW);have jE:=aj.mk ((by rw [hg];exact (bK (by repeat (first | (with_reducible first | exact HB.out | apply ak | apply ah | apply au) | exact HB.out))):w.heap.size ≤ dJ));have jJ:=aj.mk ((by rw [hg];exact (bK (by repeat (first | (with_reducible first | exact HB.out | apply ak | apply ah | apply au) | exact HB.out))):w.heap.size ≤ dJ));clear HB;have HB:=eH;have bR:=iB;have AL:=jE;have kM:=jJ;clear eH iB jE jJ;clear hb gW hg;have Q7:w27.cell? ⟨dJ,0,none⟩ = some (.int .i64 0):=(aK bR.out 0).trans rfl;have Q8:w27.cell? ⟨dJ,1,none⟩ = some (.int .i64 0):=(aK bR.out 1).trans rfl;have Q9:w27.cell? ⟨dJ,2,none⟩ = some (.int .i64 0):=(aK bR.out 2).trans rfl;have Ra:=ay bR.out 0;have Rb:=ay bR.out 1;have Rc:=ay bR.out 2))
     go_ret2
     exact ⟨by first | rfl | (simp [aI,aJ] <;> rfl) | (simp [*,aI,aJ] <;> rfl),by repeat (first | (with_reducible first | exact HB.out | apply ak | apply ah | apply au | refine aT ?_ kM.out) | exact HB.out)⟩
  ·rw [if_neg c8] at H
   have uW:(iI == 0 && (kI == 0 && (t171 == 0))) = false:=by simpa using c8
   (try (have uX:decide (iI = 0 && (kI == 0 && (t171 == 0))) = false:=by simpa using c8))
   (try (have M6:(iI == 0 && (kI == 0 && (t171 == 0))) = false:=by simpa using c8))
   (try (have aag:¬ (iI = 0 && (kI == 0 && (t171 == 0))):=by simpa using c8))
   clear c8
   by_cases V8:iI > a2
   ·rw [if_pos V8] at H
    have Tq:decide (a2 < iI) = true:=decide_eq_true V8
    clear V8
    simp only [Option.some.injEq,Prod.mk.injEq] at H
    obtain ⟨rfl,rfl⟩:=H
    go_enter Try.func76,Try.ntmps76
    go_wp2_with (first | ((with_reducible refine aU (f:=79) rfl ?_);refine bP (some 23) rfl rfl Try.func79 (by kernel_rfl) rfl #[.string a0,.int .i64 a1,.int .i64 a2] rfl (by (try simp only [List.map_toArray,List.map_cons,List.map_nil]);first | done | rfl | (simp only [List.length_drop,List.length_take];rfl) | (simp only [ByteArray.size_append,Int.natCast_add];rfl) | (rw [B.dW] <;> first | rfl | omega | (simp only [decide_eq_false_iff_not,decide_eq_true_eq,Int.not_lt,Nat.not_lt,gt_iff_lt] at * <;> omega))) ?_;(with_reducible refine (bB.calls a0 a1 a2 t167 true _ A5.out).mono ?_);rintro e w' ⟨rfl,⟨nd,rfl⟩⟩;refine ⟨_,rfl,?_⟩) | ((with_reducible refine aU (f:=53) rfl ?_);refine bP (some 29) rfl rfl Try.func53 (by kernel_rfl) rfl #[.int .i64 a3] rfl (by (try simp only [List.map_toArray,List.map_cons,List.map_nil]);first | done | rfl | (simp only [List.length_drop,List.length_take];rfl) | (simp only [ByteArray.size_append,Int.natCast_add];rfl) | (rw [B.dW] <;> first | rfl | omega | (simp only [decide_eq_false_iff_not,decide_eq_true_eq,Int.not_lt,Nat.not_lt,gt_iff_lt] at * <;> omega))) ?_;(with_reducible refine (aN.calls k a3 iI kI t171 _ A7.out).mono ?_);rintro e w30 ⟨rfl,hb⟩;refine ⟨_,rfl,?_⟩;have eH:=aj.mk (bI (by repeat (first | (with_reducible first | exact HB.out | apply ak | apply ah | apply au) | exact HB.out)) hb);clear HB;have HB:=eH;clear eH;(try clear hb);(try clear hb2);(try clear hk);(try clear hi)) | ((with_reducible refine gJ (N:=12) rfl ?_);(try (refine jA (by rfl) ?_;dsimp only));refine fQ ?hg (N:=12) ?hd (cs:=#[.int .i64 0,.int .i64 0,.int .i64 0]) (t:=119) ?hr ?_;(case hd=>rfl);(case hg=>rfl);(case hr=>first | (go_simp;done) | (go_simp;rfl));intro dJ hg w31 gW hb;have eH:=aj.mk (bI (by repeat (first | (with_reducible first | exact HB.out | apply ak | apply ah | apply au) | exact HB.out)) hb);have iB:=aj.mk (gW);have jE:=aj.mk ((by rw [hg];exact (bK (by repeat (first | (with_reducible first | exact HB.out | apply ak | apply ah | apply au) | exact HB.out))):w.heap.size ≤ dJ));have jJ:=aj.mk ((by rw [hg];exact (bK (by repeat (first | (with_reducible first | exact HB.out | apply ak | apply ah | apply au) | exact HB.out))):w.heap.size ≤ dJ));clear HB;have HB:=eH;have bR:=iB;have AL:=jE;have kM:=jJ;clear eH iB jE jJ;clear hb gW hg;have Ij:w31.cell? ⟨dJ,0,none⟩ = some (.int .i64 0):=(aK bR.out 0).trans rfl;have Ik:w31.cell? ⟨dJ,1,none⟩ = some (.int .i64 0):=(aK bR.out 1).trans rfl;have Il:w31.cell? ⟨dJ,2,none⟩ = some (.int .i64 0):=(aK bR.out 2).trans rfl;have Im:=ay bR.out 0;have Io:=ay bR.out 1;have Ip:=ay bR.out 2))
    go_ret2
    exact ⟨by first | rfl | (simp [aI,aJ] <;> rfl) | (simp [*,aI,aJ] <;> rfl),by repeat (first | (with_reducible first | exact HB.out | apply ak | apply ah | apply au | refine aT ?_ kM.out) | exact HB.out)⟩
   ·rw [if_neg V8] at H
    have Tq:decide (a2 < iI) = false:=decide_eq_false V8
    clear V8
    by_cases Fw:0 ≤ iI
    ·rw [if_pos Fw] at H
     have aa3:=eq_true Fw
     have aa4:decide (0 ≤ iI) = true:=decide_eq_true Fw
     clear Fw
     by_cases c34:iI ≤ (t167.size:Int)
     ·rw [if_pos c34] at H
      have aa5:=eq_true c34
      have aa6:decide (iI ≤ (t167.size:Int)) = true:=decide_eq_true c34
      clear c34
      have H':=aj.mk H
      clear H
      go_enter Try.func76,Try.ntmps76
      go_wp2_with (first | ((with_reducible refine aU (f:=79) rfl ?_);refine bP (some 23) rfl rfl Try.func79 (by kernel_rfl) rfl #[.string a0,.int .i64 a1,.int .i64 a2] rfl (by (try simp only [List.map_toArray,List.map_cons,List.map_nil]);first | done | rfl | (simp only [List.length_drop,List.length_take];rfl) | (simp only [ByteArray.size_append,Int.natCast_add];rfl) | (rw [B.dW] <;> first | rfl | omega | (simp only [decide_eq_false_iff_not,decide_eq_true_eq,Int.not_lt,Nat.not_lt,gt_iff_lt] at * <;> omega))) ?_;(with_reducible refine (bB.calls a0 a1 a2 t167 true _ A5.out).mono ?_);rintro e w' ⟨rfl,⟨nd,rfl⟩⟩;refine ⟨_,rfl,?_⟩) | ((with_reducible refine aU (f:=53) rfl ?_);refine bP (some 29) rfl rfl Try.func53 (by kernel_rfl) rfl #[.int .i64 a3] rfl (by (try simp only [List.map_toArray,List.map_cons,List.map_nil]);first | done | rfl | (simp only [List.length_drop,List.length_take];rfl) | (simp only [ByteArray.size_append,Int.natCast_add];rfl) | (rw [B.dW] <;> first | rfl | omega | (simp only [decide_eq_false_iff_not,decide_eq_true_eq,Int.not_lt,Nat.not_lt,gt_iff_lt] at * <;> omega))) ?_;(with_reducible refine (aN.calls k a3 iI kI t171 _ A7.out).mono ?_);rintro e w35 ⟨rfl,hb⟩;refine ⟨_,rfl,?_⟩;have eH:=aj.mk (bI (by repeat (first | (with_reducible first | exact HB.out | apply ak | apply ah | apply au) | exact HB.out)) hb);clear HB;have HB:=eH;clear eH;(try clear hb);(try clear hb2);(try clear hk);(try clear hi)) | ((with_reducible refine gJ (N:=12) rfl ?_);(try (refine jA (by rfl) ?_;dsimp only));refine fQ ?hg (N:=12) ?hd (cs:=#[.int .i64 0,.int .i64 0,.int .i64 0]) (t:=119) ?hr ?_;(case hd=>rfl);(case hg=>rfl);(case hr=>first | (go_simp;done) | (go_simp;rfl));intro dJ hg w36 gW hb;have eH:=aj.mk (bI (by repeat (first | (with_reducible first | exact HB.out | apply ak | apply ah | apply au) | exact HB.out)) hb);have iB:=aj.mk (gW);have jE:=aj.mk ((by rw [hg];exact (bK (by repeat (first | (with_reducible first | exact HB.out | apply ak | apply ah | apply au) | exact HB.out))):w.heap.size ≤ dJ));have jJ:=aj.mk ((by rw [hg];exact (bK (by repeat (first | (with_reducible first | exact HB.out | apply ak | apply ah | apply au) | exact HB.out))):w.heap.size ≤ dJ));clear HB;have HB:=eH;have bR:=iB;have AL:=jE;have kM:=jJ;clear eH iB jE jJ;clear hb gW hg;have Rf:w36.cell? ⟨dJ,0,none⟩ = some (.int .i64 0):=(aK bR.out 0).trans rfl;have Rh:w36.cell? ⟨dJ,1,none⟩ = some (.int .i64 0):=(aK bR.out 1).trans rfl;have Ri:w36.cell? ⟨dJ,2,none⟩ = some (.int .i64 0):=(aK bR.out 2).trans rfl;have Rj:=ay bR.out 0;have Rk:=ay bR.out 1;have Rl:=ay bR.out 2))
      go_loopg [13,14,15] k (fun kq v13 v14 v15 w'=>∃ (dF:ByteArray) (bO:Int) (vS:Int),v13 = .string dF ∧ v14 = .int .i64 bO ∧ v15 = .int .i64 vS ∧ aj (aV.l0 kq a0 a1 a2 dF bO vS iI kI t171 = some (r1,r2)) ∧ aj (kq ≤ k) ∧ aj (w'.heap[dJ]? = some (.cells #[.int .i64 iI,.int .i64 kI,.int .i64 t171] 119 (0,0))) ∧ aj (Below w.heap.size w w'))
      case atStart=>exact ⟨(t167.extract 0 (iI:Int).toNat),(wrap64 (a1 + iI)),(0),(by first | rfl | (simp;done) | (simp [*];done) | (simp [B.aX];done) | (simp [B.aY];done)),(by first | rfl | (simp;done) | (simp [*];done) | (simp [B.aX];done) | (simp [B.aY];done)),(by first | rfl | (simp;done) | (simp [*];done) | (simp [B.aX];done) | (simp [B.aY];done)),H',⟨Nat.le_refl _⟩,⟨by (with_reducible repeat (first | refine aG ?_ _ | refine aH ?_ | refine aD ?_ _));refine bU (cs:=#[.int .i64 iI,.int .i64 kI,.int .i64 0]) ?_ 2 _ rfl;(with_reducible repeat (first | refine aG ?_ _ | refine aH ?_ | refine aD ?_ _));refine bU (cs:=#[.int .i64 iI,.int .i64 0,.int .i64 0]) ?_ 1 _ rfl;(with_reducible repeat (first | refine aG ?_ _ | refine aH ?_ | refine aD ?_ _));refine bU (cs:=#[.int .i64 0,.int .i64 0,.int .i64 0]) ?_ 0 _ rfl;(with_reducible repeat (first | refine aG ?_ _ | refine aH ?_ | refine aD ?_ _));exact bR.out⟩,⟨by repeat (first | (with_reducible first | exact HB.out | apply ak | apply ah | apply au | refine aT ?_ kM.out) | exact HB.out)⟩⟩
      case round =>
       clear H'
       try clear c1
       try clear c2
       try clear p2
       try clear c3
       try clear c5
       try clear c6
       try clear p6
       try clear c7
       try clear c8
       try clear uW
       try clear uX
       try clear M6
       try clear c9
       try clear tQ
       try clear Eh
       try clear c11
       try clear c12
       try clear tT
       try clear tV
       try clear Ki
       try clear Tn
       try clear Tp
       try clear V8
       try clear Tq
       try clear Fw
       try clear aa3
       try clear aa4
       try clear c34
       try clear aa5
       try clear aa6
       try clear Ct
       try clear Cu
       try clear Cv
       try clear Iq
       try clear Ir
       try clear Iu
       try clear QO
       try clear QS
       try clear QT
       try clear QX
       try clear QY
       try clear QZ
       try clear Q7
       try clear Q8
       try clear Q9
       try clear Ij
       try clear Ik
       try clear Il
       try clear Rf
       try clear Rh
       try clear Ri
       try clear Cw
       try clear Cx
       try clear Cy
       try clear Iw
       try clear Iy
       try clear Iz
       try clear QU
       try clear QV
       try clear QW
       try clear Q0
       try clear Q5
       try clear Q6
       try clear Ra
       try clear Rb
       try clear Rc
       try clear Im
       try clear Io
       try clear Ip
       try clear Rj
       try clear Rk
       try clear Rl
       obtain ⟨dF,bO,vS,rfl,rfl,rfl,HA,vO,bR,HB⟩:=hrel
       cases gk with
       | zero=>exact absurd HA.out (by simp [aV.l0])
       | succ k1 =>
        have H:=HA.out
        clear HA
        simp only [aV.l0] at H
        by_cases Fv:vS < kI
        ·rw [if_pos Fv] at H
         have Tk:decide (vS < kI) = true:=decide_eq_true Fv
         clear Fv
         replace H:=zbm H
         obtain ⟨⟨Eu,t175,Ew⟩,aa7,H⟩:=H
         replace H:(if Ew = 0 then (if dF.size + Eu.size ≤ 9223372036854775807 then (aV.l0 k1 a0 a1 a2 (dF ++ Eu) t175 (wrap64 (vS + 1)) iI kI t171) else (none)) else (some ((⟨#[]⟩:ByteArray),4))) = some (r1,r2):=H
         have A39:=aj.mk aa7
         clear aa7
         by_cases c40:Ew = 0
         ·rw [if_pos c40] at H
          have aa8:(Ew == 0) = true:=beq_iff_eq.mpr c40
          have aa9:(Ew != 0) = false:=bne_eq_false_iff_eq.mpr c40
          clear c40
          by_cases Jf:dF.size + Eu.size ≤ 9223372036854775807
          ·rw [if_pos Jf] at H
           have ahx:=eq_true Jf
           have ahy:decide (dF.size + Eu.size ≤ 9223372036854775807) = true:=decide_eq_true Jf
           try have ahz:(9223372036854775807 < dF.size + Eu.size) = False:=eq_false (Nat.not_lt.2 Jf)
           have H':=aj.mk H
           clear H
           have QA:wr.cell? ⟨dJ,0,none⟩ = some (.int .i64 iI):=(aK bR.out 0).trans rfl
           have QB:wr.cell? ⟨dJ,1,none⟩ = some (.int .i64 kI):=(aK bR.out 1).trans rfl
           have QC:wr.cell? ⟨dJ,2,none⟩ = some (.int .i64 t171):=(aK bR.out 2).trans rfl
           have QD:=ay bR.out 0
           have QE:=ay bR.out 1
           have QF:=ay bR.out 2
           go_wp2_with (first | ((with_reducible refine aU (f:=54) rfl ?_);refine bP (some 67) rfl rfl Try.func54 (by kernel_rfl) rfl #[.string a0,.int .i64 bO] rfl (by (try simp only [List.map_toArray,List.map_cons,List.map_nil]);first | done | rfl | (simp only [List.length_drop,List.length_take];rfl) | (simp only [ByteArray.size_append,Int.natCast_add];rfl) | (rw [B.dW] <;> first | rfl | omega | (simp only [decide_eq_false_iff_not,decide_eq_true_eq,Int.not_lt,Nat.not_lt,gt_iff_lt] at * <;> omega))) ?_;(with_reducible refine (aR.calls k1 a0 bO Eu t175 Ew _ A39.out).mono ?_);rintro e w' ⟨rfl,⟨nd,rfl⟩⟩;refine ⟨_,rfl,?_⟩))
           go_roundg k1
           case measure=>have:=vO.out;omega
           case rel=>exact ⟨(dF ++ Eu),(t175),(wrap64 (vS + 1)),(by first | rfl | (simp;done) | (simp [*];done) | (simp [B.aX];done) | (simp [B.aY];done)),(by first | rfl | (simp;done) | (simp [*];done) | (simp [B.aX];done) | (simp [B.aY];done)),(by first | rfl | (simp;done) | (simp [*];done) | (simp [B.aX];done) | (simp [B.aY];done)),H',⟨by have:=vO.out;omega⟩,⟨by (with_reducible repeat (first | refine aG ?_ _ | refine aH ?_ | refine aD ?_ _));exact bR.out⟩,⟨by repeat (first | (with_reducible first | exact HB.out | apply ak | apply ah | apply au | refine aT ?_ kM.out) | exact HB.out)⟩⟩
          ·rw [if_neg Jf] at H
           exact absurd H (by simp)
         ·rw [if_neg c40] at H
          have aa8:(Ew == 0) = false:=beq_eq_false_iff_ne.mpr c40
          have aa9:(Ew != 0) = true:=bne_iff_ne.mpr c40
          simp only [Option.some.injEq,Prod.mk.injEq] at H
          obtain ⟨rfl,rfl⟩:=H
          have adK:wr.cell? ⟨dJ,0,none⟩ = some (.int .i64 iI):=(aK bR.out 0).trans rfl
          have adL:wr.cell? ⟨dJ,1,none⟩ = some (.int .i64 kI):=(aK bR.out 1).trans rfl
          have adM:wr.cell? ⟨dJ,2,none⟩ = some (.int .i64 t171):=(aK bR.out 2).trans rfl
          have adN:=ay bR.out 0
          have adO:=ay bR.out 1
          have adP:=ay bR.out 2
          go_wp2_with (first | ((with_reducible refine aU (f:=54) rfl ?_);refine bP (some 67) rfl rfl Try.func54 (by kernel_rfl) rfl #[.string a0,.int .i64 bO] rfl (by (try simp only [List.map_toArray,List.map_cons,List.map_nil]);first | done | rfl | (simp only [List.length_drop,List.length_take];rfl) | (simp only [ByteArray.size_append,Int.natCast_add];rfl) | (rw [B.dW] <;> first | rfl | omega | (simp only [decide_eq_false_iff_not,decide_eq_true_eq,Int.not_lt,Nat.not_lt,gt_iff_lt] at * <;> omega))) ?_;(with_reducible refine (aR.calls k1 a0 bO Eu t175 Ew _ A39.out).mono ?_);rintro e w' ⟨rfl,⟨nd,rfl⟩⟩;refine ⟨_,rfl,?_⟩))
          go_ret2
          exact ⟨by first | rfl | (simp [aI,aJ] <;> rfl) | (simp [*,aI,aJ] <;> rfl),by repeat (first | (with_reducible first | exact HB.out | apply ak | apply ah | apply au | refine aT ?_ kM.out) | exact HB.out)⟩
        ·rw [if_neg Fv] at H
         have Tk:decide (vS < kI) = false:=decide_eq_false Fv
         clear Fv
         by_cases EO:(wrap64 (bO + t171)) = (wrap64 (a1 + a2))
         ·rw [if_pos EO] at H
          have abb:((wrap64 (bO + t171)) == (wrap64 (a1 + a2))) = true:=beq_iff_eq.mpr EO
          have abd:((wrap64 (bO + t171)) != (wrap64 (a1 + a2))) = false:=bne_eq_false_iff_eq.mpr EO
          (try (have abe:(((bO + t171)) == ((a1 + a2))) = true:=by have h_:((wrap64 (bO + t171)) == (wrap64 (a1 + a2))) = true:=beq_iff_eq.mpr EO;rw [B.dW (by omega) (by omega)] at h_;rw [B.dW (by omega) (by omega)] at h_;exact h_))
          (try (have abf:(((bO + t171)) != ((a1 + a2))) = false:=by have h_:((wrap64 (bO + t171)) != (wrap64 (a1 + a2))) = false:=bne_eq_false_iff_eq.mpr EO;rw [B.dW (by omega) (by omega)] at h_;rw [B.dW (by omega) (by omega)] at h_;exact h_))
          clear EO
          by_cases c45:0 ≤ bO
          ·rw [if_pos c45] at H
           have ahA:=eq_true c45
           have ahB:decide (0 ≤ bO) = true:=decide_eq_true c45
           clear c45
           by_cases c46:bO ≤ (wrap64 (a1 + a2))
           ·rw [if_pos c46] at H
            have ahC:=eq_true c46
            have ahD:decide (bO ≤ (wrap64 (a1 + a2))) = true:=decide_eq_true c46
            by_cases c47:(wrap64 (a1 + a2)) ≤ (a0.size:Int)
            ·rw [if_pos c47] at H
             have ahE:=eq_true c47
             have ahF:decide ((wrap64 (a1 + a2)) ≤ (a0.size:Int)) = true:=decide_eq_true c47
             by_cases c48:dF.size + (a0.extract (bO:Int).toNat ((wrap64 (a1 + a2)):Int).toNat).size ≤ 9223372036854775807
             ·rw [if_pos c48] at H
              have ahG:=eq_true c48
              have ahH:decide (dF.size + (a0.extract (bO:Int).toNat ((wrap64 (a1 + a2)):Int).toNat).size ≤ 9223372036854775807) = true:=decide_eq_true c48
              try have ahI:(9223372036854775807 < dF.size + (a0.extract (bO:Int).toNat ((wrap64 (a1 + a2)):Int).toNat).size) = False:=eq_false (Nat.not_lt.2 c48)
              by_cases c49:((dF ++ (a0.extract (bO:Int).toNat ((wrap64 (a1 + a2)):Int).toNat)).size:Int) > 65535
              ·rw [if_pos c49] at H
               have abg:decide (65535 < ((dF ++ (a0.extract (bO:Int).toNat ((wrap64 (a1 + a2)):Int).toNat)).size:Int)) = true:=decide_eq_true c49
               have abh:decide (65535 < (dF ++ (a0.extract (bO:Int).toNat ((wrap64 (a1 + a2)):Int).toNat)).size) = true:=decide_eq_true (by omega)
               (try (have abj:decide (65535 < ((dF.size:Int) + ((a0.extract (bO:Int).toNat ((wrap64 (a1 + a2)):Int).toNat).size:Int))) = true:=by have h_:decide (65535 < ((dF ++ (a0.extract (bO:Int).toNat ((wrap64 (a1 + a2)):Int).toNat)).size:Int)) = true:=decide_eq_true c49;rw [show ((dF ++ (a0.extract (bO:Int).toNat ((wrap64 (a1 + a2)):Int).toNat)).size:Int) = ((dF.size:Int) + ((a0.extract (bO:Int).toNat ((wrap64 (a1 + a2)):Int).toNat).size:Int)) from by (simp only [ByteArray.size_append,Int.natCast_add];first | done | rfl)] at h_;(first | exact h_ | (simp only [Int.add_sub_cancel] at h_;exact h_))))
               (try (have abk:decide (65535 < ((dF.size:Int) + ((((wrap64 (a1 + a2)):Int).toNat - (bO:Int).toNat:Nat):Int))) = true:=by have h_:decide (65535 < ((dF ++ (a0.extract (bO:Int).toNat ((wrap64 (a1 + a2)):Int).toNat)).size:Int)) = true:=decide_eq_true c49;rw [show ((dF ++ (a0.extract (bO:Int).toNat ((wrap64 (a1 + a2)):Int).toNat)).size:Int) = ((dF.size:Int) + ((a0.extract (bO:Int).toNat ((wrap64 (a1 + a2)):Int).toNat).size:Int)) from by (simp only [ByteArray.size_append,Int.natCast_add];first | done | rfl)] at h_;rw [show ((a0.extract (bO:Int).toNat ((wrap64 (a1 + a2)):Int).toNat).size:Int) = ((((wrap64 (a1 + a2)):Int).toNat - (bO:Int).toNat:Nat):Int) from by (have h1_:(wrap64 (a1 + a2)) ≤ (a0.size:Int):=of_decide_eq_true (by assumption);rw [ByteArray.size_extract];omega)] at h_;exact h_))
               (try (have abl:decide (65535 < ((dF ++ (a0.extract (bO:Int).toNat (((a1 + a2)):Int).toNat)).size:Int)) = true:=by have h_:decide (65535 < ((dF ++ (a0.extract (bO:Int).toNat ((wrap64 (a1 + a2)):Int).toNat)).size:Int)) = true:=decide_eq_true c49;rw [B.dW (by omega) (by omega)] at h_;exact h_))
               (try (have abm:decide (65535 < (dF ++ (a0.extract (bO:Int).toNat (((a1 + a2)):Int).toNat)).size) = true:=by have h_:decide (65535 < (dF ++ (a0.extract (bO:Int).toNat ((wrap64 (a1 + a2)):Int).toNat)).size) = true:=decide_eq_true (by omega);rw [B.dW (by omega) (by omega)] at h_;exact h_))
               (try (have abn:decide (65535 < ((dF.size:Int) + ((a0.extract (bO:Int).toNat (((a1 + a2)):Int).toNat).size:Int))) = true:=by have h_:decide (65535 < ((dF.size:Int) + ((a0.extract (bO:Int).toNat ((wrap64 (a1 + a2)):Int).toNat).size:Int))) = true:=by have h_:decide (65535 < ((dF ++ (a0.extract (bO:Int).toNat ((wrap64 (a1 + a2)):Int).toNat)).size:Int)) = true:=decide_eq_true c49;rw [show ((dF ++ (a0.extract (bO:Int).toNat ((wrap64 (a1 + a2)):Int).toNat)).size:Int) = ((dF.size:Int) + ((a0.extract (bO:Int).toNat ((wrap64 (a1 + a2)):Int).toNat).size:Int)) from by (simp only [ByteArray.size_append,Int.natCast_add];first | done | rfl)] at h_;(first | exact h_ | (simp only [Int.add_sub_cancel] at h_;exact h_));rw [B.dW (by omega) (by omega)] at h_;exact h_))
               (try (have abo:decide (65535 < ((dF.size:Int) + (((((a1 + a2)):Int).toNat - (bO:Int).toNat:Nat):Int))) = true:=by have h_:decide (65535 < ((dF.size:Int) + ((((wrap64 (a1 + a2)):Int).toNat - (bO:Int).toNat:Nat):Int))) = true:=by have h_:decide (65535 < ((dF ++ (a0.extract (bO:Int).toNat ((wrap64 (a1 + a2)):Int).toNat)).size:Int)) = true:=decide_eq_true c49;rw [show ((dF ++ (a0.extract (bO:Int).toNat ((wrap64 (a1 + a2)):Int).toNat)).size:Int) = ((dF.size:Int) + ((a0.extract (bO:Int).toNat ((wrap64 (a1 + a2)):Int).toNat).size:Int)) from by (simp only [ByteArray.size_append,Int.natCast_add];first | done | rfl)] at h_;rw [show ((a0.extract (bO:Int).toNat ((wrap64 (a1 + a2)):Int).toNat).size:Int) = ((((wrap64 (a1 + a2)):Int).toNat - (bO:Int).toNat:Nat):Int) from by (have h1_:(wrap64 (a1 + a2)) ≤ (a0.size:Int):=of_decide_eq_true (by assumption);rw [ByteArray.size_extract];omega)] at h_;exact h_;rw [B.dW (by omega) (by omega)] at h_;exact h_))
               clear c49
               simp only [Option.some.injEq,Prod.mk.injEq] at H
               obtain ⟨rfl,rfl⟩:=H
               have adQ:wr.cell? ⟨dJ,0,none⟩ = some (.int .i64 iI):=(aK bR.out 0).trans rfl
               have adR:wr.cell? ⟨dJ,1,none⟩ = some (.int .i64 kI):=(aK bR.out 1).trans rfl
               have adS:wr.cell? ⟨dJ,2,none⟩ = some (.int .i64 t171):=(aK bR.out 2).trans rfl
               have adT:=ay bR.out 0
               have adU:=ay bR.out 1
               have adV:=ay bR.out 2
               go_wp2
               go_ret2
               exact ⟨by first | rfl | (simp [aI,aJ] <;> rfl) | (simp [*,aI,aJ] <;> rfl),by repeat (first | (with_reducible first | exact HB.out | apply ak | apply ah | apply au | refine aT ?_ kM.out) | exact HB.out)⟩
              ·rw [if_neg c49] at H
               have abg:decide (65535 < ((dF ++ (a0.extract (bO:Int).toNat ((wrap64 (a1 + a2)):Int).toNat)).size:Int)) = false:=decide_eq_false c49
               have abh:decide (65535 < (dF ++ (a0.extract (bO:Int).toNat ((wrap64 (a1 + a2)):Int).toNat)).size) = false:=decide_eq_false (by omega)
               (try (have abj:decide (65535 < ((dF.size:Int) + ((a0.extract (bO:Int).toNat ((wrap64 (a1 + a2)):Int).toNat).size:Int))) = false:=by have h_:decide (65535 < ((dF ++ (a0.extract (bO:Int).toNat ((wrap64 (a1 + a2)):Int).toNat)).size:Int)) = false:=decide_eq_false c49;rw [show ((dF ++ (a0.extract (bO:Int).toNat ((wrap64 (a1 + a2)):Int).toNat)).size:Int) = ((dF.size:Int) + ((a0.extract (bO:Int).toNat ((wrap64 (a1 + a2)):Int).toNat).size:Int)) from by (simp only [ByteArray.size_append,Int.natCast_add];first | done | rfl)] at h_;(first | exact h_ | (simp only [Int.add_sub_cancel] at h_;exact h_))))
               (try (have abk:decide (65535 < ((dF.size:Int) + ((((wrap64 (a1 + a2)):Int).toNat - (bO:Int).toNat:Nat):Int))) = false:=by have h_:decide (65535 < ((dF ++ (a0.extract (bO:Int).toNat ((wrap64 (a1 + a2)):Int).toNat)).size:Int)) = false:=decide_eq_false c49;rw [show ((dF ++ (a0.extract (bO:Int).toNat ((wrap64 (a1 + a2)):Int).toNat)).size:Int) = ((dF.size:Int) + ((a0.extract (bO:Int).toNat ((wrap64 (a1 + a2)):Int).toNat).size:Int)) from by (simp only [ByteArray.size_append,Int.natCast_add];first | done | rfl)] at h_;rw [show ((a0.extract (bO:Int).toNat ((wrap64 (a1 + a2)):Int).toNat).size:Int) = ((((wrap64 (a1 + a2)):Int).toNat - (bO:Int).toNat:Nat):Int) from by (have h1_:(wrap64 (a1 + a2)) ≤ (a0.size:Int):=of_decide_eq_true (by assumption);rw [ByteArray.size_extract];omega)] at h_;exact h_))
               (try (have abl:decide (65535 < ((dF ++ (a0.extract (bO:Int).toNat (((a1 + a2)):Int).toNat)).size:Int)) = false:=by have h_:decide (65535 < ((dF ++ (a0.extract (bO:Int).toNat ((wrap64 (a1 + a2)):Int).toNat)).size:Int)) = false:=decide_eq_false c49;rw [B.dW (by omega) (by omega)] at h_;exact h_))
               (try (have abm:decide (65535 < (dF ++ (a0.extract (bO:Int).toNat (((a1 + a2)):Int).toNat)).size) = false:=by have h_:decide (65535 < (dF ++ (a0.extract (bO:Int).toNat ((wrap64 (a1 + a2)):Int).toNat)).size) = false:=decide_eq_false (by omega);rw [B.dW (by omega) (by omega)] at h_;exact h_))
               (try (have abn:decide (65535 < ((dF.size:Int) + ((a0.extract (bO:Int).toNat (((a1 + a2)):Int).toNat).size:Int))) = false:=by have h_:decide (65535 < ((dF.size:Int) + ((a0.extract (bO:Int).toNat ((wrap64 (a1 + a2)):Int).toNat).size:Int))) = false:=by have h_:decide (65535 < ((dF ++ (a0.extract (bO:Int).toNat ((wrap64 (a1 + a2)):Int).toNat)).size:Int)) = false:=decide_eq_false c49;rw [show ((dF ++ (a0.extract (bO:Int).toNat ((wrap64 (a1 + a2)):Int).toNat)).size:Int) = ((dF.size:Int) + ((a0.extract (bO:Int).toNat ((wrap64 (a1 + a2)):Int).toNat).size:Int)) from by (simp only [ByteArray.size_append,Int.natCast_add];first | done | rfl)] at h_;(first | exact h_ | (simp only [Int.add_sub_cancel] at h_;exact h_));rw [B.dW (by omega) (by omega)] at h_;exact h_))
               (try (have abo:decide (65535 < ((dF.size:Int) + (((((a1 + a2)):Int).toNat - (bO:Int).toNat:Nat):Int))) = false:=by have h_:decide (65535 < ((dF.size:Int) + ((((wrap64 (a1 + a2)):Int).toNat - (bO:Int).toNat:Nat):Int))) = false:=by have h_:decide (65535 < ((dF ++ (a0.extract (bO:Int).toNat ((wrap64 (a1 + a2)):Int).toNat)).size:Int)) = false:=decide_eq_false c49;rw [show ((dF ++ (a0.extract (bO:Int).toNat ((wrap64 (a1 + a2)):Int).toNat)).size:Int) = ((dF.size:Int) + ((a0.extract (bO:Int).toNat ((wrap64 (a1 + a2)):Int).toNat).size:Int)) from by (simp only [ByteArray.size_append,Int.natCast_add];first | done | rfl)] at h_;rw [show ((a0.extract (bO:Int).toNat ((wrap64 (a1 + a2)):Int).toNat).size:Int) = ((((wrap64 (a1 + a2)):Int).toNat - (bO:Int).toNat:Nat):Int) from by (have h1_:(wrap64 (a1 + a2)) ≤ (a0.size:Int):=of_decide_eq_true (by assumption);rw [ByteArray.size_extract];omega)] at h_;exact h_;rw [B.dW (by omega) (by omega)] at h_;exact h_))
               clear c49
               simp only [Option.some.injEq,Prod.mk.injEq] at H
               obtain ⟨rfl,rfl⟩:=H
               have adW:wr.cell? ⟨dJ,0,none⟩ = some (.int .i64 iI):=(aK bR.out 0).trans rfl
               have adX:wr.cell? ⟨dJ,1,none⟩ = some (.int .i64 kI):=(aK bR.out 1).trans rfl
               have adY:wr.cell? ⟨dJ,2,none⟩ = some (.int .i64 t171):=(aK bR.out 2).trans rfl
               have adZ:=ay bR.out 0
               have ad1:=ay bR.out 1
               have ad2:=ay bR.out 2
               go_wp2
               go_ret2
               exact ⟨by first | rfl | (simp [aI,aJ] <;> rfl) | (simp [*,aI,aJ] <;> rfl),by repeat (first | (with_reducible first | exact HB.out | apply ak | apply ah | apply au | refine aT ?_ kM.out) | exact HB.out)⟩
             ·rw [if_neg c48] at H
              exact absurd H (by simp)
            ·rw [if_neg c47] at H
             exact absurd H (by simp)
           ·rw [if_neg c46] at H
            exact absurd H (by simp)
          ·rw [if_neg c45] at H
           exact absurd H (by simp)
         ·rw [if_neg EO] at H
          have abb:((wrap64 (bO + t171)) == (wrap64 (a1 + a2))) = false:=beq_eq_false_iff_ne.mpr EO
          have abd:((wrap64 (bO + t171)) != (wrap64 (a1 + a2))) = true:=bne_iff_ne.mpr EO
          (try (have abe:(((bO + t171)) == ((a1 + a2))) = false:=by have h_:((wrap64 (bO + t171)) == (wrap64 (a1 + a2))) = false:=beq_eq_false_iff_ne.mpr EO;rw [B.dW (by omega) (by omega)] at h_;rw [B.dW (by omega) (by omega)] at h_;exact h_))
          (try (have abf:(((bO + t171)) != ((a1 + a2))) = true:=by have h_:((wrap64 (bO + t171)) != (wrap64 (a1 + a2))) = true:=bne_iff_ne.mpr EO;rw [B.dW (by omega) (by omega)] at h_;rw [B.dW (by omega) (by omega)] at h_;exact h_))
          simp only [Option.some.injEq,Prod.mk.injEq] at H
          obtain ⟨rfl,rfl⟩:=H
          have ad3:wr.cell? ⟨dJ,0,none⟩ = some (.int .i64 iI):=(aK bR.out 0).trans rfl
          have ad4:wr.cell? ⟨dJ,1,none⟩ = some (.int .i64 kI):=(aK bR.out 1).trans rfl
          have ad5:wr.cell? ⟨dJ,2,none⟩ = some (.int .i64 t171):=(aK bR.out 2).trans rfl
          have ad6:=ay bR.out 0
          have ad7:=ay bR.out 1
          have ad8:=ay bR.out 2
          go_wp2
          go_ret2
          exact ⟨by first | rfl | (simp [aI,aJ] <;> rfl) | (simp [*,aI,aJ] <;> rfl),by repeat (first | (with_reducible first | exact HB.out | apply ak | apply ah | apply au | refine aT ?_ kM.out) | exact HB.out)⟩
     ·rw [if_neg c34] at H
      exact absurd H (by simp)
    ·rw [if_neg Fw] at H
     exact absurd H (by simp)
 ·replace c6:=Bool.eq_false_iff.mpr c6
  subst c6
  have H1:(some ((⟨#[]⟩:ByteArray),2)) = some (r1,r2):=by rw [if_neg (show ¬ (false = true) by decide)] at H;exact H
  clear H
  have H:=H1
  clear H1
  simp only [Option.some.injEq,Prod.mk.injEq] at H
  obtain ⟨rfl,rfl⟩:=H
  go_enter Try.func76,Try.ntmps76
  go_wp2_with (first | ((with_reducible refine aU (f:=79) rfl ?_);refine bP (some 23) rfl rfl Try.func79 (by kernel_rfl) rfl #[.string a0,.int .i64 a1,.int .i64 a2] rfl (by (try simp only [List.map_toArray,List.map_cons,List.map_nil]);first | done | rfl | (simp only [List.length_drop,List.length_take];rfl) | (simp only [ByteArray.size_append,Int.natCast_add];rfl) | (rw [B.dW] <;> first | rfl | omega | (simp only [decide_eq_false_iff_not,decide_eq_true_eq,Int.not_lt,Nat.not_lt,gt_iff_lt] at * <;> omega))) ?_;(with_reducible refine (bB.calls a0 a1 a2 t167 false _ A5.out).mono ?_);rintro e w' ⟨rfl,⟨nd,rfl⟩⟩;refine ⟨_,rfl,?_⟩))
  go_ret2
  exact ⟨by first | rfl | (simp [aI,aJ] <;> rfl) | (simp [*,aI,aJ] <;> rfl),by repeat (first | (with_reducible first | exact HB.out | apply ak | apply ah | apply au) | exact HB.out)⟩
def dA.f (k:Nat) (a0:Int) (a1:ByteArray):Option (Bool):=if (a1.size:Int) > 65535 then (some false) else ((aV.f k a1 0 (a1.size:Int) a0).bind fun Ey=>(if Ey.2 = 0 then (some (Ey.1.toList == a1.toList)) else (some false)))
set_option maxHeartbeats 8000000 in
set_option maxRecDepth 100000 in
theorem dA.calls (k:Nat) (a0:Int) (a1:ByteArray) (r:Bool) (w:World) (h:dA.f k a0 a1 = some r) :
  Calls Try.prog 52 #[.int .i64 a0,.string a1] w fun e w'=>e = .returned (.bool r) ∧ Below w.heap.size w w':=by
 have HB:=aj.mk (Below.refl w.heap.size w)
 have H:(if (a1.size:Int) > 65535 then (some false) else ((aV.f k a1 0 (a1.size:Int) a0).bind fun Ey=>(if Ey.2 = 0 then (some (Ey.1.toList == a1.toList)) else (some false)))) = some r:=h
 clear h
 by_cases c3:(a1.size:Int) > 65535
 ·rw [if_pos c3] at H
  have qH:decide (65535 < (a1.size:Int)) = true:=decide_eq_true c3
  have Cm:decide (65535 < a1.size) = true:=decide_eq_true (by omega)
  clear c3
  obtain rfl:=Option.some.inj H
  go_enter Try.func52,Try.ntmps52
  go_wp2
  go_ret
  exact ⟨by first | rfl | (simp [aI,aJ] <;> rfl) | (simp [*,aI,aJ] <;> rfl),by repeat (first | (with_reducible first | exact HB.out | apply ak | apply ah | apply au) | exact HB.out)⟩
 ·rw [if_neg c3] at H
  have qH:decide (65535 < (a1.size:Int)) = false:=decide_eq_false c3
  have Cm:decide (65535 < a1.size) = false:=decide_eq_false (by omega)
  clear c3
  replace H:=zbm H
  obtain ⟨⟨V9,Ez⟩,Ei,H⟩:=H
  replace H:(if Ez = 0 then (some (V9.toList == a1.toList)) else (some false)) = some r:=H
  have A4:=aj.mk Ei
  clear Ei
  by_cases c5:Ez = 0
  ·rw [if_pos c5] at H
   have pJ:(Ez == 0) = true:=beq_iff_eq.mpr c5
   have uZ:(Ez != 0) = false:=bne_eq_false_iff_eq.mpr c5
   clear c5
   obtain rfl:=Option.some.inj H
   go_enter Try.func52,Try.ntmps52
   go_wp2_with (first | ((with_reducible refine aU (f:=76) rfl ?_);refine bP (some 15) rfl rfl Try.func76 (by kernel_rfl) rfl #[.string a1,.int .i64 0,.int .i64 (a1.size:Int),.int .i64 a0] rfl (by (try simp only [List.map_toArray,List.map_cons,List.map_nil]);first | done | rfl | (simp only [List.length_drop,List.length_take];rfl) | (simp only [ByteArray.size_append,Int.natCast_add];rfl) | (rw [B.dW] <;> first | rfl | omega | (simp only [decide_eq_false_iff_not,decide_eq_true_eq,Int.not_lt,Nat.not_lt,gt_iff_lt] at * <;> omega))) ?_;(with_reducible refine (aV.calls k a1 0 (a1.size:Int) a0 V9 Ez _ A4.out).mono ?_);rintro e w6 ⟨rfl,hb⟩;refine ⟨_,rfl,?_⟩;have eH:=aj.mk (bI (by repeat (first | (with_reducible first | exact HB.out | apply ak | apply ah | apply au) | exact HB.out)) hb);clear HB;have HB:=eH;clear eH;(try clear hb);(try clear hb2);(try clear hk);(try clear hi)))
   go_ret
   exact ⟨by first | rfl | (simp [aI,aJ] <;> rfl) | (simp [*,aI,aJ] <;> rfl),by repeat (first | (with_reducible first | exact HB.out | apply ak | apply ah | apply au) | exact HB.out)⟩
  ·rw [if_neg c5] at H
   have pJ:(Ez == 0) = false:=beq_eq_false_iff_ne.mpr c5
   have uZ:(Ez != 0) = true:=bne_iff_ne.mpr c5
   obtain rfl:=Option.some.inj H
   go_enter Try.func52,Try.ntmps52
   go_wp2_with (first | ((with_reducible refine aU (f:=76) rfl ?_);refine bP (some 15) rfl rfl Try.func76 (by kernel_rfl) rfl #[.string a1,.int .i64 0,.int .i64 (a1.size:Int),.int .i64 a0] rfl (by (try simp only [List.map_toArray,List.map_cons,List.map_nil]);first | done | rfl | (simp only [List.length_drop,List.length_take];rfl) | (simp only [ByteArray.size_append,Int.natCast_add];rfl) | (rw [B.dW] <;> first | rfl | omega | (simp only [decide_eq_false_iff_not,decide_eq_true_eq,Int.not_lt,Nat.not_lt,gt_iff_lt] at * <;> omega))) ?_;(with_reducible refine (aV.calls k a1 0 (a1.size:Int) a0 V9 Ez _ A4.out).mono ?_);rintro e w7 ⟨rfl,hb⟩;refine ⟨_,rfl,?_⟩;have eH:=aj.mk (bI (by repeat (first | (with_reducible first | exact HB.out | apply ak | apply ah | apply au) | exact HB.out)) hb);clear HB;have HB:=eH;clear eH;(try clear hb);(try clear hb2);(try clear hk);(try clear hi)))
   go_ret
   exact ⟨by first | rfl | (simp [aI,aJ] <;> rfl) | (simp [*,aI,aJ] <;> rfl),by repeat (first | (with_reducible first | exact HB.out | apply ak | apply ah | apply au) | exact HB.out)⟩
def bC.l0 : Nat → ByteArray → List ByteArray → Int → Int → Int → Int → Int → Option (List ByteArray)
 | 0,_,_,_,_,_,_,_=>none
 | k + 1,x1,x5,x7,x8,Rm,IG,Ro=>if x8 < IG then ((aR.f k x1 x7).bind fun Tt=>(if x5.length < 8796093022208 then (bC.l0 k x1 (x5 ++ [Tt.1]) Tt.2.1 (wrap64 (x8 + 1)) Rm IG Ro) else (none))) else (some x5)
def bC.f (k:Nat) (a0:Int) (a1:ByteArray):Option (List ByteArray):=(dA.f k a0 a1).bind fun JU=>(if JU = true then ((aN.f k a0).bind fun kJ=>(bC.l0 k a1 ([]:List ByteArray) kJ.1 0 kJ.1 kJ.2.1 kJ.2.2)) else (some ([]:List ByteArray)))
set_option maxHeartbeats 8000000 in
set_option maxRecDepth 100000 in
theorem bC.calls (k:Nat) (a0:Int) (a1:ByteArray) (r:List ByteArray) (w:World) (h:bC.f k a0 a1 = some r) :
  Calls Try.prog 30 #[.int .i64 a0,.string a1] w fun e w'=>∃ MV:Value,e = .returned (MV) ∧ Kd.R Kd.string 9 w' w.heap.size (fun _=>True) MV r ∧ Below w.heap.size w w':=by
 have Tm:=Try.underlying119
 have HB:=aj.mk (Below.refl w.heap.size w)
 have H:((dA.f k a0 a1).bind fun JU=>(if JU = true then ((aN.f k a0).bind fun kJ=>(bC.l0 k a1 ([]:List ByteArray) kJ.1 0 kJ.1 kJ.2.1 kJ.2.2)) else (some ([]:List ByteArray)))) = some r:=h
 clear h
 replace H:=zbm H
 obtain ⟨JU,Tf,H⟩:=H
 replace H:(if JU = true then ((aN.f k a0).bind fun kJ=>(bC.l0 k a1 ([]:List ByteArray) kJ.1 0 kJ.1 kJ.2.1 kJ.2.2)) else (some ([]:List ByteArray))) = some r:=H
 have A3:=aj.mk Tf
 clear Tf
 by_cases c4:JU = true
 ·subst c4
  have H1:((aN.f k a0).bind fun kJ=>(bC.l0 k a1 ([]:List ByteArray) kJ.1 0 kJ.1 kJ.2.1 kJ.2.2)) = some r:=by rw [if_pos rfl] at H;exact H
  clear H
  have H:=H1
  clear H1
  replace H:=zbm H
  obtain ⟨⟨u6,u7,t182⟩,A50,H⟩:=H
  replace H:(bC.l0 k a1 ([]:List ByteArray) u6 0 u6 u7 t182) = some r:=H
  have A5:=aj.mk A50
  clear A50
  have H':=aj.mk H
  clear H
  go_enter Try.func30,Try.ntmps30
  go_wp2_with (first | ((with_reducible refine aU (f:=52) rfl ?_);refine bP (some 14) rfl rfl Try.func52 (by kernel_rfl) rfl #[.int .i64 a0,.string a1] rfl (by (try simp only [List.map_toArray,List.map_cons,List.map_nil]);first | done | rfl | (simp only [List.length_drop,List.length_take];rfl) | (simp only [ByteArray.size_append,Int.natCast_add];rfl) | (rw [B.dW] <;> first | rfl | omega | (simp only [decide_eq_false_iff_not,decide_eq_true_eq,Int.not_lt,Nat.not_lt,gt_iff_lt] at * <;> omega))) ?_;(with_reducible refine (dA.calls k a0 a1 true _ A3.out).mono ?_);rintro e w6 ⟨rfl,hb⟩;refine ⟨_,rfl,?_⟩;have eH:=aj.mk (bI (by repeat (first | (with_reducible first | exact HB.out | apply ak | apply ah | apply au) | exact HB.out)) hb);clear HB;have HB:=eH;clear eH;(try clear hb);(try clear hb2);(try clear hk);(try clear hi)) | ((with_reducible refine aU (f:=53) rfl ?_);refine bP (some 17) rfl rfl Try.func53 (by kernel_rfl) rfl #[.int .i64 a0] rfl (by (try simp only [List.map_toArray,List.map_cons,List.map_nil]);first | done | rfl | (simp only [List.length_drop,List.length_take];rfl) | (simp only [ByteArray.size_append,Int.natCast_add];rfl) | (rw [B.dW] <;> first | rfl | omega | (simp only [decide_eq_false_iff_not,decide_eq_true_eq,Int.not_lt,Nat.not_lt,gt_iff_lt] at * <;> omega))) ?_;(with_reducible refine (aN.calls k a0 u6 u7 t182 _ A5.out).mono ?_);rintro e w7 ⟨rfl,hb⟩;refine ⟨_,rfl,?_⟩;have eH:=aj.mk (bI (by repeat (first | (with_reducible first | exact HB.out | apply ak | apply ah | apply au) | exact HB.out)) hb);clear HB;have HB:=eH;clear eH;(try clear hb);(try clear hb2);(try clear hk);(try clear hi)) | ((with_reducible refine gJ (N:=6) rfl ?_);refine fQ ?hg (N:=6) ?hd (cs:=#[.int .i64 0,.int .i64 0,.int .i64 0]) (t:=119) ?hr ?_;(case hd=>rfl);(case hg=>rfl);(case hr=>first | (go_simp;done) | (go_simp;rfl));intro nQ hg w8 gW hb;have eH:=aj.mk (bI (by repeat (first | (with_reducible first | exact HB.out | apply ak | apply ah | apply au) | exact HB.out)) hb);have iB:=aj.mk (gW);have jE:=aj.mk ((by rw [hg];exact (bK (by repeat (first | (with_reducible first | exact HB.out | apply ak | apply ah | apply au) | exact HB.out))):w.heap.size ≤ nQ));have jJ:=aj.mk ((by rw [hg];exact (bK (by repeat (first | (with_reducible first | exact HB.out | apply ak | apply ah | apply au) | exact HB.out))):w.heap.size ≤ nQ));clear HB;have HB:=eH;have iW:=iB;have ahJ:=jE;have EA:=jJ;clear eH iB jE jJ;clear hb gW hg;have Nn:w8.cell? ⟨nQ,0,none⟩ = some (.int .i64 0):=(aK iW.out 0).trans rfl;have Np:w8.cell? ⟨nQ,1,none⟩ = some (.int .i64 0):=(aK iW.out 1).trans rfl;have Nq:w8.cell? ⟨nQ,2,none⟩ = some (.int .i64 0):=(aK iW.out 2).trans rfl;have Nr:=ay iW.out 0;have Ns:=ay iW.out 1;have Nu:=ay iW.out 2))
  go_loopg [5,7,8] k (fun kq v5 v7 v8 w'=>∃ (EB:List ByteArray) (eF:Int) (jc:Int),v7 = .int .i64 eF ∧ v8 = .int .i64 jc ∧ aj (bC.l0 kq a1 EB eF jc u6 u7 t182 = some r) ∧ aj (kq ≤ k) ∧ aj (Kd.R Kd.string 9 w' w.heap.size (fun _=>True) v5 EB) ∧ aj (w'.heap[nQ]? = some (.cells #[.int .i64 u6,.int .i64 u7,.int .i64 t182] 119 (0,0))) ∧ aj (Below w.heap.size w w'))
  case atStart=>exact ⟨(([]:List ByteArray)),(u6),(0),(by first | rfl | (simp;done) | (simp [*];done) | (simp [B.aX];done) | (simp [B.aY];done)),(by first | rfl | (simp;done) | (simp [*];done) | (simp [B.aX];done) | (simp [B.aY];done)),H',⟨Nat.le_refl _⟩,⟨by first | exact Kd.jG _ _ _ _ _ | exact Kd.kY _ _ _ _ _ | exact Kd.kZ _ _ _ _ _ | exact Kd.kW _ _ _ _ _ | exact Kd.kX _ _ _ _ _⟩,⟨by (with_reducible repeat (first | refine aG ?_ _ | refine aH ?_ | refine aD ?_ _));refine bU (cs:=#[.int .i64 u6,.int .i64 u7,.int .i64 0]) ?_ 2 _ rfl;(with_reducible repeat (first | refine aG ?_ _ | refine aH ?_ | refine aD ?_ _));refine bU (cs:=#[.int .i64 u6,.int .i64 0,.int .i64 0]) ?_ 1 _ rfl;(with_reducible repeat (first | refine aG ?_ _ | refine aH ?_ | refine aD ?_ _));refine bU (cs:=#[.int .i64 0,.int .i64 0,.int .i64 0]) ?_ 0 _ rfl;(with_reducible repeat (first | refine aG ?_ _ | refine aH ?_ | refine aD ?_ _));exact iW.out⟩,⟨by repeat (first | (with_reducible first | exact HB.out | apply ak | apply ah | apply au | refine aT ?_ EA.out) | exact HB.out)⟩⟩
  case round =>
   clear H'
   try clear p2
   try clear c3
   try clear c4
   try clear c5
   try clear Nn
   try clear Np
   try clear Nq
   try clear Nr
   try clear Ns
   try clear Nu
   obtain ⟨EB,eF,jc,rfl,rfl,HA,vO,Rp,iW,HB⟩:=hrel
   cases gk with
   | zero=>exact absurd HA.out (by simp [bC.l0])
   | succ k1 =>
    have H:=HA.out
    clear HA
    simp only [bC.l0] at H
    by_cases c10:jc < u7
    ·rw [if_pos c10] at H
     have qV:decide (jc < u7) = true:=decide_eq_true c10
     clear c10
     replace H:=zbm H
     obtain ⟨⟨Nw,Rq,afI⟩,abp,H⟩:=H
     replace H:(if EB.length < 8796093022208 then (bC.l0 k1 a1 (EB ++ [Nw]) Rq (wrap64 (jc + 1)) u6 u7 t182) else (none)) = some r:=H
     have A11:=aj.mk abp
     clear abp
     by_cases c12:EB.length < 8796093022208
     ·rw [if_pos c12] at H
      have abq:=aj.mk c12
      clear c12
      obtain ⟨abr,EC⟩:∃ y_:List ByteArray,y_ = (EB ++ [Nw]):=⟨_,rfl⟩
      replace H:(bC.l0 k1 a1 abr Rq (wrap64 (jc + 1)) u6 u7 t182) = some r:=by first | (rw [EC];with_reducible exact H) | (have Ga:=(Option.bind_some _ _).symm.trans H;rw [EC];with_reducible exact Ga) | (have Ga:=(Option.bind_some _ _).symm.trans H;with_reducible exact Ga) | with_reducible exact H | (rw [EC];exact H) | exact H
      have abt:=aj.mk EC
      clear EC
      have H':=aj.mk H
      clear H
      have QH:wr.cell? ⟨nQ,0,none⟩ = some (.int .i64 u6):=(aK iW.out 0).trans rfl
      have QI:wr.cell? ⟨nQ,1,none⟩ = some (.int .i64 u7):=(aK iW.out 1).trans rfl
      have QJ:wr.cell? ⟨nQ,2,none⟩ = some (.int .i64 t182):=(aK iW.out 2).trans rfl
      have QK:=ay iW.out 0
      have QL:=ay iW.out 1
      have QM:=ay iW.out 2
      go_wp2_with (first | ((with_reducible refine aU (f:=54) rfl ?_);refine bP (some 29) rfl rfl Try.func54 (by kernel_rfl) rfl #[.string a1,.int .i64 eF] rfl (by (try simp only [List.map_toArray,List.map_cons,List.map_nil]);first | done | rfl | (simp only [List.length_drop,List.length_take];rfl) | (simp only [ByteArray.size_append,Int.natCast_add];rfl) | (rw [B.dW] <;> first | rfl | omega | (simp only [decide_eq_false_iff_not,decide_eq_true_eq,Int.not_lt,Nat.not_lt,gt_iff_lt] at * <;> omega))) ?_;(with_reducible refine (aR.calls k1 a1 eF Nw Rq afI _ A11.out).mono ?_);rintro e w' ⟨rfl,⟨nd,rfl⟩⟩;refine ⟨_,rfl,?_⟩) | ((with_reducible refine nZ (b:=.append) (xs:=#[.tmp 33,.tmp 35]) rfl ?_);at_builtin;refine Kd.yC Kd.string (w0:=w) w.heap.size rfl (.tmp 33) (.tmp 35) 25 9 (.string ⟨#[]⟩) 16 rfl Try.underlying25 HV rfl (by decide) (by omega) u5 EB Nw [.string Nw] (fun _=>True) (fun _=>False) rfl rfl ?aP (fun _ hk=>hk.elim) ?aF ?aO ?aB ?aS ?aL ?_;(case aP=>exact rfl);(case aB=>exact (by repeat (first | (with_reducible first | exact HB.out | apply ak | apply ah | apply au | refine aT ?_ EA.out) | exact HB.out)));(case aF=>exact (fun _ _=>trivial));(case aO=>exact (by (with_reducible repeat (first | apply Kd.fH | apply Kd.gu | apply Kd.gH));exact Rp.out));(case aS=>exact (bK (by repeat (first | (with_reducible first | exact HB.out | apply ak | apply ah | apply au | refine aT ?_ EA.out) | exact HB.out))));(case aL=>have:=abq.out;omega);intro ah1 w14 ho hb hg hat;rw [← abt.out] at ho;have eH:=aj.mk (qh (g:=nQ) (o:=.cells #[.int .i64 u6,.int .i64 u7,.int .i64 t182] 119 (0,0)) (by (with_reducible repeat (first | refine aG ?_ _ | refine aH ?_ | refine aD ?_ _));exact iW.out) hg (Kd.P6 Rp.out iW.out (by decide)));have iB:=aj.mk (hb);have jE:=aj.mk (ho);clear iW;clear HB;clear Rp;have iW:=eH;have HB:=iB;have abu:=jE;clear eH iB jE;clear ho hb hg hat))
      go_roundg k1
      case measure=>have:=vO.out;omega
      case rel=>exact ⟨(abr),(Rq),(wrap64 (jc + 1)),(by first | rfl | (simp;done) | (simp [*];done) | (simp [B.aX];done) | (simp [B.aY];done)),(by first | rfl | (simp;done) | (simp [*];done) | (simp [B.aX];done) | (simp [B.aY];done)),H',⟨by have:=vO.out;omega⟩,⟨by (with_reducible repeat (first | apply Kd.fH | apply Kd.gu | apply Kd.gH));exact abu.out⟩,⟨by (with_reducible repeat (first | refine aG ?_ _ | refine aH ?_ | refine aD ?_ _));exact iW.out⟩,⟨by repeat (first | (with_reducible first | exact HB.out | apply ak | apply ah | apply au | refine aT ?_ EA.out) | exact HB.out)⟩⟩
     ·rw [if_neg c12] at H
      exact absurd H (by simp)
    ·rw [if_neg c10] at H
     have qV:decide (jc < u7) = false:=decide_eq_false c10
     clear c10
     obtain rfl:=Option.some.inj H
     have Ct:wr.cell? ⟨nQ,0,none⟩ = some (.int .i64 u6):=(aK iW.out 0).trans rfl
     have Cu:wr.cell? ⟨nQ,1,none⟩ = some (.int .i64 u7):=(aK iW.out 1).trans rfl
     have Cv:wr.cell? ⟨nQ,2,none⟩ = some (.int .i64 t182):=(aK iW.out 2).trans rfl
     have Cw:=ay iW.out 0
     have Cx:=ay iW.out 1
     have Cy:=ay iW.out 2
     go_wp2
     go_ret
     exact ⟨_,by first | rfl | (simp [aI,aJ] <;> rfl) | (simp [*,aI,aJ] <;> rfl),by (with_reducible repeat (first | apply Kd.fH | apply Kd.gu | apply Kd.gH));exact Rp.out,by repeat (first | (with_reducible first | exact HB.out | apply ak | apply ah | apply au | refine aT ?_ EA.out) | exact HB.out)⟩
 ·replace c4:=Bool.eq_false_iff.mpr c4
  subst c4
  have H1:(some ([]:List ByteArray)) = some r:=by rw [if_neg (show ¬ (false = true) by decide)] at H;exact H
  clear H
  have H:=H1
  clear H1
  obtain rfl:=Option.some.inj H
  go_enter Try.func30,Try.ntmps30
  go_wp2_with (first | ((with_reducible refine aU (f:=52) rfl ?_);refine bP (some 14) rfl rfl Try.func52 (by kernel_rfl) rfl #[.int .i64 a0,.string a1] rfl (by (try simp only [List.map_toArray,List.map_cons,List.map_nil]);first | done | rfl | (simp only [List.length_drop,List.length_take];rfl) | (simp only [ByteArray.size_append,Int.natCast_add];rfl) | (rw [B.dW] <;> first | rfl | omega | (simp only [decide_eq_false_iff_not,decide_eq_true_eq,Int.not_lt,Nat.not_lt,gt_iff_lt] at * <;> omega))) ?_;(with_reducible refine (dA.calls k a0 a1 false _ A3.out).mono ?_);rintro e w16 ⟨rfl,hb⟩;refine ⟨_,rfl,?_⟩;have eH:=aj.mk (bI (by repeat (first | (with_reducible first | exact HB.out | apply ak | apply ah | apply au) | exact HB.out)) hb);clear HB;have HB:=eH;clear eH;(try clear hb);(try clear hb2);(try clear hk);(try clear hi)))
  go_ret
  exact ⟨_,by first | rfl | (simp [aI,aJ] <;> rfl) | (simp [*,aI,aJ] <;> rfl),by first | exact Kd.jG _ _ _ _ _ | exact Kd.kY _ _ _ _ _ | exact Kd.kZ _ _ _ _ _ | exact Kd.kW _ _ _ _ _ | exact Kd.kX _ _ _ _ _,by repeat (first | (with_reducible first | exact HB.out | apply ak | apply ah | apply au) | exact HB.out)⟩
end Go.Proofs.Ytfokaoeinpnagaa.ZQ
namespace Go.Proofs.Ytfokaoeinpnagaa.ZQ
open Go.RowKit Go.Proofs.YtfokaoeinpnagaaW.bD Go.Proofs.YtfokaoeinpnagaaW.dI Go.Proofs.YtfokaoeinpnagaaW.eO Go.Proofs.Ytfokaoeinpnagaa.B
def vT (msg:ByteArray) (i:Int):ByteArray × Int × Int:=(bE.f (rounds i) msg i).getD (⟨#[]⟩,0,0)
theorem Tv (msg:ByteArray) (i:Int) (hm:msg.size ≤ 100000):bE.f (rounds i) msg i = some (vT msg i):=by
 obtain ⟨R,h1,_⟩:=AA (rounds i) msg i hm (Nat.le_refl _)
 unfold vT;rw [h1];rfl
theorem Tw (k:Nat) (msg:ByteArray) (i:Int) (hm:msg.size ≤ 100000) (hk:rounds i ≤ k):bE.f k msg i = some (vT msg i):=Eo hk (Tv msg i hm)
theorem vk (k:Nat) (msg:ByteArray) (i:Int) (hm:msg.size ≤ 100000) (hk:rounds i ≤ k):aR.f k msg i = some (vT msg i):=by
 obtain ⟨R,h1,h2⟩:=AA k msg i hm hk
 rw [Tw k msg i hm hk] at h1
 rw [h2,h1]
theorem uh (msg:ByteArray) (i:Int) (hm:msg.size ≤ 100000) :
  ((vT msg i).2.2 = 0 ∧ jP (vT msg i).1 = true ∧ 0 ≤ i ∧ i < (vT msg i).2.1 ∧ (vT msg i).2.1 ≤ (msg.size:Int)) ∨ (((vT msg i).2.2 = 2 ∨ (vT msg i).2.2 = 3) ∧ (vT msg i).1 = ⟨#[]⟩ ∧ (vT msg i).2.1 = 0):=Gf hm (Tv msg i hm)
def ED (msg:ByteArray) (e:Int):Nat → Int → List ByteArray → Option (List ByteArray × Int)
 | 0,i,l=>some (l,i)
 | n + 1,i,l=>if (vT msg i).2.2 = 0 then (if (vT msg i).2.1 > e then none else ED msg e n (vT msg i).2.1 (l ++ [(vT msg i).1])) else none
theorem qz (msg:ByteArray) (e:Int) (hm:msg.size ≤ 100000):∀ (n:Nat) (i:Int) (l:List ByteArray) (R:List ByteArray × Int),ED msg e n i l = some R → i ≤ e → i ≤ R.2 ∧ R.2 ≤ e ∧ R.1.length = l.length + n ∧ (∃ l',R.1 = l ++ l' ∧ ∀ x ∈ l',jP x = true)
 | 0,i,l,R,h,hi=>by cases h;exact ⟨Int.le_refl _,hi,rfl,[],by simp,by simp⟩
 | n + 1,i,l,R,h,hi=>by
  rw [ED] at h
  by_cases h0:(vT msg i).2.2 = 0
  ·rw [if_pos h0] at h
   by_cases h1:(vT msg i).2.1 > e
   ·rw [if_pos h1] at h;cases h
   ·rw [if_neg h1] at h
    obtain ⟨a1,a2,a3,l',a4,a5⟩:=qz msg e hm n _ _ R h (by omega)
    rcases uh msg i hm with ⟨_,b2,_,b4,_⟩ | ⟨b1,_⟩
    ·refine ⟨by omega,a2,by rw [a3,List.length_append,List.length_singleton];omega,(vT msg i).1 :: l',by rw [a4];simp,?_⟩
     intro x hx
     rcases List.mem_cons.mp hx with rfl | hx
     ·exact b2
     ·exact a5 x hx
    ·omega
  ·rw [if_neg h0] at h;cases h
def K0 : Nat:=101000
theorem qA {msg:ByteArray} {i:Int} {k:Nat} (hm:msg.size ≤ 100000) (hi:i ≤ (msg.size:Int)) (hk:K0 ≤ k):rounds i ≤ k:=by unfold rounds;unfold K0 at hk;omega
theorem Cz (msg:ByteArray) (e s0 s1 s2:Int) (a b:ByteArray) (hm:msg.size ≤ 100000) (he:e ≤ (msg.size:Int)) (h2:0 ≤ s2 ∧ s2 ≤ 1000) (c:Int) (hc:c ≤ 100):∀ (n k:Nat) (i x:Int) (l:List ByteArray),K0 + n ≤ k → x + n = c → 0 ≤ x → 0 ≤ i → i ≤ e → l.length + n ≤ 1000 →
  bS.l0 (k + 1) msg i e c x s0 s1 s2 a b l = (match ED msg e n i l with
   | some R=>some (a,msg.extract R.2.toNat e.toNat,R.1,(((msg.extract R.2.toNat e.toNat).size:Int) == s2))
   | none=>some (⟨#[]⟩,⟨#[]⟩,[],false))
 | 0,k,i,x,l,hk,hx,hx0,hi,hie,hl=>by
  rw [bS.l0,if_neg (by omega),if_pos hi,if_pos hie,if_pos he,ED]
 | n + 1,k,i,x,l,hk,hx,hx0,hi,hie,hl=>by
  obtain ⟨k,rfl⟩:∃ m,k = m + 1:=⟨k - 1,by omega⟩
  rw [bS.l0,if_pos (by omega),Tw (k + 1) msg i hm (qA hm (by omega) (by omega)),ED]
  simp only [Option.bind_some]
  by_cases h0:(vT msg i).2.2 = 0
  ·rw [if_pos h0,if_pos h0]
   by_cases h1:(vT msg i).2.1 > e
   ·rw [if_pos h1,if_pos h1]
   ·rcases uh msg i hm with ⟨_,_,_,b4,_⟩ | ⟨b1,_⟩
    ·rw [if_neg h1,if_neg h1,if_pos (by omega),dW (by omega) (by omega)]
     exact Cz msg e s0 s1 s2 a b hm he h2 c hc n k _ (x + 1) _ (by omega) (by omega) (by omega) (by omega) (by omega) (by rw [List.length_append,List.length_singleton];omega)
    ·omega
  ·rw [if_neg h0,if_neg h0]
def Ny (s:ByteArray):Nat → Int → Bool
 | 0,_=>false
 | k + 1,i=>if i < (s.size:Int) then Ny s k (i + 1 + bt s i) else decide (i = s.size)
def Gi (s:ByteArray):Bool:=decide (0 < s.size) && Ny s (s.size + 1) 0
theorem Wd (s:ByteArray) {k:Nat} {i:Int} (h:(s.size:Int) < i):Ny s k i = false:=by
 cases k with
 | zero=>rfl
 | succ k=>rw [Ny,if_neg (by omega)];simp;omega
theorem Nz (s:ByteArray) (hs:s.size ≤ 100000) (d:Nat):∀ (k m:Nat) (i:Int),0 ≤ i → i ≤ (s.size:Int) → s.size - i.toNat ≤ d → d + 1 ≤ k → d + 1 ≤ m → dH.l0 k (s.extract i.toNat s.size) = some (Ny s m i):=by
 induction d with
 | zero =>
  intro k m i h0 h1 h2 hk hm
  obtain ⟨k,rfl⟩:∃ j,k = j + 1:=⟨k - 1,by omega⟩
  obtain ⟨m,rfl⟩:∃ j,m = j + 1:=⟨m - 1,by omega⟩
  rw [dH.l0,if_pos (toList_nil.mpr (by rw [ByteArray.size_extract];omega)),Ny,if_neg (by omega),decide_eq_true (by omega)]
 | succ d ih =>
  intro k m i h0 h1 h2 hk hm
  obtain ⟨k,rfl⟩:∃ j,k = j + 1:=⟨k - 1,by omega⟩
  obtain ⟨m,rfl⟩:∃ j,m = j + 1:=⟨m - 1,by omega⟩
  have hz:(s.extract i.toNat s.size).size = s.size - i.toNat:=by rw [ByteArray.size_extract];omega
  by_cases hi:i < (s.size:Int)
  ·have hb:bt (s.extract i.toNat s.size) 0 = bt s i:=by
    rw [mH (by omega) (by omega)];congr 1;omega
   have hr:=gy s i
   rw [dH.l0,if_neg (by rw [toList_nil];omega),if_pos (by omega),hb,dW (n:=bt s i) (by omega) (by omega),dW (n:=1 + bt s i) (by omega) (by omega),Ny,if_pos hi]
   by_cases h3:1 + bt s i > ((s.extract i.toNat s.size).size:Int)
   ·rw [if_pos h3,Wd s (by omega)]
   ·rw [if_neg h3,if_pos (by omega),if_pos (by omega)]
    have e:(s.extract i.toNat s.size).extract (1 + bt s i).toNat (s.extract i.toNat s.size).size = s.extract (i + 1 + bt s i).toNat s.size:=by
     rw [ByteArray.extract_extract,hz]
     congr 1 <;> omega
    rw [e]
    exact ih k m _ (by omega) (by omega) (by omega) (by omega) (by omega)
  ·rw [dH.l0,if_pos (toList_nil.mpr (by omega)),Ny,if_neg hi,decide_eq_true (by omega)]
theorem NA (k:Nat) (hk:K0 ≤ k) (s:ByteArray) (hs:s.size ≤ 100000):dH.f k s = some (Gi s):=by
 unfold dH.f Gi
 by_cases h:s.toList = ([]:List UInt8)
 ·rw [if_pos h];rw [toList_nil] at h;rw [h];rfl
 ·rw [if_neg h]
  rw [toList_nil] at h
  unfold K0 at hk
  have:=Nz s hs s.size k (s.size + 1) 0 (by omega) (by omega) (by omega) (by omega) (by omega)
  rw [show (0:Int).toNat = 0 from rfl,ByteArray.extract_zero_size] at this
  rw [this,decide_eq_true (by omega),Bool.true_and]
theorem CB (s:ByteArray) (hs:s.size ≤ 100000) (d:Nat):∀ (k m:Nat) (i:Int),0 ≤ i → (i:Int) ≤ s.size + 300 → 0 < i ∨ 0 < s.size → s.size - i.toNat ≤ d → d + 1 ≤ k → d + 1 ≤ m → bn.l0 k s i = some (Ny s m i):=by
 induction d with
 | zero =>
  intro k m i h0 h1 hp h2 hk hm
  obtain ⟨k,rfl⟩:∃ j,k = j + 1:=⟨k - 1,by omega⟩
  obtain ⟨m,rfl⟩:∃ j,m = j + 1:=⟨m - 1,by omega⟩
  have hlt:¬ i < (s.size:Int):=by omega
  rw [bn.l0,if_neg hlt,Ny,if_neg hlt]
  by_cases h:i = (s.size:Int)
  ·rw [if_pos h,decide_eq_true (by omega),decide_eq_true h]
  ·rw [if_neg h,decide_eq_false h]
 | succ d ih =>
  intro k m i h0 h1 hp h2 hk hm
  obtain ⟨k,rfl⟩:∃ j,k = j + 1:=⟨k - 1,by omega⟩
  obtain ⟨m,rfl⟩:∃ j,m = j + 1:=⟨m - 1,by omega⟩
  have hr:=gy s i
  rw [bn.l0,Ny]
  by_cases hi:i < (s.size:Int)
  ·rw [if_pos hi,if_pos hi,if_pos h0,dW (n:=bt s i) (by omega) (by omega),dW (n:=i + 1) (by omega) (by omega),dW (by omega) (by omega)]
   exact ih k m _ (by omega) (by omega) (by omega) (by omega) (by omega) (by omega)
  ·rw [if_neg hi,if_neg hi]
   by_cases h:i = (s.size:Int)
   ·rw [if_pos h,decide_eq_true (by omega),decide_eq_true h]
   ·rw [if_neg h,decide_eq_false h]
theorem CG (k:Nat) (hk:K0 ≤ k) (s:ByteArray) (hs:s.size ≤ 100000):bn.f k s = some (Gi s):=by
 unfold bn.f Gi
 unfold K0 at hk
 by_cases h:0 < s.size
 ·rw [CB s hs s.size k (s.size + 1) 0 (by omega) (by omega) (by omega) (by omega) (by omega) (by omega),decide_eq_true h,Bool.true_and]
 ·obtain ⟨k,rfl⟩:∃ j,k = j + 1:=⟨k - 1,by omega⟩
  rw [bn.l0,if_neg (by omega),if_pos (by omega),decide_eq_false h];rfl
end Go.Proofs.Ytfokaoeinpnagaa.ZQ
namespace Go.Proofs.Ytfokaoeinpnagaa.ZQ
open Go.RowKit Go.Proofs.YtfokaoeinpnagaaW.bD Go.Proofs.YtfokaoeinpnagaaW.dI Go.Proofs.YtfokaoeinpnagaaW.eO Go.Proofs.Ytfokaoeinpnagaa.B
theorem Gj (l m:List ByteArray):strings_Join.cat (l ++ m) = strings_Join.cat l ++ strings_Join.cat m:=by
 induction l with
 | nil=>exact (empty_append _).symm
 | cons x l ih=>rw [List.cons_append,strings_Join.cat,ih,strings_Join.cat,ByteArray.append_assoc]
theorem Rt (x:ByteArray):strings_Join.cat [x] = x:=append_empty x
theorem uj {n:ByteArray} (h:jP n = true):n.size ≤ 255:=by
 obtain ⟨l,_,_,hz⟩:=Hw.mp h;exact hz
theorem y5 : ∀ {l:List ByteArray},(∀ x ∈ l,jP x = true) → (strings_Join.cat l).size ≤ 255 * l.length
 | [],_=>Nat.zero_le _
 | x :: l,h=>by
  have h1:=uj (h x (by simp))
  have h2:=y5 (l:=l) (fun y hy=>h y (by simp [hy]))
  rw [strings_Join.cat,ByteArray.size_append,List.length_cons]
  omega
def y8 (d:ByteArray):ByteArray × Int:=if (d.size:Int) > 65535 then (⟨#[]⟩,4) else (d,0)
theorem vo (d:ByteArray):(if (d.size:Int) > 65535 then some ((⟨#[]⟩:ByteArray),(4:Int)) else some (d,0)) = some (y8 d):=by
 unfold y8;split <;> rfl
def JV (msg:ByteArray) (i size:Int) (s:Int × Int × Int):ByteArray × Int :=
 if s.1 ≤ size then (match ED msg (i + size) s.2.1.toNat (i + s.1) [] with
  | some R=>if R.2 + s.2.2 = i + size then y8 (msg.extract i.toNat (i + s.1).toNat ++ strings_Join.cat R.1 ++ msg.extract R.2.toNat (i + size).toNat) else (⟨#[]⟩,4)
  | none=>(⟨#[]⟩,4)) else (⟨#[]⟩,4)
def zP (msg:ByteArray) (i size kind:Int):ByteArray × Int :=
 if gV msg i size then (match aC.zm kind with
  | some s=>JV msg i size s
  | none=>if kind = 16 then (if Gi (msg.extract i.toNat (i + size).toNat) = true then y8 (msg.extract i.toNat (i + size).toNat) else (⟨#[]⟩,4)) else y8 (msg.extract i.toNat (i + size).toNat))
 else (⟨#[]⟩,2)
theorem l8 {kind:Int} {s:Int × Int × Int} (h:aC.zm kind = some s):0 ≤ s.1 ∧ s.1 ≤ 16 ∧ 0 ≤ s.2.1 ∧ s.2.1 ≤ 2 ∧ 0 ≤ s.2.2 ∧ s.2.2 ≤ 20 ∧ kind ≠ 16 ∧ (s.1 = 0 → s.2.1 = 0 → False):=by
 unfold aC.zm at h
 repeat' split at h
 all_goals (first | (cases h;subst_vars;decide) | cases h)
theorem Wh (k:Nat) (hk:K0 ≤ k) (kind:Int) (hkind:kind ≠ 16) (d:ByteArray):aC.fin k kind d true = some (y8 d):=by
 unfold aC.fin
 rw [if_pos rfl,if_neg hkind,vo]
theorem vv (k:Nat) (kind:Int) (d:ByteArray):aC.fin k kind d false = some (⟨#[]⟩,4):=by
 unfold aC.fin;rw [if_neg Bool.false_ne_true]
theorem AO (msg:ByteArray) (i size kind:Int) (k:Nat) (hk:K0 ≤ k) (hm:msg.size ≤ 100000) (f:ByteArray → Option Bool) (hf:∀ s,s.size ≤ 100000 → f s = some (Gi s)) (t:ByteArray) (ht:t.size ≤ 100000) :
  (if kind = 16 then ((f t).bind fun b=>if b = true then (if (t.size:Int) > 65535 then some ((⟨#[]⟩:ByteArray),(4:Int)) else some (t,0)) else some (⟨#[]⟩,4)) else (if (t.size:Int) > 65535 then some (⟨#[]⟩,4) else some (t,0))) =
   some (if kind = 16 then (if Gi t = true then y8 t else (⟨#[]⟩,4)) else y8 t):=by
 rw [hf t ht,vo]
 simp only [Option.bind_some]
 split
 ·split <;> rfl
 ·rfl
theorem JW (k:Nat) (hk:K0 + 10 ≤ k) (msg:ByteArray) (i size kind:Int) (hm:msg.size ≤ 100000) (ht:gV msg i size) (s:Int × Int × Int) (hs:aC.zm kind = some s):aC.g k msg i size kind s = some (JV msg i size s):=by
 obtain ⟨h0,h1,h2⟩:=ht
 obtain ⟨a1,a2,a3,a4,a5,a6,a7,a8⟩:=l8 hs
 obtain ⟨s0,s1,s2⟩:=s
 simp only at a1 a2 a3 a4 a5 a6 a8
 have e1:wrap64 (i + size) = i + size:=dW (by omega) (by omega)
 have e2:wrap64 (i + size - i) = size:=by rw [dW (by omega) (by omega)];omega
 have e3:wrap64 (i + s0) = i + s0:=dW (by omega) (by omega)
 unfold aC.g bS.f JV
 simp only [e1,e2,e3]
 by_cases c:s0 ≤ size
 ·rw [if_pos c,if_pos c,if_pos h0,if_pos (by omega),if_pos (by omega)]
  obtain ⟨k,rfl⟩:∃ j,k = j + 1:=⟨k - 1,by omega⟩
  rw [Cz msg (i + size) s0 s1 s2 _ _ hm h2 ⟨a5,by omega⟩ s1 (by omega) s1.toNat k (i + s0) 0 [] (by omega) (by omega) (Int.le_refl _) (by omega) (by omega) (by simp only [List.length_nil];omega)]
  have hz:(msg.extract i.toNat (i + s0).toNat).size ≤ 16:=by rw [ByteArray.size_extract];omega
  cases hr:ED msg (i + size) s1.toNat (i + s0) [] with
  | none =>
   simp only [Option.bind_some]
   rw [if_pos (by decide),if_pos (by decide),vv]
  | some R =>
   obtain ⟨b1,b2,b3,l',b4,b5⟩:=qz msg _ hm _ _ _ R hr (by omega)
   have hcz:=y5 b5
   rw [List.nil_append] at b4
   rw [← b4] at hcz
   rw [List.length_nil,Nat.zero_add] at b3
   have hbz:(msg.extract R.2.toNat (i + size).toNat).size = (i + size - R.2).toNat:=by rw [ByteArray.size_extract];omega
   simp only [Option.bind_some]
   rw [if_pos (by omega),if_pos (by omega)]
   by_cases d:R.2 + s2 = i + size
   ·rw [if_pos d,show (((msg.extract R.2.toNat (i + size).toNat).size:Int) == s2) = true from beq_iff_eq.mpr (by omega),Wh k.succ (by omega) kind a7]
   ·rw [if_neg d,show (((msg.extract R.2.toNat (i + size).toNat).size:Int) == s2) = false from beq_eq_false_iff_ne.mpr (by omega),vv]
 ·rw [if_neg c,if_neg c]
  simp only [Option.bind_some]
  rw [if_pos (by decide),if_pos (by decide),vv]
theorem Wi (k:Nat) (hk:K0 + 10 ≤ k) (msg:ByteArray) (i size kind:Int) (hm:msg.size ≤ 100000):aC.f k msg i size kind = some (zP msg i size kind):=by
 unfold aC.f zP
 rw [tZ msg i size (by omega)]
 simp only [Option.bind_some]
 by_cases ht:gV msg i size
 ·rw [if_pos ht,if_pos ht]
  simp only [if_true]
  cases hs:aC.zm kind with
  | some s=>exact JW k hk msg i size kind hm ht s hs
  | none =>
   have hz:(msg.extract i.toNat (i + size).toNat).size ≤ 100000:=by rw [ByteArray.size_extract];omega
   have:=AO msg i size kind k (by omega) hm (dH.f k) (fun s h=>NA k (by omega) s h) _ hz
   unfold aC.fin
   rw [if_pos rfl]
   exact this
 ·rw [if_neg ht,if_neg ht];rfl
theorem um (k:Nat) (hk:1 ≤ k) (kind:Int):aN.f k kind = some ((aC.zm kind).getD (0,0,0)):=by
 obtain ⟨k,rfl⟩:∃ j,k = j + 1:=⟨k - 1,by omega⟩
 unfold aN.f aC.zm
 simp only [aN.j0]
 by_cases h1:kind = 1
 ·subst h1;rfl
 by_cases h2:kind = 28
 ·subst h2;rfl
 by_cases h3:kind = 2
 ·subst h3;rfl
 by_cases h4:kind = 5
 ·subst h4;rfl
 by_cases h5:kind = 12
 ·subst h5;rfl
 by_cases h6:kind = 6
 ·subst h6;rfl
 by_cases h7:kind = 15
 ·subst h7;rfl
 by_cases h8:kind = 33
 ·subst h8;rfl
 simp [h1,h2,h3,h4,h5,h6,h7,h8]
theorem EF (msg:ByteArray) (i size s0 s1 s2:Int) (hm:msg.size ≤ 100000) (ht:gV msg i size) (h2:0 ≤ s2 ∧ s2 ≤ 1000) (hs:s1 ≤ 100):∀ (n k:Nat) (j x:Int) (out:ByteArray),K0 + n ≤ k → x + n = s1 → 0 ≤ x → i + size < j → j ≤ (msg.size:Int) → out.size + 300 * n ≤ 1000000 →
  aV.l0 (k + 1) msg i size out j x s0 s1 s2 = some (⟨#[]⟩,4)
 | 0,k,j,x,out,hk,hx,hx0,hj,hjm,ho=>by
  obtain ⟨t0,t1,t2⟩:=ht
  rw [aV.l0,if_neg (by omega),dW (n:=j + s2) (by omega) (by omega),dW (n:=i + size) (by omega) (by omega),if_neg (by omega)]
 | n + 1,k,j,x,out,hk,hx,hx0,hj,hjm,ho=>by
  obtain ⟨k,rfl⟩:∃ m,k = m + 1:=⟨k - 1,by omega⟩
  rw [aV.l0,if_pos (by omega),vk (k + 1) msg j hm (qA hm (by omega) (by omega))]
  simp only [Option.bind_some]
  rcases uh msg j hm with ⟨b1,b2,_,b4,b5⟩ | ⟨b1,_⟩
  ·have hz:=uj b2
   rw [if_pos b1,if_pos (by omega),dW (n:=x + 1) (by omega) (by omega)]
   exact EF msg i size s0 s1 s2 hm ht h2 hs n k _ _ _ (by omega) (by omega) (by omega) (by omega) b5 (by rw [ByteArray.size_append];omega)
  ·rw [if_neg (by omega)]
theorem NC (msg:ByteArray) (i size s0 s1 s2:Int) (a:ByteArray) (hm:msg.size ≤ 100000) (ht:gV msg i size) (h2:0 ≤ s2 ∧ s2 ≤ 1000) (hs:s1 ≤ 100):∀ (n k:Nat) (j x:Int) (l:List ByteArray),K0 + n ≤ k → x + n = s1 → 0 ≤ x → 0 ≤ j → j ≤ i + size → (a ++ strings_Join.cat l).size + 300 * n ≤ 800000 →
  aV.l0 (k + 1) msg i size (a ++ strings_Join.cat l) j x s0 s1 s2 = some (match ED msg (i + size) n j l with
   | some R=>if R.2 + s2 = i + size then y8 (a ++ strings_Join.cat R.1 ++ msg.extract R.2.toNat (i + size).toNat) else (⟨#[]⟩,4)
   | none=>(⟨#[]⟩,4))
 | 0,k,j,x,l,hk,hx,hx0,hj0,hj,ho=>by
  obtain ⟨t0,t1,t2⟩:=ht
  rw [aV.l0,if_neg (by omega),dW (n:=j + s2) (by omega) (by omega),dW (n:=i + size) (by omega) (by omega),ED]
  simp only
  by_cases c:j + s2 = i + size
  ·have hz:(msg.extract j.toNat (i + size).toNat).size ≤ 100000:=by rw [ByteArray.size_extract];omega
   rw [if_pos c,if_pos c,if_pos hj0,if_pos hj,if_pos t2,if_pos (by omega),vo]
  ·rw [if_neg c,if_neg c]
 | n + 1,k,j,x,l,hk,hx,hx0,hj0,hj,ho=>by
  have ht0:=ht
  obtain ⟨t0,t1,t2⟩:=ht
  obtain ⟨k,rfl⟩:∃ m,k = m + 1:=⟨k - 1,by omega⟩
  rw [aV.l0,if_pos (by omega),vk (k + 1) msg j hm (qA hm (by omega) (by omega)),ED]
  simp only [Option.bind_some]
  rcases uh msg j hm with ⟨b1,b2,_,b4,b5⟩ | ⟨b1,_⟩
  ·have hz:=uj b2
   rw [if_pos b1,if_pos b1,if_pos (by omega),dW (n:=x + 1) (by omega) (by omega)]
   by_cases c:(vT msg j).2.1 > i + size
   ·rw [if_pos c]
    exact EF msg i size s0 s1 s2 hm ht0 h2 hs n k _ _ _ (by omega) (by omega) (by omega) (by omega) b5 (by rw [ByteArray.size_append];omega)
   ·rw [if_neg c]
    have e:a ++ strings_Join.cat l ++ (vT msg j).1 = a ++ strings_Join.cat (l ++ [(vT msg j).1]):=by rw [Gj,Rt,ByteArray.append_assoc]
    rw [e]
    exact NC msg i size s0 s1 s2 a hm ht0 h2 hs n k _ _ _ (by omega) (by omega) (by omega) (by omega) (by omega) (by rw [← e,ByteArray.size_append];omega)
  ·rw [if_neg (by omega),if_neg (by omega)]
theorem Gl (k:Nat) (hk:K0 + 10 ≤ k) (msg:ByteArray) (i size kind:Int) (hm:msg.size ≤ 100000):aV.f k msg i size kind = some (zP msg i size kind):=by
 unfold aV.f zP
 rw [pK msg i size (by omega),um k (by omega)]
 simp only [Option.bind_some]
 by_cases ht:gV msg i size
 ·rw [if_pos ht,if_pos ht]
  simp only [if_true]
  obtain ⟨t0,t1,t2⟩:=ht
  have hz:(msg.extract i.toNat (i + size).toNat).size = size.toNat:=by rw [ByteArray.size_extract];omega
  cases hs:aC.zm kind with
  | none =>
   simp only [Option.getD_none]
   rw [if_pos (by decide)]
   exact AO msg i size kind k (by omega) hm (bn.f k) (fun s h=>CG k (by omega) s h) _ (by omega)
  | some s =>
   obtain ⟨a1,a2,a3,a4,a5,a6,a7,a8⟩:=l8 hs
   obtain ⟨s0,s1,s2⟩:=s
   simp only at a1 a2 a3 a4 a5 a6 a8
   simp only [Option.getD_some]
   have main:(if s0 > size then some ((⟨#[]⟩:ByteArray),(4:Int)) else (if 0 ≤ s0 then (if s0 ≤ ((msg.extract i.toNat (i + size).toNat).size:Int) then (aV.l0 k msg i size ((msg.extract i.toNat (i + size).toNat).extract 0 (s0:Int).toNat) (wrap64 (i + s0)) 0 s0 s1 s2) else none) else none)) = some (JV msg i size (s0,s1,s2)):=by
    unfold JV
    simp only
    by_cases c:s0 > size
    ·rw [if_pos c,if_neg (by omega)]
    ·rw [if_neg c,if_pos a1,if_pos (by omega),if_pos (by omega),dW (by omega) (by omega)]
     obtain ⟨k,rfl⟩:∃ j,k = j + 1:=⟨k - 1,by omega⟩
     have e:(msg.extract i.toNat (i + size).toNat).extract 0 s0.toNat = msg.extract i.toNat (i + s0).toNat:=by
      rw [ByteArray.extract_extract];congr 1 <;> omega
     have hz2:(msg.extract i.toNat (i + s0).toNat).size ≤ 16:=by rw [ByteArray.size_extract];omega
     have h:=NC msg i size s0 s1 s2 (msg.extract i.toNat (i + s0).toNat) hm ⟨t0,t1,t2⟩ ⟨a5,by omega⟩ (by omega) s1.toNat k (i + s0) 0 [] (by omega) (by omega) (Int.le_refl _) (by omega) (by omega) (by simp only [strings_Join.cat,append_empty];omega)
     simp only [strings_Join.cat,append_empty] at h
     rw [e,h]
   have hne:¬ ((s0 == 0 && (s1 == 0 && (s2 == 0))) = true):=by
    intro h
    simp only [Bool.and_eq_true,beq_iff_eq] at h
    exact a8 h.1 h.2.1
   rw [if_neg hne]
   exact main
 ·rw [if_neg ht,if_neg ht];rfl
end Go.Proofs.Ytfokaoeinpnagaa.ZQ
namespace Go.Proofs.Ytfokaoeinpnagaa.ZQ
open Go.RowKit Go.Proofs.YtfokaoeinpnagaaW.bD Go.Proofs.YtfokaoeinpnagaaW.dI Go.Proofs.YtfokaoeinpnagaaW.eO Go.Proofs.Ytfokaoeinpnagaa.B
def zl (kind:Int) (d:ByteArray):Bool:=decide (d.size ≤ 65535) && (decide ((zP d 0 d.size kind).2 = 0) && decide ((zP d 0 d.size kind).1 = d))
theorem wQ {kind:Int} {d:ByteArray}:zl kind d = true ↔ d.size ≤ 65535 ∧ zP d 0 d.size kind = (d,0):=by
 unfold zl
 simp only [Bool.and_eq_true,decide_eq_true_eq]
 constructor
 ·rintro ⟨h1,h2,h3⟩;exact ⟨h1,Prod.ext h3 h2⟩
 ·rintro ⟨h1,h2⟩;rw [h2];exact ⟨h1,rfl,rfl⟩
theorem AP (k:Nat) (hk:K0 + 10 ≤ k) (kind:Int) (d:ByteArray):iR.f k kind d = some (zl kind d):=by
 unfold iR.f zl
 by_cases h:(d.size:Int) > 65535
 ·rw [if_pos h,decide_eq_false (by omega)];rfl
 ·rw [if_neg h,Wi k hk d 0 _ kind (by omega),decide_eq_true (by omega),Bool.true_and]
  simp only [Option.bind_some]
  by_cases h0:(zP d 0 d.size kind).2 = 0
  ·rw [if_pos h0,decide_eq_true h0,yR,Bool.true_and]
  ·rw [if_neg h0,decide_eq_false h0,Bool.false_and]
theorem qX (k:Nat) (hk:K0 + 10 ≤ k) (kind:Int) (d:ByteArray):dA.f k kind d = some (zl kind d):=by
 unfold dA.f zl
 by_cases h:(d.size:Int) > 65535
 ·rw [if_pos h,decide_eq_false (by omega)];rfl
 ·rw [if_neg h,Gl k hk d 0 _ kind (by omega),decide_eq_true (by omega),Bool.true_and]
  simp only [Option.bind_some]
  by_cases h0:(zP d 0 d.size kind).2 = 0
  ·rw [if_pos h0,decide_eq_true h0,yR,Bool.true_and]
  ·rw [if_neg h0,decide_eq_false h0,Bool.false_and]
theorem Gn (d:ByteArray):gV d 0 d.size:=⟨Int.le_refl _,by omega,by omega⟩
theorem JX {x d:ByteArray} (h:y8 x = (d,0)):x = d ∧ x.size ≤ 65535:=by
 unfold y8 at h
 split at h
 ·have:=congrArg Prod.snd h;cases this
 ·exact ⟨congrArg Prod.fst h,by omega⟩
theorem uo {kind:Int} {d:ByteArray} {s:Int × Int × Int} (h:zl kind d = true) (hs:aC.zm kind = some s) :
  ∃ R,s.1 ≤ (d.size:Int) ∧ ED d d.size s.2.1.toNat s.1 [] = some R ∧ R.2 + s.2.2 = d.size ∧ d = d.extract 0 s.1.toNat ++ strings_Join.cat R.1 ++ d.extract R.2.toNat d.size ∧ s.1 ≤ R.2 ∧ R.2 ≤ (d.size:Int) ∧ R.1.length = s.2.1.toNat ∧ (∀ x ∈ R.1,jP x = true) ∧ R.2 = s.1 + (strings_Join.cat R.1).size:=by
 obtain ⟨h0,h1⟩:=wQ.mp h
 unfold zP JV at h1
 rw [if_pos (Gn d),hs] at h1
 simp only [Int.zero_add,Int.toNat_natCast] at h1
 obtain ⟨a1,a2,a3,a4,a5,a6,a7,a8⟩:=l8 hs
 by_cases c:s.1 ≤ (d.size:Int)
 ·rw [if_pos c] at h1
  cases hr:ED d d.size s.2.1.toNat s.1 [] with
  | none=>rw [hr] at h1;have:=congrArg Prod.snd h1;cases this
  | some R =>
   rw [hr] at h1
   simp only at h1
   by_cases e:R.2 + s.2.2 = d.size
   ·rw [if_pos e] at h1
    obtain ⟨h2,_⟩:=JX h1
    obtain ⟨b1,b2,b3,l',b4,b5⟩:=qz d _ (by omega) _ _ _ R hr c
    rw [List.nil_append] at b4
    rw [← b4] at b5
    have hz:=congrArg ByteArray.size h2
    simp only [ByteArray.size_append,ByteArray.size_extract] at hz
    refine ⟨R,c,rfl,e,h2.symm,b1,b2,by rw [b3];simp,b5,?_⟩
    simp only [show (0:Int).toNat = 0 from rfl] at hz
    omega
   ·rw [if_neg e] at h1;have:=congrArg Prod.snd h1;cases this
 ·rw [if_neg c] at h1;have:=congrArg Prod.snd h1;cases this
def prt (kind:Int) (d:ByteArray):ByteArray × ByteArray × List ByteArray × Bool :=
 if zl kind d = true then (match aC.zm kind with
  | some s=>(match ED d d.size s.2.1.toNat s.1 [] with
   | some R=>(d.extract 0 s.1.toNat,d.extract R.2.toNat d.size,R.1,true)
   | none=>(⟨#[]⟩,⟨#[]⟩,[],false))
  | none=>(d,⟨#[]⟩,[],true)) else (⟨#[]⟩,⟨#[]⟩,[],false)
theorem wH (k:Nat) (hk:K0 + 20 ≤ k) (d:ByteArray) (hd:d.size ≤ 65535) (s0 s1 s2:Int) (a1:0 ≤ s0) (a3:0 ≤ s1) (a4:s1 ≤ 2) (a5:0 ≤ s2) (a6:s2 ≤ 20) (R:List ByteArray × Int) (c1:s0 ≤ (d.size:Int)) (c2:ED d d.size s1.toNat s0 [] = some R) (c3:R.2 + s2 = d.size) :
  bS.f k d 0 (d.size:Int) s0 s1 s2 = some (d.extract 0 s0.toNat,d.extract R.2.toNat d.size,R.1,true):=by
 unfold bS.f
 have e2:wrap64 ((d.size:Int) - 0) = d.size:=by rw [dW (by omega) (by omega)];omega
 have e3:wrap64 (0 + s0) = s0:=by rw [dW (by omega) (by omega)];omega
 obtain ⟨b1,b2,_⟩:=qz d _ (by omega) _ _ _ R c2 c1
 have hz:((d.extract R.2.toNat d.size).size:Int) = s2:=by rw [ByteArray.size_extract];omega
 obtain ⟨k,rfl⟩:∃ j,k = j + 1:=⟨k - 1,by omega⟩
 have h:=Cz d d.size s0 s1 s2 (d.extract 0 s0.toNat) ⟨#[]⟩ (by omega) (Int.le_refl _) ⟨a5,by omega⟩ s1 (by omega) s1.toNat k s0 0 [] (by omega) (by omega) (Int.le_refl _) a1 c1 (by simp only [List.length_nil];omega)
 rw [c2] at h
 simp only [Int.toNat_natCast] at h
 rw [show (((d.extract R.2.toNat d.size).size:Int) == s2) = true from beq_iff_eq.mpr hz] at h
 rw [e2,if_pos c1,if_pos (Int.le_refl _),e3,if_pos a1,if_pos c1]
 exact h
theorem AQ (k:Nat) (hk:K0 + 20 ≤ k) (kind:Int) (d:ByteArray):bW.f k kind d = some (prt kind d):=by
 unfold bW.f prt
 rw [AP k (by omega)]
 simp only [Option.bind_some]
 by_cases h:zl kind d = true
 ·rw [if_pos h,if_pos h]
  cases hs:aC.zm kind with
  | none=>rfl
  | some s =>
   obtain ⟨R,c1,c2,c3,c4,c5,c6,c7,c8,c9⟩:=uo h hs
   obtain ⟨a1,a2,a3,a4,a5,a6,a7,a8⟩:=l8 hs
   obtain ⟨h0,_⟩:=wQ.mp h
   obtain ⟨s0,s1,s2⟩:=s
   simp only at a1 a2 a3 a4 a5 a6 c1 c2 c3 c5
   simp only [c2]
   exact wH k hk d h0 s0 s1 s2 a1 a3 a4 a5 a6 R c1 c2 c3
 ·rw [if_neg h,if_neg h]
theorem ND (k:Nat) (hk:K0 + 20 ≤ k) (kind:Int) (d:ByteArray):mO.f k kind d = some (prt kind d).2.2.1:=by
 unfold mO.f;rw [AQ k hk];rfl
theorem JY {kind:Int} {d:ByteArray}:(∀ x ∈ (prt kind d).2.2.1,jP x = true) ∧ (prt kind d).2.2.1.length ≤ 2:=by
 unfold prt
 by_cases h:zl kind d = true
 ·rw [if_pos h]
  cases hs:aC.zm kind with
  | none=>exact ⟨by simp,by simp⟩
  | some s =>
   obtain ⟨R,c1,c2,c3,c4,c5,c6,c7,c8,c9⟩:=uo h hs
   obtain ⟨a1,a2,a3,a4,a5,a6,a7,a8⟩:=l8 hs
   simp only [c2]
   exact ⟨c8,by omega⟩
 ·rw [if_neg h];exact ⟨by simp,by simp⟩
theorem vU (k:Nat) (hk:600 ≤ k) (n:ByteArray) (hs:n.size ≤ 1000000000):mJ.f k n = some (if jP n = true then qD n else ⟨#[]⟩):=by
 unfold mJ.f
 rw [Em k hk n hs,VO n hs]
 simp only [Option.bind_some]
 split <;> rfl
theorem Gp (k:Nat) (hk:600 ≤ k) (n:ByteArray) (hs:n.size ≤ 1000000000):gK.f k n = some (if jP n = true then qD n else ⟨#[]⟩):=by
 unfold gK.f
 rw [tX k hk n hs,Na n hs]
 simp only [Option.bind_some]
 split <;> rfl
theorem all_eq (k:Nat) (hk:600 ≤ k):∀ l:List ByteArray,(∀ x ∈ l,jP x = true) → eG.all k l = some (l.map qD)
 | [],_=>rfl
 | x :: l,h=>by
  have hx:=h x (by simp)
  have hz:=uj hx
  rw [eG.all,vU k hk x (by omega),if_pos hx]
  simp only [Option.bind_some]
  rw [all_eq k hk l (fun y hy=>h y (by simp [hy]))]
  rfl
theorem uq : ∀ l:List ByteArray,(strings_Join.cat (l.map qD)).size = (strings_Join.cat l).size
 | []=>rfl
 | x :: l=>by rw [List.map_cons,strings_Join.cat,strings_Join.cat,ByteArray.size_append,ByteArray.size_append,JO,uq l]
def lw (kind:Int) (d:ByteArray):ByteArray:=(prt kind d).1 ++ strings_Join.cat ((prt kind d).2.2.1.map qD) ++ (prt kind d).2.1
theorem JZ {kind:Int} {d:ByteArray}:(prt kind d).1.size ≤ 65535 ∧ (prt kind d).2.1.size ≤ 65535:=by
 unfold prt
 by_cases h:zl kind d = true
 ·obtain ⟨h0,_⟩:=wQ.mp h
  rw [if_pos h]
  cases hs:aC.zm kind with
  | none=>exact ⟨h0,by show (⟨#[]⟩:ByteArray).size ≤ 65535;decide⟩
  | some s =>
   obtain ⟨R,c1,c2,_⟩:=uo h hs
   simp only [c2]
   simp only [ByteArray.size_extract]
   omega
 ·rw [if_neg h];exact ⟨by decide,by decide⟩
theorem Ru (k:Nat) (hk:K0 + 20 ≤ k) (kind:Int) (d:ByteArray):eG.f k kind d = some (lw kind d):=by
 obtain ⟨p1,p2⟩:=@JY kind d
 obtain ⟨p3,p4⟩:=@JZ kind d
 have hcz:=y5 p1
 unfold eG.f
 rw [AQ k hk]
 simp only [Option.bind_some]
 rw [all_eq k (by unfold K0 at hk;omega) _ p1]
 simp only [Option.bind_some]
 unfold eG.fin lw
 rw [if_pos (by rw [uq];omega),if_pos (by rw [List.length_map];omega)]
theorem uw (d:ByteArray) (e s0 s1 s2:Int) (hm:d.size ≤ 100000) (he:e ≤ (d.size:Int)) (hs:s1 ≤ 100):∀ (n k:Nat) (l:List ByteArray) (i x:Int) (R:List ByteArray × Int),K0 + n ≤ k → x + n = s1 → 0 ≤ x → i ≤ e → l.length + n ≤ 1000 → ED d e n i l = some R →
  bC.l0 (k + 1) d l i x s0 s1 s2 = some R.1
 | 0,k,l,i,x,R,hk,hx,hx0,hi,hl,h=>by
  cases h
  rw [bC.l0,if_neg (by omega)]
 | n + 1,k,l,i,x,R,hk,hx,hx0,hi,hl,h=>by
  obtain ⟨k,rfl⟩:∃ m,k = m + 1:=⟨k - 1,by omega⟩
  rw [ED] at h
  rw [bC.l0,if_pos (by omega),vk (k + 1) d i hm (qA hm (by omega) (by omega))]
  simp only [Option.bind_some]
  by_cases h0:(vT d i).2.2 = 0
  ·rw [if_pos h0] at h
   by_cases h1:(vT d i).2.1 > e
   ·rw [if_pos h1] at h;cases h
   ·rw [if_neg h1] at h
    rw [if_pos (by omega),dW (by omega) (by omega)]
    exact uw d e s0 s1 s2 hm he hs n k _ _ _ R (by omega) (by omega) (by omega) (by omega) (by rw [List.length_append,List.length_singleton];omega) h
  ·rw [if_neg h0] at h;cases h
theorem CJ (k:Nat) (hk:K0 + 20 ≤ k) (kind:Int) (d:ByteArray):bC.f k kind d = some (prt kind d).2.2.1:=by
 unfold bC.f prt
 rw [qX k (by omega),um k (by omega)]
 simp only [Option.bind_some]
 obtain ⟨k,rfl⟩:∃ j,k = j + 1:=⟨k - 1,by omega⟩
 by_cases h:zl kind d = true
 ·rw [if_pos h,if_pos h]
  obtain ⟨h0,_⟩:=wQ.mp h
  cases hs:aC.zm kind with
  | none =>
   rw [Option.getD_none,bC.l0,if_neg (by decide)]
  | some s =>
   obtain ⟨R,c1,c2,c3,c4,c5,c6,c7,c8,c9⟩:=uo h hs
   obtain ⟨a1,a2,a3,a4,a5,a6,a7,a8⟩:=l8 hs
   simp only [c2,Option.getD_some]
   exact uw d d.size _ _ _ (by omega) (Int.le_refl _) (by omega) s.2.1.toNat k [] s.1 0 R (by omega) (by omega) (Int.le_refl _) c1 (by simp only [List.length_nil];omega) c2
 ·rw [if_neg h,if_neg h]
end Go.Proofs.Ytfokaoeinpnagaa.ZQ
namespace Go.Proofs.Ytfokaoeinpnagaa.Kc
open Go Go.RowKit Ev
open Go.Proofs.YtfokaoeinpnagaaW.bD in
theorem y9 {Fz:Nat → Prop} {w:World}:∀ {r:List ByteArray} {inner:List Value},(inner.length = r.length * 1 ∧ ∀ j p,r[j]? = some p → (inner.drop (j * 1)).take 1 = [.string p]) → dZ Fz w 1 (r.map fB) inner
 | [],inner,h=>by
  show inner = []
  exact List.eq_nil_of_length_eq_zero (by simpa using h.1)
 | x :: r,inner,h=>by
  have h0:=h.2 0 x rfl
  rw [Nat.zero_mul,List.drop_zero] at h0
  refine ⟨rfl,by rw [h0];exact ⟨rfl,trivial⟩,y9 ⟨by have:=h.1;simp at this ⊢;omega,fun j p hj=>?_⟩⟩
  have:=h.2 (j + 1) p (by simpa using hj)
  rw [List.drop_drop,show 1 + j * 1 = (j + 1) * 1 from by omega]
  exact this
def gNm (g:Int → ByteArray → List ByteArray) (fJ:List AV):Option (List AV × List AV):=match fJ with
 | [.one (.f (.int .i64 k)),.one (.f (.str q))]=>if q.size ≤ 1000000 then some ([vl ((g k q).map fB)],fJ) else none
 | _=>none
open Go.Proofs.YtfokaoeinpnagaaW.bD in
theorem II {f:FuncId} {g:Int → ByteArray → List ByteArray} (h:∀ k q w,q.size ≤ 1000000 → Calls Try.prog f #[.int .i64 k,.string q] w fun e w'=>∃ v:Value,e = .returned v ∧ Kd.R Kd.string 9 w' w.heap.size (fun _=>True) v (g k q) ∧ Below w.heap.size w w'):Sat Try.prog f (gNm g):=by
 intro fJ rs rD hg Fz w vals bs ha hnd hap hfz
 unfold gNm at hg
 split at hg
 ·rename_i k q
  split at hg
  ·rename_i hq
   cases hg
   obtain ⟨e1,e2⟩:=yu (l:=[.int .i64 k,.str q]) ha
   subst e1;subst e2
   refine (h k q w hq).mono fun e w' ⟨v,he,hv,hb⟩=>?_
   subst he
   obtain ⟨-,inner,ho,hr⟩:=hv
   have hr':inner.length = (g k q).length * 1 ∧ ∀ j p,(g k q)[j]? = some p → (inner.drop (j * 1)).take 1 = [.string p]:=hr
   have hbl:∀ b ∈ Ev.oF v,w.heap.size ≤ b ∧ b < w'.heap.size:=fun b hb'=>by
    rcases ho.2 with ⟨rfl,_⟩ | ⟨y,cap,cur,rfl,hy,hh, -⟩
    ·exact absurd hb' (by simp [Ev.oF,Ev.blk])
    ·have e1:b = y:=by simpa [Ev.oF,Ev.blk] using hb'
     subst e1
     exact ⟨hy,(Array.getElem?_eq_some_iff.mp hh).1⟩
   have hsl:∃ A c,v = .slice A ((g k q).map fB).length c:=by
    rw [List.length_map]
    rcases ho.2 with ⟨rfl,hn⟩ | ⟨y,cap,cur,rfl,_⟩
    ·exact ⟨none,0,by rw [hn]⟩
    ·exact ⟨_,_,rfl⟩
   obtain ⟨A,c,hv⟩:=hsl
   have hro:jk Fz w' 1 ((g k q).map fB) v (Ev.oF v):=⟨by decide,9,inner,A,c,hv,by rw [List.length_map];exact ⟨ho.1,ho.2.imp id (fun ⟨y,cap,cur,h1,_,h3⟩=>⟨y,cap,cur,h1,Nat.zero_le _,h3⟩)⟩,y9 hr',rfl⟩
   refine ⟨fun b=>Fz b ∨ (w.heap.size ≤ b ∧ b < w'.heap.size),[v],[],[],rfl,fun b h=>.inl h,fun b hb'=>?_,hb.size,fun b hb' _=>hb.block b hb',⟨hb.os,hb.output⟩,sU (l:=[.int .i64 k,.str q]),?_,by simp,fun b hb'=>by simp at hb'⟩
   ·rcases hb' with h1 | h1
    ·exact ⟨Nat.lt_of_lt_of_le (hfz b h1) hb.size,.inl h1⟩
    ·exact ⟨h1.2,.inr (.inr h1.1)⟩
   ·exact ⟨[],[],⟨hro.fz (fun b h=>.inl h) (fun b hb'=>.inr (hbl b hb')),rfl⟩,rfl,rfl⟩
  ·cases hg
 ·cases hg
end Go.Proofs.Ytfokaoeinpnagaa.Kc
set_option maxRecDepth 100000
namespace Go.Proofs.Ytfokaoeinpnagaa.Kc
open Go Go.RowKit Ev
abbrev AG := List AV → Option (List AV × List AV)
def Tx (g:ByteArray → SV):AG:=fun fJ=>match fJ with
 | [.one (.f (.str q))]=>if q.size ≤ 1000000 then some (FJ [g q],FJ [.str q]) else none
 | _=>none
def Wj (g:Int → ByteArray → SV):AG:=fun fJ=>match fJ with
 | [.one (.f (.int .i64 k)),.one (.f (.str q))]=>if q.size ≤ 1000000 then some (FJ [g k q],FJ [.int .i64 k,.str q]) else none
 | _=>none
theorem wR {f:FuncId} {g:ByteArray → SV} (h:∀ q w,q.size ≤ 1000000 → Calls Try.prog f #[.string q] w fun e w'=>e = .returned (encS (g q)) ∧ Below w.heap.size w w'):Sat Try.prog f (Tx g):=by
 refine Sat.vW fun fJ r he=>?_
 unfold Tx at he
 split at he
 ·split at he
  ·cases he;rename_i q hq;exact ⟨[.str q],[g q],rfl,rfl,fun w=>h q w hq⟩
  ·cases he
 ·cases he
theorem CK {f:FuncId} {g:Int → ByteArray → SV} (h:∀ k q w,q.size ≤ 1000000 → Calls Try.prog f #[.int .i64 k,.string q] w fun e w'=>e = .returned (encS (g k q)) ∧ Below w.heap.size w w'):Sat Try.prog f (Wj g):=by
 refine Sat.vW fun fJ r he=>?_
 unfold Wj at he
 split at he
 ·split at he
  ·cases he;rename_i k q hq;exact ⟨[.int .i64 k,.str q],[g k q],rfl,rfl,fun w=>h k q w hq⟩
  ·cases he
 ·cases he
def XK (g:ByteArray → Int → Int → Int × Bool):AG:=fun fJ=>match fJ with
 | [.one (.f (.str q)),.one (.f (.int .i64 a)),.one (.f (.int .i64 z))]=>if q.size ≤ 1000000 then some (FJ [.int .i64 (g q a z).1,.bool (g q a z).2],FJ [.str q,.int .i64 a,.int .i64 z]) else none
 | _=>none
theorem IJ {f:FuncId} {g:ByteArray → Int → Int → Int × Bool} (h:∀ q a z w,q.size ≤ 1000000 → Calls Try.prog f #[.string q,.int .i64 a,.int .i64 z] w fun e w'=>e = .returned (.tuple #[.int .i64 (g q a z).1,.bool (g q a z).2]) ∧ Below w.heap.size w w'):Sat Try.prog f (XK g):=by
 refine Sat.vW fun fJ r he=>?_
 unfold XK at he
 split at he
 ·split at he
  ·cases he;rename_i q a z hq;exact ⟨[.str q,.int .i64 a,.int .i64 z],[.int .i64 (g q a z).1,.bool (g q a z).2],rfl,rfl,fun w=>h q a z w hq⟩
  ·cases he
 ·cases he
def EG (s:ByteArray) (a z:Int):Int × Bool:=if ZQ.jX s a z then (ZQ.gZ z.toNat s a,true) else (0,false)
def Wm (q:ByteArray):ByteArray:=if B.jP q = true then B.qD q else ⟨#[]⟩
def AU : Th:=⟨B.jP,Wm,ZQ.zl,ZQ.lw⟩
def nm₀ (k:Int) (q:ByteArray):List ByteArray:=(ZQ.prt k q).2.2.1
def leafs : List (FuncId × AG):=[
 (70,Tx fun q=>.bool (B.jP q)),(48,Tx fun q=>.str (Wm q)),
 (24,Tx fun q=>.bool (B.jP q)),(37,Tx fun q=>.str (Wm q)),
 (73,Wj fun k q=>.bool (ZQ.zl k q)),(83,Wj fun k q=>.str (ZQ.lw k q)),
 (52,Wj fun k q=>.bool (ZQ.zl k q)),
 (68,PS 1 false),(45,PS 3 true),
 (80,XK EG),(77,XK EG),(29,gNm nm₀),(30,gNm nm₀)]
theorem EH : ∀ p ∈ leafs,Sat Try.prog p.1 p.2:=by
 have hk:∀ q:ByteArray,q.size ≤ 1000000 → q.size ≤ 1000000000:=fun q h=>by omega
 intro p hp
 simp only [leafs,List.mem_cons,List.not_mem_nil,or_false] at hp
 rcases hp with rfl | rfl | rfl | rfl | rfl | rfl | rfl | rfl | rfl | rfl | rfl | rfl | rfl
 ·exact wR fun q w hq=>ZQ.iO.calls 600 q _ w (ZQ.Em 600 (Nat.le_refl _) q (hk q hq))
 ·exact wR fun q w hq=>ZQ.mJ.calls 600 q _ w (ZQ.vU 600 (Nat.le_refl _) q (hk q hq))
 ·exact wR fun q w hq=>ZQ.dz.calls 600 q _ w (ZQ.tX 600 (Nat.le_refl _) q (hk q hq))
 ·exact wR fun q w hq=>ZQ.gK.calls 600 q _ w (ZQ.Gp 600 (Nat.le_refl _) q (hk q hq))
 ·exact CK fun k q w hq=>ZQ.iR.calls _ k q _ w (ZQ.AP (ZQ.K0 + 20) (by omega) k q)
 ·exact CK fun k q w hq=>ZQ.eG.calls _ k q _ w (ZQ.Ru (ZQ.K0 + 20) (by omega) k q)
 ·exact CK fun k q w hq=>ZQ.dA.calls _ k q _ w (ZQ.qX (ZQ.K0 + 20) (by omega) k q)
 ·exact PU
 ·exact PW
 ·refine IJ fun q a z w hq=>?_
  have h:=ZQ.get_eq 9 (Nat.le_refl _) q a z (by omega)
  exact (ZQ.bg.calls 9 q a z _ _ w h).mono fun e w' hh=>⟨hh.1,hh.2.below⟩
 ·refine IJ fun q a z w hq=>?_
  have h:=ZQ.rM 9 (Nat.le_refl _) q a z hq
  exact (ZQ.av.calls 9 q a z _ _ w h).mono fun e w' hh=>⟨hh.1,hh.2.below⟩
 ·exact II fun k q w hq=>ZQ.mO.calls _ k q _ w (ZQ.ND (ZQ.K0 + 20) (by omega) k q)
 ·exact II fun k q w hq=>ZQ.bC.calls _ k q _ w (ZQ.CJ (ZQ.K0 + 20) (by omega) k q)
theorem za : ∀ p ∈ leafs,∃ fn,Try.prog.funcs[p.1]? = some fn ∧ (fn.name == "runtime.NumGoroutine") = false ∧ fn.body.isSome = true:=by
 intro p hp
 simp only [leafs,List.mem_cons,List.not_mem_nil,or_false] at hp
 rcases hp with rfl | rfl | rfl | rfl | rfl | rfl | rfl | rfl | rfl | rfl | rfl | rfl | rfl
 ·exact ⟨Try.f70,by kernel_rfl,by kernel_rfl,by kernel_rfl⟩
 ·exact ⟨Try.f48,by kernel_rfl,by kernel_rfl,by kernel_rfl⟩
 ·exact ⟨Try.f24,by kernel_rfl,by kernel_rfl,by kernel_rfl⟩
 ·exact ⟨Try.f37,by kernel_rfl,by kernel_rfl,by kernel_rfl⟩
 ·exact ⟨Try.f73,by kernel_rfl,by kernel_rfl,by kernel_rfl⟩
 ·exact ⟨Try.f83,by kernel_rfl,by kernel_rfl,by kernel_rfl⟩
 ·exact ⟨Try.f52,by kernel_rfl,by kernel_rfl,by kernel_rfl⟩
 ·exact ⟨Try.f68,by kernel_rfl,by kernel_rfl,by kernel_rfl⟩
 ·exact ⟨Try.f45,by kernel_rfl,by kernel_rfl,by kernel_rfl⟩
 ·exact ⟨Try.f80,by kernel_rfl,by kernel_rfl,by kernel_rfl⟩
 ·exact ⟨Try.f77,by kernel_rfl,by kernel_rfl,by kernel_rfl⟩
 ·exact ⟨Try.f29,by kernel_rfl,by kernel_rfl,by kernel_rfl⟩
 ·exact ⟨Try.f30,by kernel_rfl,by kernel_rfl,by kernel_rfl⟩
def Gq : Env:=nM leafs
theorem Rv : iJ Try.prog Gq:=yw EH
theorem J2 : eB Try.prog Gq:=rG za
noncomputable def ins : List (FuncId × AG):=(21,vJ Gq 200000000000001 9) :: leafs
theorem Wn : ∀ p ∈ ins,Sat Try.prog p.1 p.2:=by
 intro p hp
 rcases List.mem_cons.mp hp with rfl | hp
 ·exact PX Rv J2 _ _
 ·exact EH p hp
theorem NG : ∀ p ∈ ins,∃ fn,Try.prog.funcs[p.1]? = some fn ∧ (fn.name == "runtime.NumGoroutine") = false ∧ fn.body.isSome = true:=by
 intro p hp
 rcases List.mem_cons.mp hp with rfl | hp
 ·exact ⟨Try.f21,by kernel_rfl,by kernel_rfl,by kernel_rfl⟩
 ·exact za p hp
noncomputable def ext1 : Env:=nM ins
theorem Rw : iJ Try.prog ext1:=yw Wn
theorem J3 : eB Try.prog ext1:=rG NG
theorem abv : AU.Ok Gq:=by
 constructor <;> intros <;> simp_all [Gq,leafs,nM,Tx,Wj,FJ,Vq,AU,vs,vb,vi]
theorem Wo : AU.Ok ext1:=by
 constructor <;> intros <;> simp_all [ext1,ins,leafs,nM,Tx,Wj,FJ,Vq,AU,vs,vb,vi]
theorem IK {α:Type} (sz:Nat) (own:Bool) (l:List α) (f:α → List FV) (hf:∀ x,(f x).length = sz) (h:l.length ≤ 1000000):PS sz own [vl (l.map f)] = some ([.one (if own then .own sz (l.map f) else .f (.sl (l.map f)))],[vl (l.map f)]):=by
 have h1:((l.map f).all fun r=>r.length == sz) = true:=by
  rw [List.all_eq_true];intro r hr;obtain ⟨x, -,rfl⟩:=List.mem_map.mp hr;exact beq_iff_eq.mpr (hf x)
 show (if (l.map f).length ≤ 1000000 ∧ _ then _ else _) = _
 rw [if_pos ⟨by rw [List.length_map];exact h,h1⟩]
theorem abw (l:List ByteArray) (h:l.length ≤ 1000000):PS 1 false [vl (l.map fB)] = some ([vl (l.map fB)],[vl (l.map fB)]):=IK 1 false l fB (fun _=>rfl) h
theorem abx (l:List Qn) (h:l.length ≤ 1000000):PS 3 true [vl (l.map rQ)] = some ([.one (.own 3 (l.map rQ))],[vl (l.map rQ)]):=IK 3 true l rQ (fun _=>rfl) h
theorem aby : nD Gq:=⟨fun l h=>abx l h,fun l h=>abw l h⟩
theorem Wp : nD ext1:=⟨fun l h=>abx l h,fun l h=>abw l h⟩
theorem EI (fJ:List AV):ext1 21 fJ = vJ Gq 200000000000001 (0 + 9) fJ:=by
 unfold ext1 ins nM;rw [if_pos rfl]
theorem Rx : DN AU ext1 where
 p0 now x r:=by rw [EI];exact Mj now x r
 p1 s now x r h1 h2 h3 _ h4 h5 h6:=by rw [EI];exact Mk abv aby s now x r (Nat.le_refl _) h1 h2 h3 h4 h5 h6
theorem Wq : Ne.FD EG ext1:=by
 refine ⟨fun s a z h=>?_,fun s a z h=>?_,fun s a z=>?_⟩
 ·simp [ext1,ins,leafs,nM,XK,FJ,Vq,h,vs,vb,vi]
 ·simp [ext1,ins,leafs,nM,XK,FJ,Vq,h,vs,vb,vi]
 ·unfold EG
  split
  ·exact (ZQ.oq _ _ _).1
  ·exact Int.le_refl _
theorem Ws : BQ nm₀ ext1:=by
 constructor
 all_goals
  intro k q h
  simp [ext1,ins,leafs,nM,gNm,h,vs,vi]
end Go.Proofs.Ytfokaoeinpnagaa.Kc
namespace Go.Proofs.Ytfokaoeinpnagaa.Kc
open Go Ev
variable {nm : Int → ByteArray → List ByteArray} {θ:Th} {gt:ByteArray → Int → Int → Int × Bool}
abbrev fr : ByteArray:=⟨#[5,97,108,105,97,115,5,97,108,105,97,115,0]⟩
end Go.Proofs.Ytfokaoeinpnagaa.Kc
set_option maxRecDepth 100000
namespace Go.Proofs.Ytfokaoeinpnagaa.Kc
open Go Go.RowKit Ev
theorem Ry : Ma AU nm₀ EG:=by constructor <;> decide +kernel
end Go.Proofs.Ytfokaoeinpnagaa.Kc
namespace Go.Proofs.Ytfokaoeinpnagaa.Ev
open Go Go.RowKit
structure Old (w w':World):Prop where
 os:w'.os = w.os
 output:w'.output = w.output
 size:w.heap.size ≤ w'.heap.size
 block:∀ k,k < w.heap.size → w'.heap[k]? = w.heap[k]?
theorem Old.frame {W w':World} (h:Old W w') (may:MemPlace → Prop):W.keptBut w' may:=by
 refine ⟨h.os,h.output,fun i hi=>?_⟩
 rw [h.block i hi]
 split <;> simp_all
theorem Old.same {W w':World} (h:Old W w') {p:MemPlace} (hp:p.block < W.heap.size):W.sameAt w' p:=by
 cases p with
 | cell b o=>exact World.cell?_of_block (w:=W) (h.block b hp)
 | map b=>exact h.block b hp
theorem Old.trod {H:Type} {enc:TypeId × Value → H} {P:Program} {t:TypeId} (hl:laidOutB P = true) (hr:P.readableRec t = true) (hrow:t < P.types.size) {W W':World} {v:Value} {d:DataW H} {ps:List MemPlace}
  (h:DataW.Trod enc P W 0 (fun _=>true) true t v d ps) (hb:Old W W') (hlt:∀ x ∈ ps,x.block < W.heap.size):DataW.Trod enc P W' 0 (fun b=>decide (b < W.heap.size)) true t v d ps :=
 WideElems.Trod_stays hl hr hrow h (fun x hx=>hb.same (hlt x hx)) (fun x hx=>by simpa using hlt x hx)
theorem J4 {P:Program} {Γ:Env} (lW:iJ P Γ) {f:FuncId} {fJ rD:List AV} {b:Bool} {vals:List Value} {W:World} (h:Γ f fJ = some ([.one (.f (.bool b))],rD)) (ha:fO (fun k=>k < W.heap.size) W fJ vals []) :
  Calls P f vals.toArray W fun e W'=>e = .returned (.bool b) ∧ Old W W':=by
 refine (lW f fJ _ _ h (fun k=>k < W.heap.size) W vals [] ha List.nodup_nil (by simp) (fun _ h=>h)).mono fun e w' ⟨bJ,uK,b1,b2,he,hp⟩=>?_
 refine ⟨?_,hp.kp.1,hp.kp.2,hp.big,fun k hk=>hp.ext k hk (by simp)⟩
 match uK,hp.rs with
 | [v],⟨c1,c2,h1,h2,h3⟩=>rw [he,show v = .bool b from h1.1];rfl
def IL (P:Program) {α:Type} (T:TypeId) (f:α → List FV) (G:α → Prop):Prop :=
 ∀ {H:Type} (enc:TypeId × Value → H) (w:World) (spare:Nat → Bool) (held:Bool) (fuel:Nat) (cs:List Value) (x:DataW H × List MemPlace),
  DataW.trod enc P w 0 spare held fuel T cs = some x → (∀ n ∈ x.1.weights P T,n ≤ reachBytes) → ∃ a:α,bZ (fun k=>k < w.heap.size) w (f a) cs ∧ G a
section
variable {P : Program}
theorem uy {k:IntKind} {T:TypeId} (h:P.underlying T = some (.int k)):IL P T (fun n=>[FV.int k n]) (fun n=>(Lit.int k n).wf = true):=by
 intro H enc w spare held fuel cs x hx _
 obtain ⟨n,rfl,rfl,hw⟩:=DataW.trod_int h hx
 exact ⟨n,⟨by simp only [fu],trivial⟩,hw⟩
theorem IQ {T:TypeId} (h:P.underlying T = some .string):IL P T (fun s=>[FV.str s]) (fun s=>s.size ≤ 140737488351232):=by
 intro H enc w spare held fuel cs x hx hz
 obtain ⟨s,rfl,rfl,hw⟩:=DataW.trod_string h hx
 refine ⟨s,⟨by simp only [fu],trivial⟩,?_⟩
 have:=hz s.data.toList.length (by simp [DataW.weights])
 rw [Array.length_toList] at this
 exact this
theorem nR {H:Type} {e:TypeId}:∀ {ds:List (DataW H)} {i:Nat} {d:DataW H},ds[i]? = some d → ∀ n ∈ d.weights P e,n ∈ DataW.weightsAll P e ds
 | [],i,d,h,_,_=>by simp at h
 | d0 :: ds,0,d,h,n,hn=>by
  simp at h;subst h
  exact List.mem_append.mpr (.inl hn)
 | d0 :: ds,i + 1,d,h,n,hn=>by
  simp at h
  exact List.mem_append.mpr (.inr (nR h n hn))
theorem vV {H:Type} {ts:List TypeId} {ds:List (DataW H)} (h:(DataW.weightsEach P ts ds).all (· ≤ reachBytes) = true) {j:Nat} {t:TypeId} {d:DataW H} (ht:ts[j]? = some t) (hd:ds[j]? = some d) :
  ∀ n ∈ d.weights P t,n ≤ reachBytes:=fun n hn=>by
 have:=List.all_eq_true.1 h n (DataW.weights_mem_each ht hd n hn)
 simpa using this
theorem uz {α:Type} {Q:Nat → α → Prop}:∀ n,(∀ i,i < n → ∃ y,Q i y) → ∃ ys:List α,ys.length = n ∧ ∀ i y,ys[i]? = some y → Q i y
 | 0,_=>⟨[],rfl,by simp⟩
 | n + 1,h=>by
  obtain ⟨ys,hl,hq⟩:=uz n (fun i hi=>h i (by omega))
  obtain ⟨y,hy⟩:=h n (by omega)
  refine ⟨ys ++ [y],by simp [hl],fun i z hz=>?_⟩
  by_cases hi:i < n
  ·rw [List.getElem?_append_left (by omega)] at hz
   exact hq i z hz
  ·have hlt:=(List.getElem?_eq_some_iff.1 hz).1
   simp only [List.length_append,List.length_singleton] at hlt
   obtain rfl:i = n:=by omega
   rw [List.getElem?_append_right (by omega),hl,Nat.sub_self] at hz
   simp at hz
   subst hz
   exact hy
theorem AX {Fz:Nat → Prop} {w:World} {b:Nat}:∀ (xs:List FV) (cs:List Value) (o:Nat),bZ Fz w xs cs → (∀ i u,cs[i]? = some u → w.cell? ⟨b,o + i,none⟩ = some u) → dV Fz w b o xs
 | [],_,_,_,_=>by simp only [dV]
 | x :: xs,[],_,h,_=>h.elim
 | x :: xs,c :: cs,o,h,hc=>by
  simp only [dV]
  exact ⟨⟨c,hc 0 c rfl,h.1⟩,AX xs cs (o + 1) h.2 fun i u hi=>by rw [show o + 1 + i = o + (i + 1) from by omega];exact hc (i + 1) u hi⟩
theorem ze {Fz:Nat → Prop} {w:World} {sz b:Nat} {α:Type} {f:α → List FV} (hf:∀ a,(f a).length = sz):∀ (l:List α) (o:Nat),(∀ i y,l[i]? = some y → dV Fz w b (o + i * sz) (f y)) → cZ Fz w sz b o (l.map f)
 | [],_,_=>by simp only [List.map_nil,cZ]
 | y :: l,o,h=>by
  simp only [List.map_cons,cZ]
  refine ⟨hf y,by simpa using h 0 y rfl,ze hf l (o + sz) fun i z hz=>?_⟩
  rw [show o + sz + i * sz = o + (i + 1) * sz from by rw [Nat.add_mul];omega]
  exact h (i + 1) z hz
theorem J5 (a:Addr) (x y:Nat):(a.add x).add y = a.add (x + y):=by
 unfold Addr.add
 by_cases hx:x = 0
 ·subst hx;simp
 ·by_cases hy:y = 0
  ·subst hy;simp [hx]
  ·simp [hx,hy,Nat.add_assoc]
theorem zf {w:World} {a:Addr} {u:Value} (h:w.cell? a = some u):a = ⟨a.block,a.off,none⟩ ∧ a.block < w.heap.size:=by
 unfold World.cell? at h
 split at h
 ·rename_i c _ _ hb
  split at h
  ·cases h
  ·rename_i hs
   obtain ⟨b,o,s⟩:=a
   cases s with
   | none=>exact ⟨rfl,by have:=(Array.getElem?_eq_some_iff.mp hb).1;exact this⟩
   | some s=>simp at hs
 ·cases h
theorem AY {α:Type} {f:α → List FV} {T e:TypeId} {G:α → Prop} (sz:Nat) (h:P.underlying T = some (.slice e)) (hc:P.cellsOf e = sz) (h0:0 < sz) (hf:∀ a,(f a).length = sz) (hby:decide (1 ≤ P.bytesOf e) = true) (hd:IL P e f G) :
  IL P T (fun l:List α=>[FV.sl (l.map f)]) (fun l=>l.length ≤ 140737488351232 ∧ ∀ x ∈ l,G x):=by
 intro H enc w spare held fuel cs x hx hz
 rcases DataW.trod_slice h hx with ⟨rfl,rfl⟩ | ⟨a,len,cap,elems,rest,n,_,rfl,rfl,hb,hl,hm,hlen,hel,_,_⟩
 ·refine ⟨[],⟨?_,trivial⟩,by simp⟩
  simp only [fu]
  exact ⟨none,0,rfl,Nat.le_refl _,by simp,.inl rfl⟩
 ·have hw:∀ m ∈ (elems.length + rest.length) * P.bytesOf e :: (DataW.weightsAll P e (elems.map (·.1)) ++ DataW.weightsAll P e (rest.map (·.1))),m ≤ reachBytes:=by
   intro m hm'
   refine hz m ?_
   simp only [DataW.weights,h,List.length_map]
   exact hm'
  obtain ⟨ys,hyl,hys⟩:=uz (α:=α) (Q:=fun i y=>∃ c,w.cells? 0 (a.add (i * P.cellsOf e)) (P.cellsOf e) = some c ∧ bZ (fun k=>k < w.heap.size) w (f y) c ∧ G y) len (fun i hi=>by
   have h1:=hel i hi
   rw [List.getElem?_eq_getElem (by omega),Option.bind_eq_some_iff] at h1
   obtain ⟨c,hc1,hc2⟩:=h1
   obtain ⟨y,hy,hg⟩:=hd enc w spare held n c _ hc2 (fun m hm'=>by
    refine hw m (List.mem_cons_of_mem _ (List.mem_append.mpr (.inl ?_)))
    exact nR (i:=i) (d:=(elems[i]'(by omega)).1) (by rw [List.getElem?_map,List.getElem?_eq_getElem (by omega)];rfl) m hm')
   exact ⟨y,c,hc1,hy,hg⟩)
  have hlen1:(elems.length + rest.length) * P.bytesOf e ≤ reachBytes:=hw _ (by simp)
  have hlm:cap ≤ 9223372036854775807:=by unfold maxLen at hm;omega
  refine ⟨ys,⟨?_,trivial⟩,?_,?_⟩
  ·simp only [fu,List.length_map]
   refine ⟨some a,cap,by rw [hyl],by omega,by omega,?_⟩
   cases hy0:ys with
   | nil=>exact .inl rfl
   | cons y0 ys0 =>
    right
    obtain ⟨c0,k0,_,_⟩:=hys 0 y0 (by rw [hy0];rfl)
    rw [hc] at k0
    obtain ⟨_,kl,kc⟩:=World.cells?_some k0
    have k1:=kc 0 h0
    rw [List.getElem?_eq_getElem (by omega)] at k1
    obtain ⟨ea,eb⟩:=zf k1
    have ea0:(a.add (0 * sz)).add 0 = a:=by simp [Addr.add]
    rw [ea0] at ea eb
    refine ⟨a.block,a.off,sz,congrArg some ea,eb,?_⟩
    rw [← hy0]
    refine ze hf ys a.off fun i y hi=>?_
    obtain ⟨c,hc1,hk,_⟩:=hys i y hi
    rw [hc] at hc1
    obtain ⟨_,hcl,hcc⟩:=World.cells?_some hc1
    refine AX _ c _ hk fun j u hj=>?_
    have hj':j < sz:=by have:=(List.getElem?_eq_some_iff.1 hj).1;omega
    have:=hcc j hj'
    rw [J5,hj] at this
    obtain ⟨e1,_⟩:=zf this
    rw [e1] at this
    have e2:a.add (i * sz + j) = ⟨a.block,a.off + i * sz + j,none⟩:=by
     rw [ea];unfold Addr.add;split
     ·rename_i hz;congr 1;simp only;omega
     ·congr 1;simp only;omega
    rw [e2] at this
    exact this
  ·rw [hyl,← hlen]
   have h1:elems.length * P.bytesOf e ≤ (elems.length + rest.length) * P.bytesOf e:=Nat.mul_le_mul_right _ (by omega)
   have h2:reachBytes = 140737488351232:=rfl
   have h3:elems.length * 1 ≤ elems.length * P.bytesOf e:=Nat.mul_le_mul_left _ (of_decide_eq_true hby)
   omega
  ·intro y hy
   obtain ⟨i,hi,rfl⟩:=List.mem_iff_getElem.1 hy
   obtain ⟨_,_,_,hg⟩:=hys i _ (List.getElem?_eq_getElem hi)
   exact hg
def Rz (P:Program) {α:Type} (sz:Nat) (f:α → List FV) (fs:List (TypeId × Nat)) (off:Nat) (G:α → Prop):Prop :=
 ∀ {H:Type} (enc:TypeId × Value → H) (w:World) (spare:Nat → Bool) (held:Bool) (n:Nat) (cs:List Value) (xs:List (DataW H × List MemPlace)),
  (∀ (i:Nat) (f:TypeId × Nat),fs[i]? = some f → DataW.trod enc P w 0 spare held n f.1 ((cs.drop f.2).take (P.cellsOf f.1)) = xs[i]?) → xs.length = fs.length →
  (∀ (i:Nat) (x:DataW H × List MemPlace) (f:TypeId × Nat),xs[i]? = some x → fs[i]? = some f → ∀ m ∈ x.1.weights P f.1,m ≤ reachBytes) → cs.length = off + sz → ∃ a,bZ (fun k=>k < w.heap.size) w (f a) (cs.drop off) ∧ G a
theorem vB {α:Type} {sz:Nat} {f:α → List FV} {t:TypeId} {off:Nat} {G:α → Prop} (hd:IL P t f G) (hc:P.cellsOf t = sz):Rz P sz f [(t,off)] off G:=by
 intro H enc w spare held n cs xs hf hl hw hn
 match xs,hl with
 | [y],_ =>
  have h1:=hf 0 _ rfl
  have h2:(cs.drop off).take (P.cellsOf t) = cs.drop off:=List.take_of_length_le (by rw [List.length_drop];omega)
  rw [h2] at h1
  exact hd enc w spare held n _ y h1 (hw 0 y _ rfl rfl)
theorem AZ {Fz:Nat → Prop} {w:World}:∀ {xs ys:List FV} {cs ds:List Value},bZ Fz w xs cs → bZ Fz w ys ds → bZ Fz w (xs ++ ys) (cs ++ ds)
 | [],_,[],_,_,h=>h
 | [],_,_ :: _,_,h,_=>h.elim
 | _ :: _,_,[],_,h,_=>h.elim
 | x :: xs,ys,c :: cs,ds,h,k=>⟨h.1,AZ h.2 k⟩
theorem kT {α β:Type} {sz sz':Nat} {f:α → List FV} {g:β → List FV} {t:TypeId} {fs:List (TypeId × Nat)} {off:Nat} {G:α → Prop} {G':β → Prop} (hd:IL P t f G) (hc:P.cellsOf t = sz)
  (hr:Rz P sz' g fs (off + sz) G'):Rz P (sz + sz') (fun p:α × β=>f p.1 ++ g p.2) ((t,off) :: fs) off (fun p=>G p.1 ∧ G' p.2):=by
 intro H enc w spare held n cs xs hf hl hw hn
 match xs,hl with
 | y :: ys,hl =>
  have h1:=hf 0 _ rfl
  obtain ⟨a,ha,ga⟩:=hd enc w spare held n _ y h1 (hw 0 y _ rfl rfl)
  obtain ⟨b,hb,gb⟩:=hr enc w spare held n cs ys (fun i f hi=>hf (i + 1) f hi) (by simpa using hl) (fun i x f hx hfi=>hw (i + 1) x f hx hfi) (by omega)
  refine ⟨(a,b),?_,ga,gb⟩
  have e:cs.drop off = (cs.drop off).take (P.cellsOf t) ++ cs.drop (off + sz):=by rw [← List.drop_drop,hc,List.take_append_drop]
  rw [e]
  exact AZ ha hb
theorem rO {α:Type} {sz:Nat} {f:α → List FV} {T:TypeId} {fs:Array Field} {G:α → Prop} (h:P.underlying T = some (.struct fs)) (hc:P.cellsOf T = sz)
  (hd:Rz P sz f (fs.toList.map fun f=>(f.type,f.offset)) 0 G):IL P T f G:=by
 intro H enc w spare held fuel cs x hx hz
 obtain ⟨xs,n,_,rfl,hl,hlen,hf⟩:=DataW.trod_struct h hx
 have hd':=hd enc w spare held n cs xs ?_ (by rw [List.length_map,Array.length_toList];exact hlen) ?_ (by rw [Nat.zero_add,← hc];exact hl)
 ·obtain ⟨a,ha,ga⟩:=hd'
  exact ⟨a,by simpa using ha,ga⟩
 ·intro i f hi
  rw [List.getElem?_map,Option.map_eq_some_iff] at hi
  obtain ⟨f',hf',rfl⟩:=hi
  exact hf i f' (by rw [← Array.getElem?_toList];exact hf')
 ·intro i x f hxi hfi m hm
  refine hz m ?_
  simp only [DataW.weights,h]
  refine DataW.weights_mem_each (j:=i) (t:=f.1) (d:=x.1) ?_ ?_ m hm
  ·rw [List.getElem?_map] at hfi ⊢
   rw [Option.map_eq_some_iff] at hfi ⊢
   obtain ⟨f',hf',rfl⟩:=hfi
   exact ⟨f',hf',rfl⟩
  ·rw [List.getElem?_map,hxi];rfl
theorem wS {α β:Type} {T:TypeId} {f:α → List FV} {f':β → List FV} {G:α → Prop} {G':β → Prop} (g:α → β) (hg:∀ a,f' (g a) = f a) (hG:∀ a,G a → G' (g a)) (hd:IL P T f G):IL P T f' G':=by
 intro H enc w spare held fuel cs x hx hz
 obtain ⟨a,ha,ga⟩:=hd enc w spare held fuel cs x hx hz
 exact ⟨g a,by rw [hg];exact ha,hG a ga⟩
theorem zh {w:World} {r:Reach} {base:Nat} {t:TypeId} {fs:Array Field} {v:Value} (ht:P.underlying t = some (.struct fs)) (h:Value.okWide P w r base t v):∃ cs,v = .agg cs:=by
 simp only [Value.okWide,ht] at h
 obtain ⟨cs,h1,_⟩:=h
 exact ⟨cs,h1⟩
theorem EJ {Fz:Nat → Prop} {w:World}:∀ {xs:List FV} {cs:List Value},bZ Fz w xs cs → lK Fz w (xs.map .f) cs []
 | [],[],_=>rfl
 | [],_ :: _,h=>h.elim
 | _ :: _,[],h=>h.elim
 | x :: xs,c :: cs,h=>⟨[],[],⟨h.1,rfl⟩,EJ h.2,rfl⟩
theorem NH {Fz:Nat → Prop} {w:World} {xs:List FV} {cs:Array Value} (h:bZ Fz w xs cs.toList):oU Fz w (.agg (xs.map .f)) (.agg cs) []:=⟨cs,rfl,EJ h⟩
theorem EK {Fz:Nat → Prop} {w:World} {x:FV} {v:Value} (h:fu Fz w x v):oU Fz w (.one (.f x)) v []:=⟨h,rfl⟩
theorem rR {Fz:Nat → Prop} {w:World} {x:AV} {v:Value} {xs:List AV} {vs:List Value} (h:oU Fz w x v []) (k:fO Fz w xs vs []):fO Fz w (x :: xs) (v :: vs) []:=⟨[],[],h,k,rfl⟩
theorem J6 {Fz:Nat → Prop} {w:World}:fO Fz w [] [] []:=rfl
end
end Go.Proofs.Ytfokaoeinpnagaa.Ev
set_option maxRecDepth 100000
namespace Go.Proofs.Ytfokaoeinpnagaa.Kc
open Go Ev
theorem opQ : IL Try.prog 24 rQ (fun _=>True) :=
 wS (fun p:ByteArray × Int × Int=>⟨p.1,p.2.1,p.2.2⟩) (by exact fun _=>rfl) (by exact fun _ _=>trivial) (rO Try.underlying24 (by kernel_rfl) (kT (sz:=1) (sz':=2) (IQ Try.underlying9) (by kernel_rfl) (kT (sz:=1) (sz':=1) (uy Try.underlying3) (by kernel_rfl) (vB (uy Try.underlying3) (by kernel_rfl)))))
theorem opD : IL Try.prog 25 (fun d:List ByteArray=>[.sl (d.map fB)]) (fun d=>d.length ≤ 140737488351232) :=
 wS (fun d:List ByteArray=>d) (by exact fun _=>rfl) (by exact fun _ h=>h.1) (AY 1 Try.underlying25 (by kernel_rfl) (by decide) (fun _=>rfl) (by kernel_rfl) (IQ Try.underlying9))
theorem opS : IL Try.prog 27 rS (fun x=>x.d.length ≤ 140737488351232) :=
 wS (fun p:Qn × List ByteArray × Int=>⟨p.1.q,p.1.t,p.1.c,p.2.1,p.2.2⟩) (by exact fun _=>rfl) (by exact fun _ h=>h.2.1) (rO Try.underlying27 (by kernel_rfl) (kT (sz:=3) (sz':=2) opQ (by kernel_rfl) (kT (sz:=1) (sz':=1) opD (by kernel_rfl) (vB (uy Try.underlying3) (by kernel_rfl)))))
theorem opP : IL Try.prog 51 rP (fun x=>x.s.d.length ≤ 140737488351232) :=
 wS (fun p:Int × Se × Int × Qn=>⟨p.1,p.2.1,p.2.2.1,p.2.2.2⟩) (by exact fun _=>rfl) (by exact fun _ h=>h.2.1) (rO Try.underlying51 (by kernel_rfl) (kT (sz:=1) (sz':=9) (uy Try.underlying3) (by kernel_rfl) (kT (sz:=5) (sz':=4) opS (by kernel_rfl) (kT (sz:=1) (sz':=3) (uy Try.underlying3) (by kernel_rfl) (vB opQ (by kernel_rfl))))))
theorem afJ : IL Try.prog 47 (fun l:List Pt=>[.sl (l.map rP)]) (fun l=>l.length ≤ 140737488351232 ∧ ∀ x ∈ l,x.s.d.length ≤ 140737488351232) :=
 AY 10 Try.underlying47 (by kernel_rfl) (by decide) (fun _=>rfl) (by kernel_rfl) opP
end Go.Proofs.Ytfokaoeinpnagaa.Kc

/- A part of the proof of ChainAges: cut, joined and given short names by a program of this session (wip/tools/pack.py); Lean checks it. No condition. -/
import Derived.Test.YtfokaoeinpnagaaPCAesj
import Derived.Test.YtfokaoeinpnagaaPCAesl
import Derived.Test.YtfokaoeinpnagaaPCAesk
import Derived.Test.YtfokaoeinpnagaaPCAesh
import Derived.Test.YtfokaoeinpnagaaPCAesi
import Derived.Test.YtfokaoeinpnagaaPCAese
import Derived.ProofKit
import Derived.OpenShut
import Derived.SizedLaws
import Derived.ChangeArms
import Derived.ChangeSlices
import Derived.Carry
import Derived.KernelRfl
import Derived.Test.YtfokaoeinpnagaaPCAesd
set_option linter.unusedSectionVars false
set_option linter.unusedSimpArgs false
set_option linter.unusedVariables false
namespace Go.Proofs.Ytfokaoeinpnagaa.ZQ
open Go.RowKit Go.Proofs.YtfokaoeinpnagaaW.bD Go.Proofs.YtfokaoeinpnagaaW.dJ Go.Proofs.YtfokaoeinpnagaaW.eG
attribute [local go_sem] jy jA kD kE iI iJ jB jC
attribute [local go_sem high] Ws
def aN.j0 : Nat → Int → Bool → Option (Int × Int × Int)
 | 0,_,_=>none
 | k + 1,x3,x4=>if x4 = true then (some (0,1,0)) else (if x3 = 6 then (some (0,2,20)) else (if x3 = 15 then (some (2,1,0)) else (if x3 = 33 then (some (6,1,0)) else (if x3 = 1 then (some (4,0,0)) else (if x3 = 28 then (some (16,0,0)) else (some (0,0,0)))))))
def aN.f (k:Nat) (a0:Int):Option (Int × Int × Int):=if a0 = 2 then (aN.j0 k a0 (a0 == 2)) else (if a0 = 5 then (aN.j0 k a0 (a0 == 5)) else (aN.j0 k a0 (a0 == 12)))
set_option maxHeartbeats 8000000 in
set_option maxRecDepth 100000 in
theorem aN.calls (k:Nat) (a0:Int) (r1:Int) (r2:Int) (r3:Int) (w:World) (h:aN.f k a0 = some (r1,r2,r3)) :
  Calls Try.prog 53 #[.int .i64 a0] w fun e w'=>e = .returned (.agg #[.int .i64 r1,.int .i64 r2,.int .i64 r3]) ∧ Below w.heap.size w w':=by
 have TB:=Try.underlying119
 have HB:=aj.mk (Below.refl w.heap.size w)
 have H:(if a0 = 2 then (aN.j0 k a0 (a0 == 2)) else (if a0 = 5 then (aN.j0 k a0 (a0 == 5)) else (aN.j0 k a0 (a0 == 12)))) = some (r1,r2,r3):=h
 clear h
 have V4:=aj.mk H
 clear H
 go_enter Try.func53,Try.ntmps53
 go_upto_if 4 with (first | ((with_reducible refine gL (N:=2) rfl ?_);refine fV ?hg (N:=2) ?hd (cs:=#[.int .i64 0,.int .i64 0,.int .i64 0]) (t:=119) ?hr ?_;(case hd=>rfl);(case hg=>rfl);(case hr=>first | (go_simp;done) | (go_simp;rfl));intro gZ hg w3 gY hb;have eF:=aj.mk (bI (by repeat (first | (with_reducible first | exact HB.out | apply ak | apply ah | apply au) | exact HB.out)) hb);have iE:=aj.mk (gY);have jH:=aj.mk ((by rw [hg];exact (bK (by repeat (first | (with_reducible first | exact HB.out | apply ak | apply ah | apply au) | exact HB.out))):w.heap.size ≤ gZ));have jN:=aj.mk ((by rw [hg];exact (bK (by repeat (first | (with_reducible first | exact HB.out | apply ak | apply ah | apply au) | exact HB.out))):w.heap.size ≤ gZ));clear HB;have HB:=eF;have dR:=iE;have ahG:=jH;have qY:=jN;clear eF iE jH jN;clear hb gY hg))
 (try simp only [Act.put,List.setIfInBounds_toArray,List.set_cons_zero,List.set_cons_succ])
 go_cut [4] (fun v4 wc=>∃ (kq:Nat) (qH:Bool),v4 = .bool qH ∧ aj (aN.j0 kq a0 qH = some (r1,r2,r3)) ∧ aj (kq ≤ k) ∧ aj (wc.heap[gZ]? = some (.cells #[.int .i64 0,.int .i64 0,.int .i64 0] 119 (0,0))) ∧ aj (Below w.heap.size w wc))
 case first =>
  have H:=V4.out
  clear V4
  by_cases c4:a0 = 2
  ·rw [if_pos c4] at H
   have qJ:(a0 == 2) = true:=beq_iff_eq.mpr c4
   have JU:(a0 != 2) = false:=bne_eq_false_iff_eq.mpr c4
   clear c4
   (first | rw [qJ] | rw [Ng] | (simp only [gV,iD];rw [qJ]) | skip)
   have H':=aj.mk H
   clear H
   go_wp2
   go_meet
   case rel=>exact ⟨_,((a0 == 2)),(by first | rfl | (simp;done) | (simp [*];done) | (simp [B.aX];done) | (simp [B.aY];done)),H',⟨by first | omega | exact Nat.le_refl _⟩,⟨by (with_reducible repeat (first | refine aG ?_ _ | refine aH ?_ | refine aD ?_ _));exact dR.out⟩,⟨by repeat (first | (with_reducible first | exact HB.out | apply ak | apply ah | apply au | refine aT ?_ qY.out) | exact HB.out)⟩⟩
  ·rw [if_neg c4] at H
   have qJ:(a0 == 2) = false:=beq_eq_false_iff_ne.mpr c4
   have JU:(a0 != 2) = true:=bne_iff_ne.mpr c4
   (first | rw [qJ] | rw [Ng] | (simp only [gV,iD];rw [qJ]) | skip)
   by_cases c5:a0 = 5
   ·rw [if_pos c5] at H
    have pR:(a0 == 5) = true:=beq_iff_eq.mpr c5
    have vv:(a0 != 5) = false:=bne_eq_false_iff_eq.mpr c5
    clear c5
    have H':=aj.mk H
    clear H
    go_wp2
    go_meet
    case rel=>exact ⟨_,((a0 == 5)),(by first | rfl | (simp;done) | (simp [*];done) | (simp [B.aX];done) | (simp [B.aY];done)),H',⟨by first | omega | exact Nat.le_refl _⟩,⟨by (with_reducible repeat (first | refine aG ?_ _ | refine aH ?_ | refine aD ?_ _));exact dR.out⟩,⟨by repeat (first | (with_reducible first | exact HB.out | apply ak | apply ah | apply au | refine aT ?_ qY.out) | exact HB.out)⟩⟩
   ·rw [if_neg c5] at H
    have pR:(a0 == 5) = false:=beq_eq_false_iff_ne.mpr c5
    have vv:(a0 != 5) = true:=bne_iff_ne.mpr c5
    have H':=aj.mk H
    clear H
    go_wp2
    go_meet
    case rel=>exact ⟨_,((a0 == 12)),(by first | rfl | (simp;done) | (simp [*];done) | (simp [B.aX];done) | (simp [B.aY];done)),H',⟨by first | omega | exact Nat.le_refl _⟩,⟨by (with_reducible repeat (first | refine aG ?_ _ | refine aH ?_ | refine aD ?_ _));exact dR.out⟩,⟨by repeat (first | (with_reducible first | exact HB.out | apply ak | apply ah | apply au | refine aT ?_ qY.out) | exact HB.out)⟩⟩
 case rest =>
  clear V4
  try clear p2
  try clear c4
  try clear qJ
  try clear JU
  try clear Ng
  try clear c5
  try clear pR
  try clear vv
  obtain ⟨kq,qH,rfl,HA,HJ1,dR,HB⟩:=hcut
  cases kq with
  | zero=>exact absurd HA.out (by simp [aN.j0])
  | succ kj1 =>
   have H:=HA.out
   clear HA
   simp only [aN.j0] at H
   by_cases c6:qH = true
   ·subst c6
    have H1:(some (0,1,0)) = some (r1,r2,r3):=by rw [if_pos rfl] at H;exact H
    clear H
    have H:=H1
    clear H1
    simp only [Option.some.injEq,Prod.mk.injEq] at H
    obtain ⟨rfl,rfl,rfl⟩:=H
    have afL:wc.cell? ⟨gZ,0,none⟩ = some (.int .i64 0):=(aK dR.out 0).trans rfl
    have afM:wc.cell? ⟨gZ,1,none⟩ = some (.int .i64 0):=(aK dR.out 1).trans rfl
    have afN:wc.cell? ⟨gZ,2,none⟩ = some (.int .i64 0):=(aK dR.out 2).trans rfl
    have afO:=ay dR.out 0
    have afP:=ay dR.out 1
    have afQ:=ay dR.out 2
    go_wp2
    refine bodyPost_ret (results_cell_row rfl _ _ gZ 119 #[.int .i64 0,.int .i64 1,.int .i64 0] (0,0) _ rfl (by (with_reducible repeat (first | refine aG ?_ _ | refine aH ?_ | refine aD ?_ _));refine bU (cs:=#[.int .i64 0,.int .i64 1,.int .i64 0]) ?_ 2 _ rfl;(with_reducible repeat (first | refine aG ?_ _ | refine aH ?_ | refine aD ?_ _));refine bU (cs:=#[.int .i64 0,.int .i64 0,.int .i64 0]) ?_ 1 _ rfl;(with_reducible repeat (first | refine aG ?_ _ | refine aH ?_ | refine aD ?_ _));refine bU (cs:=#[.int .i64 0,.int .i64 0,.int .i64 0]) ?_ 0 _ rfl;(with_reducible repeat (first | refine aG ?_ _ | refine aH ?_ | refine aD ?_ _));exact dR.out) Try.underlying119 rfl (by kernel_rfl)) rfl ?_
    exact ⟨by first | rfl | (simp [aI,aJ] <;> rfl) | (simp [*,aI,aJ] <;> rfl),by repeat (first | (with_reducible first | exact HB.out | apply ak | apply ah | apply au | refine aT ?_ qY.out) | exact HB.out)⟩
   ·replace c6:=Bool.eq_false_iff.mpr c6
    subst c6
    have H1:(if a0 = 6 then (some (0,2,20)) else (if a0 = 15 then (some (2,1,0)) else (if a0 = 33 then (some (6,1,0)) else (if a0 = 1 then (some (4,0,0)) else (if a0 = 28 then (some (16,0,0)) else (some (0,0,0))))))) = some (r1,r2,r3):=by rw [if_neg (show ¬ (false = true) by decide)] at H;exact H
    clear H
    have H:=H1
    clear H1
    by_cases c8:a0 = 6
    ·rw [if_pos c8] at H
     have u7:(a0 == 6) = true:=beq_iff_eq.mpr c8
     have vk:(a0 != 6) = false:=bne_eq_false_iff_eq.mpr c8
     clear c8
     simp only [Option.some.injEq,Prod.mk.injEq] at H
     obtain ⟨rfl,rfl,rfl⟩:=H
     have NH:wc.cell? ⟨gZ,0,none⟩ = some (.int .i64 0):=(aK dR.out 0).trans rfl
     have NI:wc.cell? ⟨gZ,1,none⟩ = some (.int .i64 0):=(aK dR.out 1).trans rfl
     have NJ:wc.cell? ⟨gZ,2,none⟩ = some (.int .i64 0):=(aK dR.out 2).trans rfl
     have NK:=ay dR.out 0
     have NM:=ay dR.out 1
     have NP:=ay dR.out 2
     go_wp2
     refine bodyPost_ret (results_cell_row rfl _ _ gZ 119 #[.int .i64 0,.int .i64 2,.int .i64 20] (0,0) _ rfl (by (with_reducible repeat (first | refine aG ?_ _ | refine aH ?_ | refine aD ?_ _));refine bU (cs:=#[.int .i64 0,.int .i64 2,.int .i64 0]) ?_ 2 _ rfl;(with_reducible repeat (first | refine aG ?_ _ | refine aH ?_ | refine aD ?_ _));refine bU (cs:=#[.int .i64 0,.int .i64 0,.int .i64 0]) ?_ 1 _ rfl;(with_reducible repeat (first | refine aG ?_ _ | refine aH ?_ | refine aD ?_ _));refine bU (cs:=#[.int .i64 0,.int .i64 0,.int .i64 0]) ?_ 0 _ rfl;(with_reducible repeat (first | refine aG ?_ _ | refine aH ?_ | refine aD ?_ _));exact dR.out) Try.underlying119 rfl (by kernel_rfl)) rfl ?_
     exact ⟨by first | rfl | (simp [aI,aJ] <;> rfl) | (simp [*,aI,aJ] <;> rfl),by repeat (first | (with_reducible first | exact HB.out | apply ak | apply ah | apply au | refine aT ?_ qY.out) | exact HB.out)⟩
    ·rw [if_neg c8] at H
     have u7:(a0 == 6) = false:=beq_eq_false_iff_ne.mpr c8
     have vk:(a0 != 6) = true:=bne_iff_ne.mpr c8
     by_cases c10:a0 = 15
     ·rw [if_pos c10] at H
      have qX:(a0 == 15) = true:=beq_iff_eq.mpr c10
      have AL:(a0 != 15) = false:=bne_eq_false_iff_eq.mpr c10
      clear c10
      simp only [Option.some.injEq,Prod.mk.injEq] at H
      obtain ⟨rfl,rfl,rfl⟩:=H
      have adH:wc.cell? ⟨gZ,0,none⟩ = some (.int .i64 0):=(aK dR.out 0).trans rfl
      have adI:wc.cell? ⟨gZ,1,none⟩ = some (.int .i64 0):=(aK dR.out 1).trans rfl
      have adJ:wc.cell? ⟨gZ,2,none⟩ = some (.int .i64 0):=(aK dR.out 2).trans rfl
      have adK:=ay dR.out 0
      have adL:=ay dR.out 1
      have adM:=ay dR.out 2
      go_wp2
      refine bodyPost_ret (results_cell_row rfl _ _ gZ 119 #[.int .i64 2,.int .i64 1,.int .i64 0] (0,0) _ rfl (by (with_reducible repeat (first | refine aG ?_ _ | refine aH ?_ | refine aD ?_ _));refine bU (cs:=#[.int .i64 2,.int .i64 1,.int .i64 0]) ?_ 2 _ rfl;(with_reducible repeat (first | refine aG ?_ _ | refine aH ?_ | refine aD ?_ _));refine bU (cs:=#[.int .i64 2,.int .i64 0,.int .i64 0]) ?_ 1 _ rfl;(with_reducible repeat (first | refine aG ?_ _ | refine aH ?_ | refine aD ?_ _));refine bU (cs:=#[.int .i64 0,.int .i64 0,.int .i64 0]) ?_ 0 _ rfl;(with_reducible repeat (first | refine aG ?_ _ | refine aH ?_ | refine aD ?_ _));exact dR.out) Try.underlying119 rfl (by kernel_rfl)) rfl ?_
      exact ⟨by first | rfl | (simp [aI,aJ] <;> rfl) | (simp [*,aI,aJ] <;> rfl),by repeat (first | (with_reducible first | exact HB.out | apply ak | apply ah | apply au | refine aT ?_ qY.out) | exact HB.out)⟩
     ·rw [if_neg c10] at H
      have qX:(a0 == 15) = false:=beq_eq_false_iff_ne.mpr c10
      have AL:(a0 != 15) = true:=bne_iff_ne.mpr c10
      by_cases c12:a0 = 33
      ·rw [if_pos c12] at H
       have tX:(a0 == 33) = true:=beq_iff_eq.mpr c12
       have tY:(a0 != 33) = false:=bne_eq_false_iff_eq.mpr c12
       clear c12
       simp only [Option.some.injEq,Prod.mk.injEq] at H
       obtain ⟨rfl,rfl,rfl⟩:=H
       have QS:wc.cell? ⟨gZ,0,none⟩ = some (.int .i64 0):=(aK dR.out 0).trans rfl
       have QT:wc.cell? ⟨gZ,1,none⟩ = some (.int .i64 0):=(aK dR.out 1).trans rfl
       have QU:wc.cell? ⟨gZ,2,none⟩ = some (.int .i64 0):=(aK dR.out 2).trans rfl
       have QV:=ay dR.out 0
       have QW:=ay dR.out 1
       have QX:=ay dR.out 2
       go_wp2
       refine bodyPost_ret (results_cell_row rfl _ _ gZ 119 #[.int .i64 6,.int .i64 1,.int .i64 0] (0,0) _ rfl (by (with_reducible repeat (first | refine aG ?_ _ | refine aH ?_ | refine aD ?_ _));refine bU (cs:=#[.int .i64 6,.int .i64 1,.int .i64 0]) ?_ 2 _ rfl;(with_reducible repeat (first | refine aG ?_ _ | refine aH ?_ | refine aD ?_ _));refine bU (cs:=#[.int .i64 6,.int .i64 0,.int .i64 0]) ?_ 1 _ rfl;(with_reducible repeat (first | refine aG ?_ _ | refine aH ?_ | refine aD ?_ _));refine bU (cs:=#[.int .i64 0,.int .i64 0,.int .i64 0]) ?_ 0 _ rfl;(with_reducible repeat (first | refine aG ?_ _ | refine aH ?_ | refine aD ?_ _));exact dR.out) Try.underlying119 rfl (by kernel_rfl)) rfl ?_
       exact ⟨by first | rfl | (simp [aI,aJ] <;> rfl) | (simp [*,aI,aJ] <;> rfl),by repeat (first | (with_reducible first | exact HB.out | apply ak | apply ah | apply au | refine aT ?_ qY.out) | exact HB.out)⟩
      ·rw [if_neg c12] at H
       have tX:(a0 == 33) = false:=beq_eq_false_iff_ne.mpr c12
       have tY:(a0 != 33) = true:=bne_iff_ne.mpr c12
       by_cases c14:a0 = 1
       ·rw [if_pos c14] at H
        have Io:(a0 == 1) = true:=beq_iff_eq.mpr c14
        have Tt:(a0 != 1) = false:=bne_eq_false_iff_eq.mpr c14
        clear c14
        simp only [Option.some.injEq,Prod.mk.injEq] at H
        obtain ⟨rfl,rfl,rfl⟩:=H
        have Cy:wc.cell? ⟨gZ,0,none⟩ = some (.int .i64 0):=(aK dR.out 0).trans rfl
        have Cz:wc.cell? ⟨gZ,1,none⟩ = some (.int .i64 0):=(aK dR.out 1).trans rfl
        have CB:wc.cell? ⟨gZ,2,none⟩ = some (.int .i64 0):=(aK dR.out 2).trans rfl
        have CG:=ay dR.out 0
        have CJ:=ay dR.out 1
        have CK:=ay dR.out 2
        go_wp2
        refine bodyPost_ret (results_cell_row rfl _ _ gZ 119 #[.int .i64 4,.int .i64 0,.int .i64 0] (0,0) _ rfl (by (with_reducible repeat (first | refine aG ?_ _ | refine aH ?_ | refine aD ?_ _));refine bU (cs:=#[.int .i64 4,.int .i64 0,.int .i64 0]) ?_ 2 _ rfl;(with_reducible repeat (first | refine aG ?_ _ | refine aH ?_ | refine aD ?_ _));refine bU (cs:=#[.int .i64 4,.int .i64 0,.int .i64 0]) ?_ 1 _ rfl;(with_reducible repeat (first | refine aG ?_ _ | refine aH ?_ | refine aD ?_ _));refine bU (cs:=#[.int .i64 0,.int .i64 0,.int .i64 0]) ?_ 0 _ rfl;(with_reducible repeat (first | refine aG ?_ _ | refine aH ?_ | refine aD ?_ _));exact dR.out) Try.underlying119 rfl (by kernel_rfl)) rfl ?_
        exact ⟨by first | rfl | (simp [aI,aJ] <;> rfl) | (simp [*,aI,aJ] <;> rfl),by repeat (first | (with_reducible first | exact HB.out | apply ak | apply ah | apply au | refine aT ?_ qY.out) | exact HB.out)⟩
       ·rw [if_neg c14] at H
        have Io:(a0 == 1) = false:=beq_eq_false_iff_ne.mpr c14
        have Tt:(a0 != 1) = true:=bne_iff_ne.mpr c14
        by_cases c16:a0 = 28
        ·rw [if_pos c16] at H
         have Il:(a0 == 28) = true:=beq_iff_eq.mpr c16
         have abd:(a0 != 28) = false:=bne_eq_false_iff_eq.mpr c16
         clear c16
         simp only [Option.some.injEq,Prod.mk.injEq] at H
         obtain ⟨rfl,rfl,rfl⟩:=H
         have adN:wc.cell? ⟨gZ,0,none⟩ = some (.int .i64 0):=(aK dR.out 0).trans rfl
         have adO:wc.cell? ⟨gZ,1,none⟩ = some (.int .i64 0):=(aK dR.out 1).trans rfl
         have adP:wc.cell? ⟨gZ,2,none⟩ = some (.int .i64 0):=(aK dR.out 2).trans rfl
         have adQ:=ay dR.out 0
         have adR:=ay dR.out 1
         have adS:=ay dR.out 2
         go_wp2
         refine bodyPost_ret (results_cell_row rfl _ _ gZ 119 #[.int .i64 16,.int .i64 0,.int .i64 0] (0,0) _ rfl (by (with_reducible repeat (first | refine aG ?_ _ | refine aH ?_ | refine aD ?_ _));refine bU (cs:=#[.int .i64 16,.int .i64 0,.int .i64 0]) ?_ 2 _ rfl;(with_reducible repeat (first | refine aG ?_ _ | refine aH ?_ | refine aD ?_ _));refine bU (cs:=#[.int .i64 16,.int .i64 0,.int .i64 0]) ?_ 1 _ rfl;(with_reducible repeat (first | refine aG ?_ _ | refine aH ?_ | refine aD ?_ _));refine bU (cs:=#[.int .i64 0,.int .i64 0,.int .i64 0]) ?_ 0 _ rfl;(with_reducible repeat (first | refine aG ?_ _ | refine aH ?_ | refine aD ?_ _));exact dR.out) Try.underlying119 rfl (by kernel_rfl)) rfl ?_
         exact ⟨by first | rfl | (simp [aI,aJ] <;> rfl) | (simp [*,aI,aJ] <;> rfl),by repeat (first | (with_reducible first | exact HB.out | apply ak | apply ah | apply au | refine aT ?_ qY.out) | exact HB.out)⟩
        ·rw [if_neg c16] at H
         have Il:(a0 == 28) = false:=beq_eq_false_iff_ne.mpr c16
         have abd:(a0 != 28) = true:=bne_iff_ne.mpr c16
         simp only [Option.some.injEq,Prod.mk.injEq] at H
         obtain ⟨rfl,rfl,rfl⟩:=H
         have IK:wc.cell? ⟨gZ,0,none⟩ = some (.int .i64 0):=(aK dR.out 0).trans rfl
         have IL:wc.cell? ⟨gZ,1,none⟩ = some (.int .i64 0):=(aK dR.out 1).trans rfl
         have IQ:wc.cell? ⟨gZ,2,none⟩ = some (.int .i64 0):=(aK dR.out 2).trans rfl
         have IU:=ay dR.out 0
         have IV:=ay dR.out 1
         have IW:=ay dR.out 2
         go_wp2
         refine bodyPost_ret (results_cell_row rfl _ _ gZ 119 #[.int .i64 0,.int .i64 0,.int .i64 0] (0,0) _ rfl (by (with_reducible repeat (first | refine aG ?_ _ | refine aH ?_ | refine aD ?_ _));refine bU (cs:=#[.int .i64 0,.int .i64 0,.int .i64 0]) ?_ 2 _ rfl;(with_reducible repeat (first | refine aG ?_ _ | refine aH ?_ | refine aD ?_ _));refine bU (cs:=#[.int .i64 0,.int .i64 0,.int .i64 0]) ?_ 1 _ rfl;(with_reducible repeat (first | refine aG ?_ _ | refine aH ?_ | refine aD ?_ _));refine bU (cs:=#[.int .i64 0,.int .i64 0,.int .i64 0]) ?_ 0 _ rfl;(with_reducible repeat (first | refine aG ?_ _ | refine aH ?_ | refine aD ?_ _));exact dR.out) Try.underlying119 rfl (by kernel_rfl)) rfl ?_
         exact ⟨by first | rfl | (simp [aI,aJ] <;> rfl) | (simp [*,aI,aJ] <;> rfl),by repeat (first | (with_reducible first | exact HB.out | apply ak | apply ah | apply au | refine aT ?_ qY.out) | exact HB.out)⟩
def bn.l0 : Nat → ByteArray → Int → Option (Bool)
 | 0,_,_=>none
 | k + 1,x0,x3=>if x3 < (x0.size:Int) then (if 0 ≤ x3 then (bn.l0 k x0 (wrap64 ((wrap64 (x3 + 1)) + (wrap64 (bt x0 x3))))) else (none)) else (if x3 = (x0.size:Int) then (some (decide (x3 > 0))) else (some false))
def bn.f (k:Nat) (a0:ByteArray):Option (Bool):=bn.l0 k a0 0
set_option maxHeartbeats 8000000 in
set_option maxRecDepth 100000 in
theorem bn.calls (k:Nat) (a0:ByteArray) (r:Bool) (w:World) (h:bn.f k a0 = some r) :
  Calls Try.prog 93 #[.string a0] w fun e w'=>e = .returned (.bool r) ∧ aW w w':=by
 have H:(bn.l0 k a0 0) = some r:=h
 clear h
 have H':=aj.mk H
 clear H
 go_enter Try.func93,Try.ntmps93
 go_wp2
 go_loopg [3] k (fun kq v3 w'=>∃ (oL:Int),v3 = .int .i64 oL ∧ aj (bn.l0 kq a0 oL = some r) ∧ aj (kq ≤ k) ∧ aW w w')
 case atStart=>exact ⟨(0),(by first | rfl | (simp;done) | (simp [*];done) | (simp [B.aX];done) | (simp [B.aY];done)),H',⟨Nat.le_refl _⟩,by repeat (first | exact aW.refl _ | apply aW.step)⟩
 case round =>
  clear H'
  obtain ⟨oL,rfl,HA,vT,⟨m1,rfl⟩⟩:=hrel
  cases gk with
  | zero=>exact absurd HA.out (by simp [bn.l0])
  | succ k1 =>
   have H:=HA.out
   clear HA
   simp only [bn.l0] at H
   by_cases c2:oL < (a0.size:Int)
   ·rw [if_pos c2] at H
    have wH:decide (oL < (a0.size:Int)) = true:=decide_eq_true c2
    clear c2
    by_cases c3:0 ≤ oL
    ·rw [if_pos c3] at H
     have qK:decide (0 ≤ oL) = true:=decide_eq_true c3
     clear c3
     have H':=aj.mk H
     clear H
     have p4:0 ≤ (oL:Int):=of_decide_eq_true (by first | (with_reducible assumption) | assumption)
     have q4:oL < (a0.size:Int):=of_decide_eq_true (by first | (with_reducible assumption) | assumption)
     have hx4:=nQ a0 oL
     replace p4:=eq_true p4
     replace q4:=eq_true q4
     go_wp2
     go_roundg k1
     case measure=>have:=vT.out;omega
     case rel=>exact ⟨(wrap64 ((wrap64 (oL + 1)) + (wrap64 (bt a0 oL)))),(by first | rfl | (simp;done) | (simp [*];done) | (simp [B.aX];done) | (simp [B.aY];done)),H',⟨by have:=vT.out;omega⟩,by repeat (first | exact aW.refl _ | apply aW.step)⟩
    ·rw [if_neg c3] at H
     exact absurd H (by simp)
   ·rw [if_neg c2] at H
    have wH:decide (oL < (a0.size:Int)) = false:=decide_eq_false c2
    clear c2
    by_cases c5:oL = (a0.size:Int)
    ·rw [if_pos c5] at H
     have pR:(oL == (a0.size:Int)) = true:=beq_iff_eq.mpr c5
     have vv:(oL != (a0.size:Int)) = false:=bne_eq_false_iff_eq.mpr c5
     clear c5
     obtain rfl:=Option.some.inj H
     go_wp2
     go_ret
     exact ⟨by first | rfl | (simp;done) | (simp [*];done),by repeat (first | exact aW.refl _ | apply aW.step)⟩
    ·rw [if_neg c5] at H
     have pR:(oL == (a0.size:Int)) = false:=beq_eq_false_iff_ne.mpr c5
     have vv:(oL != (a0.size:Int)) = true:=bne_iff_ne.mpr c5
     obtain rfl:=Option.some.inj H
     go_wp2
     go_ret
     exact ⟨by first | rfl | (simp;done) | (simp [*];done),by repeat (first | exact aW.refl _ | apply aW.step)⟩
def aV.l0 : Nat → ByteArray → Int → Int → ByteArray → Int → Int → Int → Int → Int → Option (ByteArray × Int)
 | 0,_,_,_,_,_,_,_,_,_=>none
 | k + 1,x0,x1,x2,x13,Qm,x15,QY,IX,IY=>if x15 < IX then ((aR.f k x0 Qm).bind fun IZ=>(if IZ.2.2 = 0 then (if x13.size + IZ.1.size ≤ 9223372036854775807 then (aV.l0 k x0 x1 x2 (x13 ++ IZ.1) IZ.2.1 (wrap64 (x15 + 1)) QY IX IY) else (none)) else (some ((⟨#[]⟩:ByteArray),4)))) else (if (wrap64 (Qm + IY)) = (wrap64 (x1 + x2)) then (if 0 ≤ Qm then (if Qm ≤ (wrap64 (x1 + x2)) then (if (wrap64 (x1 + x2)) ≤ (x0.size:Int) then (if x13.size + (x0.extract (Qm:Int).toNat ((wrap64 (x1 + x2)):Int).toNat).size ≤ 9223372036854775807 then (if ((x13 ++ (x0.extract (Qm:Int).toNat ((wrap64 (x1 + x2)):Int).toNat)).size:Int) > 65535 then (some ((⟨#[]⟩:ByteArray),4)) else (some (x13 ++ (x0.extract (Qm:Int).toNat ((wrap64 (x1 + x2)):Int).toNat),0))) else (none)) else (none)) else (none)) else (none)) else (some ((⟨#[]⟩:ByteArray),4)))
def aV.f (k:Nat) (a0:ByteArray) (a1:Int) (a2:Int) (a3:Int):Option (ByteArray × Int):=(bB.f a0 a1 a2).bind fun lF=>(if lF.2 = true then ((aN.f k a3).bind fun eX=>(if (eX.1 == 0 && (eX.2.1 == 0 && (eX.2.2 == 0))) = true then (if a3 = 16 then ((bn.f k lF.1).bind fun t173=>(if t173 = true then (if (lF.1.size:Int) > 65535 then (some ((⟨#[]⟩:ByteArray),4)) else (some (lF.1,0))) else (some ((⟨#[]⟩:ByteArray),4)))) else (if (lF.1.size:Int) > 65535 then (some ((⟨#[]⟩:ByteArray),4)) else (some (lF.1,0)))) else (if eX.1 > a2 then (some ((⟨#[]⟩:ByteArray),4)) else (if 0 ≤ eX.1 then (if eX.1 ≤ (lF.1.size:Int) then (aV.l0 k a0 a1 a2 (lF.1.extract 0 (eX.1:Int).toNat) (wrap64 (a1 + eX.1)) 0 eX.1 eX.2.1 eX.2.2) else (none)) else (none))))) else (some ((⟨#[]⟩:ByteArray),2)))
set_option maxHeartbeats 8000000 in
set_option maxRecDepth 100000 in
theorem aV.calls (k:Nat) (a0:ByteArray) (a1:Int) (a2:Int) (a3:Int) (r1:ByteArray) (r2:Int) (w:World) (h:aV.f k a0 a1 a2 a3 = some (r1,r2)) :
  Calls Try.prog 76 #[.string a0,.int .i64 a1,.int .i64 a2,.int .i64 a3] w fun e w'=>e = .returned (.tuple #[.string r1,.int .i64 r2]) ∧ Below w.heap.size w w':=by
 have TB:=Try.underlying119
 have HB:=aj.mk (Below.refl w.heap.size w)
 have H:((bB.f a0 a1 a2).bind fun lF=>(if lF.2 = true then ((aN.f k a3).bind fun eX=>(if (eX.1 == 0 && (eX.2.1 == 0 && (eX.2.2 == 0))) = true then (if a3 = 16 then ((bn.f k lF.1).bind fun t173=>(if t173 = true then (if (lF.1.size:Int) > 65535 then (some ((⟨#[]⟩:ByteArray),4)) else (some (lF.1,0))) else (some ((⟨#[]⟩:ByteArray),4)))) else (if (lF.1.size:Int) > 65535 then (some ((⟨#[]⟩:ByteArray),4)) else (some (lF.1,0)))) else (if eX.1 > a2 then (some ((⟨#[]⟩:ByteArray),4)) else (if 0 ≤ eX.1 then (if eX.1 ≤ (lF.1.size:Int) then (aV.l0 k a0 a1 a2 (lF.1.extract 0 (eX.1:Int).toNat) (wrap64 (a1 + eX.1)) 0 eX.1 eX.2.1 eX.2.2) else (none)) else (none))))) else (some ((⟨#[]⟩:ByteArray),2)))) = some (r1,r2):=h
 clear h
 replace H:=zbm H
 obtain ⟨⟨t167,t168⟩,A50,H⟩:=H
 replace H:(if t168 = true then ((aN.f k a3).bind fun eX=>(if (eX.1 == 0 && (eX.2.1 == 0 && (eX.2.2 == 0))) = true then (if a3 = 16 then ((bn.f k t167).bind fun t173=>(if t173 = true then (if (t167.size:Int) > 65535 then (some ((⟨#[]⟩:ByteArray),4)) else (some (t167,0))) else (some ((⟨#[]⟩:ByteArray),4)))) else (if (t167.size:Int) > 65535 then (some ((⟨#[]⟩:ByteArray),4)) else (some (t167,0)))) else (if eX.1 > a2 then (some ((⟨#[]⟩:ByteArray),4)) else (if 0 ≤ eX.1 then (if eX.1 ≤ (t167.size:Int) then (aV.l0 k a0 a1 a2 (t167.extract 0 (eX.1:Int).toNat) (wrap64 (a1 + eX.1)) 0 eX.1 eX.2.1 eX.2.2) else (none)) else (none))))) else (some ((⟨#[]⟩:ByteArray),2))) = some (r1,r2):=H
 have A5:=aj.mk A50
 clear A50
 by_cases c6:t168 = true
 ·subst c6
  have H1:((aN.f k a3).bind fun eX=>(if (eX.1 == 0 && (eX.2.1 == 0 && (eX.2.2 == 0))) = true then (if a3 = 16 then ((bn.f k t167).bind fun t173=>(if t173 = true then (if (t167.size:Int) > 65535 then (some ((⟨#[]⟩:ByteArray),4)) else (some (t167,0))) else (some ((⟨#[]⟩:ByteArray),4)))) else (if (t167.size:Int) > 65535 then (some ((⟨#[]⟩:ByteArray),4)) else (some (t167,0)))) else (if eX.1 > a2 then (some ((⟨#[]⟩:ByteArray),4)) else (if 0 ≤ eX.1 then (if eX.1 ≤ (t167.size:Int) then (aV.l0 k a0 a1 a2 (t167.extract 0 (eX.1:Int).toNat) (wrap64 (a1 + eX.1)) 0 eX.1 eX.2.1 eX.2.2) else (none)) else (none))))) = some (r1,r2):=by rw [if_pos rfl] at H;exact H
  clear H
  have H:=H1
  clear H1
  replace H:=zbm H
  obtain ⟨⟨iL,kK,t171⟩,A70,H⟩:=H
  replace H:(if (iL == 0 && (kK == 0 && (t171 == 0))) = true then (if a3 = 16 then ((bn.f k t167).bind fun t173=>(if t173 = true then (if (t167.size:Int) > 65535 then (some ((⟨#[]⟩:ByteArray),4)) else (some (t167,0))) else (some ((⟨#[]⟩:ByteArray),4)))) else (if (t167.size:Int) > 65535 then (some ((⟨#[]⟩:ByteArray),4)) else (some (t167,0)))) else (if iL > a2 then (some ((⟨#[]⟩:ByteArray),4)) else (if 0 ≤ iL then (if iL ≤ (t167.size:Int) then (aV.l0 k a0 a1 a2 (t167.extract 0 (iL:Int).toNat) (wrap64 (a1 + iL)) 0 iL kK t171) else (none)) else (none)))) = some (r1,r2):=H
  have A7:=aj.mk A70
  clear A70
  by_cases c8:(iL == 0 && (kK == 0 && (t171 == 0))) = true
  ·rw [if_pos c8] at H
   have u7:(iL == 0 && (kK == 0 && (t171 == 0))) = true:=c8
   (try (have vk:decide (iL = 0 && (kK == 0 && (t171 == 0))) = true:=by simpa using c8))
   (try (have Nn:(iL == 0 && (kK == 0 && (t171 == 0))) = true:=by simpa using c8))
   clear c8
   by_cases c9:a3 = 16
   ·rw [if_pos c9] at H
    have tV:(a3 == 16) = true:=beq_iff_eq.mpr c9
    have Ep:(a3 != 16) = false:=bne_eq_false_iff_eq.mpr c9
    clear c9
    replace H:=zbm H
    obtain ⟨t173,Ny,H⟩:=H
    replace H:(if t173 = true then (if (t167.size:Int) > 65535 then (some ((⟨#[]⟩:ByteArray),4)) else (some (t167,0))) else (some ((⟨#[]⟩:ByteArray),4))) = some (r1,r2):=H
    have Tw:=aj.mk Ny
    clear Ny
    by_cases c11:t173 = true
    ·subst c11
     have H1:(if (t167.size:Int) > 65535 then (some ((⟨#[]⟩:ByteArray),4)) else (some (t167,0))) = some (r1,r2):=by rw [if_pos rfl] at H;exact H
     clear H
     have H:=H1
     clear H1
     by_cases c12:(t167.size:Int) > 65535
     ·rw [if_pos c12] at H
      have tX:decide (65535 < (t167.size:Int)) = true:=decide_eq_true c12
      have tY:decide (65535 < t167.size) = true:=decide_eq_true (by omega)
      clear c12
      simp only [Option.some.injEq,Prod.mk.injEq] at H
      obtain ⟨rfl,rfl⟩:=H
      go_enter Try.func76,Try.ntmps76
      go_wp2_with (first | ((with_reducible refine aU (f:=79) rfl ?_);refine bP (some 23) rfl rfl Try.func79 (by kernel_rfl) rfl #[.string a0,.int .i64 a1,.int .i64 a2] rfl (by (try simp only [List.map_toArray,List.map_cons,List.map_nil]);first | done | rfl | (simp only [List.length_drop,List.length_take];rfl) | (simp only [ByteArray.size_append,Int.natCast_add];rfl) | (rw [B.dW] <;> first | rfl | omega | (simp only [decide_eq_false_iff_not,decide_eq_true_eq,Int.not_lt,Nat.not_lt,gt_iff_lt] at * <;> omega))) ?_;(with_reducible refine (bB.calls a0 a1 a2 t167 true _ A5.out).mono ?_);rintro e w' ⟨rfl,⟨nd,rfl⟩⟩;refine ⟨_,rfl,?_⟩) | ((with_reducible refine aU (f:=53) rfl ?_);refine bP (some 29) rfl rfl Try.func53 (by kernel_rfl) rfl #[.int .i64 a3] rfl (by (try simp only [List.map_toArray,List.map_cons,List.map_nil]);first | done | rfl | (simp only [List.length_drop,List.length_take];rfl) | (simp only [ByteArray.size_append,Int.natCast_add];rfl) | (rw [B.dW] <;> first | rfl | omega | (simp only [decide_eq_false_iff_not,decide_eq_true_eq,Int.not_lt,Nat.not_lt,gt_iff_lt] at * <;> omega))) ?_;(with_reducible refine (aN.calls k a3 iL kK t171 _ A7.out).mono ?_);rintro e w13 ⟨rfl,hb⟩;refine ⟨_,rfl,?_⟩;have eF:=aj.mk (bI (by repeat (first | (with_reducible first | exact HB.out | apply ak | apply ah | apply au) | exact HB.out)) hb);clear HB;have HB:=eF;clear eF;(try clear hb);(try clear hb2);(try clear hk);(try clear hi)) | ((with_reducible refine gL (N:=12) rfl ?_);(try (refine jD (by rfl) ?_;dsimp only));refine fV ?hg (N:=12) ?hd (cs:=#[.int .i64 0,.int .i64 0,.int .i64 0]) (t:=119) ?hr ?_;(case hd=>rfl);(case hg=>rfl);(case hr=>first | (go_simp;done) | (go_simp;rfl));intro dK hg w14 gY hb;have eF:=aj.mk (bI (by repeat (first | (with_reducible first | exact HB.out | apply ak | apply ah | apply au) | exact HB.out)) hb);have iE:=aj.mk (gY);have jH:=aj.mk ((by rw [hg];exact (bK (by repeat (first | (with_reducible first | exact HB.out | apply ak | apply ah | apply au) | exact HB.out))):w.heap.size ≤ dK));have jN:=aj.mk ((by rw [hg];exact (bK (by repeat (first | (with_reducible first | exact HB.out | apply ak | apply ah | apply au) | exact HB.out))):w.heap.size ≤ dK));clear HB;have HB:=eF;have bR:=iE;have AX:=jH;have kP:=jN;clear eF iE jH jN;clear hb gY hg;have Cy:w14.cell? ⟨dK,0,none⟩ = some (.int .i64 0):=(aK bR.out 0).trans rfl;have Cz:w14.cell? ⟨dK,1,none⟩ = some (.int .i64 0):=(aK bR.out 1).trans rfl;have CB:w14.cell? ⟨dK,2,none⟩ = some (.int .i64 0):=(aK bR.out 2).trans rfl;have CG:=ay bR.out 0;have CJ:=ay bR.out 1;have CK:=ay bR.out 2) | (go_at_call 93;(with_reducible refine (bn.calls k t167 true _ Tw.out).mono ?_);rintro e w' ⟨rfl,⟨nd,rfl⟩⟩))
      go_ret2
      exact ⟨by first | rfl | (simp [aI,aJ] <;> rfl) | (simp [*,aI,aJ] <;> rfl),by repeat (first | (with_reducible first | exact HB.out | apply ak | apply ah | apply au | refine aT ?_ kP.out) | exact HB.out)⟩
     ·rw [if_neg c12] at H
      have tX:decide (65535 < (t167.size:Int)) = false:=decide_eq_false c12
      have tY:decide (65535 < t167.size) = false:=decide_eq_false (by omega)
      clear c12
      simp only [Option.some.injEq,Prod.mk.injEq] at H
      obtain ⟨rfl,rfl⟩:=H
      go_enter Try.func76,Try.ntmps76
      go_wp2_with (first | ((with_reducible refine aU (f:=79) rfl ?_);refine bP (some 23) rfl rfl Try.func79 (by kernel_rfl) rfl #[.string a0,.int .i64 a1,.int .i64 a2] rfl (by (try simp only [List.map_toArray,List.map_cons,List.map_nil]);first | done | rfl | (simp only [List.length_drop,List.length_take];rfl) | (simp only [ByteArray.size_append,Int.natCast_add];rfl) | (rw [B.dW] <;> first | rfl | omega | (simp only [decide_eq_false_iff_not,decide_eq_true_eq,Int.not_lt,Nat.not_lt,gt_iff_lt] at * <;> omega))) ?_;(with_reducible refine (bB.calls a0 a1 a2 t167 true _ A5.out).mono ?_);rintro e w' ⟨rfl,⟨nd,rfl⟩⟩;refine ⟨_,rfl,?_⟩) | ((with_reducible refine aU (f:=53) rfl ?_);refine bP (some 29) rfl rfl Try.func53 (by kernel_rfl) rfl #[.int .i64 a3] rfl (by (try simp only [List.map_toArray,List.map_cons,List.map_nil]);first | done | rfl | (simp only [List.length_drop,List.length_take];rfl) | (simp only [ByteArray.size_append,Int.natCast_add];rfl) | (rw [B.dW] <;> first | rfl | omega | (simp only [decide_eq_false_iff_not,decide_eq_true_eq,Int.not_lt,Nat.not_lt,gt_iff_lt] at * <;> omega))) ?_;(with_reducible refine (aN.calls k a3 iL kK t171 _ A7.out).mono ?_);rintro e w16 ⟨rfl,hb⟩;refine ⟨_,rfl,?_⟩;have eF:=aj.mk (bI (by repeat (first | (with_reducible first | exact HB.out | apply ak | apply ah | apply au) | exact HB.out)) hb);clear HB;have HB:=eF;clear eF;(try clear hb);(try clear hb2);(try clear hk);(try clear hi)) | ((with_reducible refine gL (N:=12) rfl ?_);(try (refine jD (by rfl) ?_;dsimp only));refine fV ?hg (N:=12) ?hd (cs:=#[.int .i64 0,.int .i64 0,.int .i64 0]) (t:=119) ?hr ?_;(case hd=>rfl);(case hg=>rfl);(case hr=>first | (go_simp;done) | (go_simp;rfl));intro dK hg w17 gY hb;have eF:=aj.mk (bI (by repeat (first | (with_reducible first | exact HB.out | apply ak | apply ah | apply au) | exact HB.out)) hb);have iE:=aj.mk (gY);have jH:=aj.mk ((by rw [hg];exact (bK (by repeat (first | (with_reducible first | exact HB.out | apply ak | apply ah | apply au) | exact HB.out))):w.heap.size ≤ dK));have jN:=aj.mk ((by rw [hg];exact (bK (by repeat (first | (with_reducible first | exact HB.out | apply ak | apply ah | apply au) | exact HB.out))):w.heap.size ≤ dK));clear HB;have HB:=eF;have bR:=iE;have AX:=jH;have kP:=jN;clear eF iE jH jN;clear hb gY hg;have IK:w17.cell? ⟨dK,0,none⟩ = some (.int .i64 0):=(aK bR.out 0).trans rfl;have IL:w17.cell? ⟨dK,1,none⟩ = some (.int .i64 0):=(aK bR.out 1).trans rfl;have IQ:w17.cell? ⟨dK,2,none⟩ = some (.int .i64 0):=(aK bR.out 2).trans rfl;have IU:=ay bR.out 0;have IV:=ay bR.out 1;have IW:=ay bR.out 2) | (go_at_call 93;(with_reducible refine (bn.calls k t167 true _ Tw.out).mono ?_);rintro e w' ⟨rfl,⟨nd,rfl⟩⟩))
      go_ret2
      exact ⟨by first | rfl | (simp [aI,aJ] <;> rfl) | (simp [*,aI,aJ] <;> rfl),by repeat (first | (with_reducible first | exact HB.out | apply ak | apply ah | apply au | refine aT ?_ kP.out) | exact HB.out)⟩
    ·replace c11:=Bool.eq_false_iff.mpr c11
     subst c11
     have H1:(some ((⟨#[]⟩:ByteArray),4)) = some (r1,r2):=by rw [if_neg (show ¬ (false = true) by decide)] at H;exact H
     clear H
     have H:=H1
     clear H1
     simp only [Option.some.injEq,Prod.mk.injEq] at H
     obtain ⟨rfl,rfl⟩:=H
     go_enter Try.func76,Try.ntmps76
     go_wp2_with (first | ((with_reducible refine aU (f:=79) rfl ?_);refine bP (some 23) rfl rfl Try.func79 (by kernel_rfl) rfl #[.string a0,.int .i64 a1,.int .i64 a2] rfl (by (try simp only [List.map_toArray,List.map_cons,List.map_nil]);first | done | rfl | (simp only [List.length_drop,List.length_take];rfl) | (simp only [ByteArray.size_append,Int.natCast_add];rfl) | (rw [B.dW] <;> first | rfl | omega | (simp only [decide_eq_false_iff_not,decide_eq_true_eq,Int.not_lt,Nat.not_lt,gt_iff_lt] at * <;> omega))) ?_;(with_reducible refine (bB.calls a0 a1 a2 t167 true _ A5.out).mono ?_);rintro e w' ⟨rfl,⟨nd,rfl⟩⟩;refine ⟨_,rfl,?_⟩) | ((with_reducible refine aU (f:=53) rfl ?_);refine bP (some 29) rfl rfl Try.func53 (by kernel_rfl) rfl #[.int .i64 a3] rfl (by (try simp only [List.map_toArray,List.map_cons,List.map_nil]);first | done | rfl | (simp only [List.length_drop,List.length_take];rfl) | (simp only [ByteArray.size_append,Int.natCast_add];rfl) | (rw [B.dW] <;> first | rfl | omega | (simp only [decide_eq_false_iff_not,decide_eq_true_eq,Int.not_lt,Nat.not_lt,gt_iff_lt] at * <;> omega))) ?_;(with_reducible refine (aN.calls k a3 iL kK t171 _ A7.out).mono ?_);rintro e w19 ⟨rfl,hb⟩;refine ⟨_,rfl,?_⟩;have eF:=aj.mk (bI (by repeat (first | (with_reducible first | exact HB.out | apply ak | apply ah | apply au) | exact HB.out)) hb);clear HB;have HB:=eF;clear eF;(try clear hb);(try clear hb2);(try clear hk);(try clear hi)) | ((with_reducible refine gL (N:=12) rfl ?_);(try (refine jD (by rfl) ?_;dsimp only));refine fV ?hg (N:=12) ?hd (cs:=#[.int .i64 0,.int .i64 0,.int .i64 0]) (t:=119) ?hr ?_;(case hd=>rfl);(case hg=>rfl);(case hr=>first | (go_simp;done) | (go_simp;rfl));intro dK hg w20 gY hb;have eF:=aj.mk (bI (by repeat (first | (with_reducible first | exact HB.out | apply ak | apply ah | apply au) | exact HB.out)) hb);have iE:=aj.mk (gY);have jH:=aj.mk ((by rw [hg];exact (bK (by repeat (first | (with_reducible first | exact HB.out | apply ak | apply ah | apply au) | exact HB.out))):w.heap.size ≤ dK));have jN:=aj.mk ((by rw [hg];exact (bK (by repeat (first | (with_reducible first | exact HB.out | apply ak | apply ah | apply au) | exact HB.out))):w.heap.size ≤ dK));clear HB;have HB:=eF;have bR:=iE;have AX:=jH;have kP:=jN;clear eF iE jH jN;clear hb gY hg;have QZ:w20.cell? ⟨dK,0,none⟩ = some (.int .i64 0):=(aK bR.out 0).trans rfl;have Q0:w20.cell? ⟨dK,1,none⟩ = some (.int .i64 0):=(aK bR.out 1).trans rfl;have Q5:w20.cell? ⟨dK,2,none⟩ = some (.int .i64 0):=(aK bR.out 2).trans rfl;have Q6:=ay bR.out 0;have Q7:=ay bR.out 1;have Q8:=ay bR.out 2) | (go_at_call 93;(with_reducible refine (bn.calls k t167 false _ Tw.out).mono ?_);rintro e w' ⟨rfl,⟨nd,rfl⟩⟩))
     go_ret2
     exact ⟨by first | rfl | (simp [aI,aJ] <;> rfl) | (simp [*,aI,aJ] <;> rfl),by repeat (first | (with_reducible first | exact HB.out | apply ak | apply ah | apply au | refine aT ?_ kP.out) | exact HB.out)⟩
   ·rw [if_neg c9] at H
    have tV:(a3 == 16) = false:=beq_eq_false_iff_ne.mpr c9
    have Ep:(a3 != 16) = true:=bne_iff_ne.mpr c9
    by_cases Kw:(t167.size:Int) > 65535
    ·rw [if_pos Kw] at H
     have TD:decide (65535 < (t167.size:Int)) = true:=decide_eq_true Kw
     have TF:decide (65535 < t167.size) = true:=decide_eq_true (by omega)
     clear Kw
     simp only [Option.some.injEq,Prod.mk.injEq] at H
     obtain ⟨rfl,rfl⟩:=H
     go_enter Try.func76,Try.ntmps76
     go_wp2_with (first | ((with_reducible refine aU (f:=79) rfl ?_);refine bP (some 23) rfl rfl Try.func79 (by kernel_rfl) rfl #[.string a0,.int .i64 a1,.int .i64 a2] rfl (by (try simp only [List.map_toArray,List.map_cons,List.map_nil]);first | done | rfl | (simp only [List.length_drop,List.length_take];rfl) | (simp only [ByteArray.size_append,Int.natCast_add];rfl) | (rw [B.dW] <;> first | rfl | omega | (simp only [decide_eq_false_iff_not,decide_eq_true_eq,Int.not_lt,Nat.not_lt,gt_iff_lt] at * <;> omega))) ?_;(with_reducible refine (bB.calls a0 a1 a2 t167 true _ A5.out).mono ?_);rintro e w' ⟨rfl,⟨nd,rfl⟩⟩;refine ⟨_,rfl,?_⟩) | ((with_reducible refine aU (f:=53) rfl ?_);refine bP (some 29) rfl rfl Try.func53 (by kernel_rfl) rfl #[.int .i64 a3] rfl (by (try simp only [List.map_toArray,List.map_cons,List.map_nil]);first | done | rfl | (simp only [List.length_drop,List.length_take];rfl) | (simp only [ByteArray.size_append,Int.natCast_add];rfl) | (rw [B.dW] <;> first | rfl | omega | (simp only [decide_eq_false_iff_not,decide_eq_true_eq,Int.not_lt,Nat.not_lt,gt_iff_lt] at * <;> omega))) ?_;(with_reducible refine (aN.calls k a3 iL kK t171 _ A7.out).mono ?_);rintro e w23 ⟨rfl,hb⟩;refine ⟨_,rfl,?_⟩;have eF:=aj.mk (bI (by repeat (first | (with_reducible first | exact HB.out | apply ak | apply ah | apply au) | exact HB.out)) hb);clear HB;have HB:=eF;clear eF;(try clear hb);(try clear hb2);(try clear hk);(try clear hi)) | ((with_reducible refine gL (N:=12) rfl ?_);(try (refine jD (by rfl) ?_;dsimp only));refine fV ?hg (N:=12) ?hd (cs:=#[.int .i64 0,.int .i64 0,.int .i64 0]) (t:=119) ?hr ?_;(case hd=>rfl);(case hg=>rfl);(case hr=>first | (go_simp;done) | (go_simp;rfl));intro dK hg w24 gY hb;have eF:=aj.mk (bI (by repeat (first | (with_reducible first | exact HB.out | apply ak | apply ah | apply au) | exact HB.out)) hb);have iE:=aj.mk (gY);have jH:=aj.mk ((by rw [hg];exact (bK (by repeat (first | (with_reducible first | exact HB.out | apply ak | apply ah | apply au) | exact HB.out))):w.heap.size ≤ dK));have jN:=aj.mk ((by rw [hg];exact (bK (by repeat (first | (with_reducible first | exact HB.out | apply ak | apply ah | apply au) | exact HB.out))):w.heap.size ≤ dK));clear HB;have HB:=eF;have bR:=iE;have AX:=jH;have kP:=jN;clear eF iE jH jN;clear hb gY hg;have Q9:w24.cell? ⟨dK,0,none⟩ = some (.int .i64 0):=(aK bR.out 0).trans rfl;have Ra:w24.cell? ⟨dK,1,none⟩ = some (.int .i64 0):=(aK bR.out 1).trans rfl;have Rb:w24.cell? ⟨dK,2,none⟩ = some (.int .i64 0):=(aK bR.out 2).trans rfl;have Rc:=ay bR.out 0;have Rf:=ay bR.out 1;have Rh:=ay bR.out 2))
     go_ret2
     exact ⟨by first | rfl | (simp [aI,aJ] <;> rfl) | (simp [*,aI,aJ] <;> rfl),by repeat (first | (with_reducible first | exact HB.out | apply ak | apply ah | apply au | refine aT ?_ kP.out) | exact HB.out)⟩
    ·rw [if_neg Kw] at H
     have TD:decide (65535 < (t167.size:Int)) = false:=decide_eq_false Kw
     have TF:decide (65535 < t167.size) = false:=decide_eq_false (by omega)
     clear Kw
     simp only [Option.some.injEq,Prod.mk.injEq] at H
     obtain ⟨rfl,rfl⟩:=H
     go_enter Try.func76,Try.ntmps76
     go_wp2_with (first | ((with_reducible refine aU (f:=79) rfl ?_);refine bP (some 23) rfl rfl Try.func79 (by kernel_rfl) rfl #[.string a0,.int .i64 a1,.int .i64 a2] rfl (by (try simp only [List.map_toArray,List.map_cons,List.map_nil]);first | done | rfl | (simp only [List.length_drop,List.length_take];rfl) | (simp only [ByteArray.size_append,Int.natCast_add];rfl) | (rw [B.dW] <;> first | rfl | omega | (simp only [decide_eq_false_iff_not,decide_eq_true_eq,Int.not_lt,Nat.not_lt,gt_iff_lt] at * <;> omega))) ?_;(with_reducible refine (bB.calls a0 a1 a2 t167 true _ A5.out).mono ?_);rintro e w' ⟨rfl,⟨nd,rfl⟩⟩;refine ⟨_,rfl,?_⟩) | ((with_reducible refine aU (f:=53) rfl ?_);refine bP (some 29) rfl rfl Try.func53 (by kernel_rfl) rfl #[.int .i64 a3] rfl (by (try simp only [List.map_toArray,List.map_cons,List.map_nil]);first | done | rfl | (simp only [List.length_drop,List.length_take];rfl) | (simp only [ByteArray.size_append,Int.natCast_add];rfl) | (rw [B.dW] <;> first | rfl | omega | (simp only [decide_eq_false_iff_not,decide_eq_true_eq,Int.not_lt,Nat.not_lt,gt_iff_lt] at * <;> omega))) ?_;(with_reducible refine (aN.calls k a3 iL kK t171 _ A7.out).mono ?_);rintro e w26 ⟨rfl,hb⟩;refine ⟨_,rfl,?_⟩;have eF:=aj.mk (bI (by repeat (first | (with_reducible first | exact HB.out | apply ak | apply ah | apply au) | exact HB.out)) hb);clear HB;have HB:=eF;clear eF;(try clear hb);(try clear hb2);(try clear hk);(try clear hi)) | ((with_reducible refine gL (N:=12) rfl ?_);(try (refine jD (by rfl) ?_;dsimp only));refine fV ?hg (N:=12) ?hd (cs:=#[.int .i64 0,.int .i64 0,.int .i64 0]) (t:=119) ?hr ?_;(case hd=>rfl);(case hg=>rfl);(case hr=>first | (go_simp;done) | (go_simp;rfl));intro dK hg w27 gY hb;have eF:=aj.mk (bI (by repeat (first | (with_reducible first | exact HB.out | apply ak | apply ah | apply au) | exact HB.out)) hb);have iE:=aj.mk (gY);have jH:=aj.mk ((by rw [hg];exact (bK (by repeat (first | (with_reducible first | exact HB.out | apply ak | apply ah | apply au) | exact HB.out))):w.heap.size ≤ dK));have jN:=aj.mk ((by rw [hg];exact (bK (by repeat (first | (with_reducible first | exact HB.out | apply ak | apply ah | apply au) | exact HB.out))):w.heap.size ≤ dK));clear HB;have HB:=eF;have bR:=iE;have AX:=jH;have kP:=jN;clear eF iE jH jN;clear hb gY hg;have Ri:w27.cell? ⟨dK,0,none⟩ = some (.int .i64 0):=(aK bR.out 0).trans rfl;have Rj:w27.cell? ⟨dK,1,none⟩ = some (.int .i64 0):=(aK bR.out 1).trans rfl;have Rk:w27.cell? ⟨dK,2,none⟩ = some (.int .i64 0):=(aK bR.out 2).trans rfl;have Rl:=ay bR.out 0;have Rm:=ay bR.out 1;have Ro:=ay bR.out 2))
     go_ret2
     exact ⟨by first | rfl | (simp [aI,aJ] <;> rfl) | (simp [*,aI,aJ] <;> rfl),by repeat (first | (with_reducible first | exact HB.out | apply ak | apply ah | apply au | refine aT ?_ kP.out) | exact HB.out)⟩
  ·rw [if_neg c8] at H
   have u7:(iL == 0 && (kK == 0 && (t171 == 0))) = false:=by simpa using c8
   (try (have vk:decide (iL = 0 && (kK == 0 && (t171 == 0))) = false:=by simpa using c8))
   (try (have Nn:(iL == 0 && (kK == 0 && (t171 == 0))) = false:=by simpa using c8))
   (try (have aap:¬ (iL = 0 && (kK == 0 && (t171 == 0))):=by simpa using c8))
   clear c8
   by_cases Wt:iL > a2
   ·rw [if_pos Wt] at H
    have TG:decide (a2 < iL) = true:=decide_eq_true Wt
    clear Wt
    simp only [Option.some.injEq,Prod.mk.injEq] at H
    obtain ⟨rfl,rfl⟩:=H
    go_enter Try.func76,Try.ntmps76
    go_wp2_with (first | ((with_reducible refine aU (f:=79) rfl ?_);refine bP (some 23) rfl rfl Try.func79 (by kernel_rfl) rfl #[.string a0,.int .i64 a1,.int .i64 a2] rfl (by (try simp only [List.map_toArray,List.map_cons,List.map_nil]);first | done | rfl | (simp only [List.length_drop,List.length_take];rfl) | (simp only [ByteArray.size_append,Int.natCast_add];rfl) | (rw [B.dW] <;> first | rfl | omega | (simp only [decide_eq_false_iff_not,decide_eq_true_eq,Int.not_lt,Nat.not_lt,gt_iff_lt] at * <;> omega))) ?_;(with_reducible refine (bB.calls a0 a1 a2 t167 true _ A5.out).mono ?_);rintro e w' ⟨rfl,⟨nd,rfl⟩⟩;refine ⟨_,rfl,?_⟩) | ((with_reducible refine aU (f:=53) rfl ?_);refine bP (some 29) rfl rfl Try.func53 (by kernel_rfl) rfl #[.int .i64 a3] rfl (by (try simp only [List.map_toArray,List.map_cons,List.map_nil]);first | done | rfl | (simp only [List.length_drop,List.length_take];rfl) | (simp only [ByteArray.size_append,Int.natCast_add];rfl) | (rw [B.dW] <;> first | rfl | omega | (simp only [decide_eq_false_iff_not,decide_eq_true_eq,Int.not_lt,Nat.not_lt,gt_iff_lt] at * <;> omega))) ?_;(with_reducible refine (aN.calls k a3 iL kK t171 _ A7.out).mono ?_);rintro e w30 ⟨rfl,hb⟩;refine ⟨_,rfl,?_⟩;have eF:=aj.mk (bI (by repeat (first | (with_reducible first | exact HB.out | apply ak | apply ah | apply au) | exact HB.out)) hb);clear HB;have HB:=eF;clear eF;(try clear hb);(try clear hb2);(try clear hk);(try clear hi)) | ((with_reducible refine gL (N:=12) rfl ?_);(try (refine jD (by rfl) ?_;dsimp only));refine fV ?hg (N:=12) ?hd (cs:=#[.int .i64 0,.int .i64 0,.int .i64 0]) (t:=119) ?hr ?_;(case hd=>rfl);(case hg=>rfl);(case hr=>first | (go_simp;done) | (go_simp;rfl));intro dK hg w31 gY hb;have eF:=aj.mk (bI (by repeat (first | (with_reducible first | exact HB.out | apply ak | apply ah | apply au) | exact HB.out)) hb);have iE:=aj.mk (gY);have jH:=aj.mk ((by rw [hg];exact (bK (by repeat (first | (with_reducible first | exact HB.out | apply ak | apply ah | apply au) | exact HB.out))):w.heap.size ≤ dK));have jN:=aj.mk ((by rw [hg];exact (bK (by repeat (first | (with_reducible first | exact HB.out | apply ak | apply ah | apply au) | exact HB.out))):w.heap.size ≤ dK));clear HB;have HB:=eF;have bR:=iE;have AX:=jH;have kP:=jN;clear eF iE jH jN;clear hb gY hg;have IB:w31.cell? ⟨dK,0,none⟩ = some (.int .i64 0):=(aK bR.out 0).trans rfl;have IC:w31.cell? ⟨dK,1,none⟩ = some (.int .i64 0):=(aK bR.out 1).trans rfl;have IE:w31.cell? ⟨dK,2,none⟩ = some (.int .i64 0):=(aK bR.out 2).trans rfl;have IG:=ay bR.out 0;have II:=ay bR.out 1;have IJ:=ay bR.out 2))
    go_ret2
    exact ⟨by first | rfl | (simp [aI,aJ] <;> rfl) | (simp [*,aI,aJ] <;> rfl),by repeat (first | (with_reducible first | exact HB.out | apply ak | apply ah | apply au | refine aT ?_ kP.out) | exact HB.out)⟩
   ·rw [if_neg Wt] at H
    have TG:decide (a2 < iL) = false:=decide_eq_false Wt
    clear Wt
    by_cases FL:0 ≤ iL
    ·rw [if_pos FL] at H
     have abe:=eq_true FL
     have abf:decide (0 ≤ iL) = true:=decide_eq_true FL
     clear FL
     by_cases c34:iL ≤ (t167.size:Int)
     ·rw [if_pos c34] at H
      have abg:=eq_true c34
      have abh:decide (iL ≤ (t167.size:Int)) = true:=decide_eq_true c34
      clear c34
      have H':=aj.mk H
      clear H
      go_enter Try.func76,Try.ntmps76
      go_wp2_with (first | ((with_reducible refine aU (f:=79) rfl ?_);refine bP (some 23) rfl rfl Try.func79 (by kernel_rfl) rfl #[.string a0,.int .i64 a1,.int .i64 a2] rfl (by (try simp only [List.map_toArray,List.map_cons,List.map_nil]);first | done | rfl | (simp only [List.length_drop,List.length_take];rfl) | (simp only [ByteArray.size_append,Int.natCast_add];rfl) | (rw [B.dW] <;> first | rfl | omega | (simp only [decide_eq_false_iff_not,decide_eq_true_eq,Int.not_lt,Nat.not_lt,gt_iff_lt] at * <;> omega))) ?_;(with_reducible refine (bB.calls a0 a1 a2 t167 true _ A5.out).mono ?_);rintro e w' ⟨rfl,⟨nd,rfl⟩⟩;refine ⟨_,rfl,?_⟩) | ((with_reducible refine aU (f:=53) rfl ?_);refine bP (some 29) rfl rfl Try.func53 (by kernel_rfl) rfl #[.int .i64 a3] rfl (by (try simp only [List.map_toArray,List.map_cons,List.map_nil]);first | done | rfl | (simp only [List.length_drop,List.length_take];rfl) | (simp only [ByteArray.size_append,Int.natCast_add];rfl) | (rw [B.dW] <;> first | rfl | omega | (simp only [decide_eq_false_iff_not,decide_eq_true_eq,Int.not_lt,Nat.not_lt,gt_iff_lt] at * <;> omega))) ?_;(with_reducible refine (aN.calls k a3 iL kK t171 _ A7.out).mono ?_);rintro e w35 ⟨rfl,hb⟩;refine ⟨_,rfl,?_⟩;have eF:=aj.mk (bI (by repeat (first | (with_reducible first | exact HB.out | apply ak | apply ah | apply au) | exact HB.out)) hb);clear HB;have HB:=eF;clear eF;(try clear hb);(try clear hb2);(try clear hk);(try clear hi)) | ((with_reducible refine gL (N:=12) rfl ?_);(try (refine jD (by rfl) ?_;dsimp only));refine fV ?hg (N:=12) ?hd (cs:=#[.int .i64 0,.int .i64 0,.int .i64 0]) (t:=119) ?hr ?_;(case hd=>rfl);(case hg=>rfl);(case hr=>first | (go_simp;done) | (go_simp;rfl));intro dK hg w36 gY hb;have eF:=aj.mk (bI (by repeat (first | (with_reducible first | exact HB.out | apply ak | apply ah | apply au) | exact HB.out)) hb);have iE:=aj.mk (gY);have jH:=aj.mk ((by rw [hg];exact (bK (by repeat (first | (with_reducible first | exact HB.out | apply ak | apply ah | apply au) | exact HB.out))):w.heap.size ≤ dK));have jN:=aj.mk ((by rw [hg];exact (bK (by repeat (first | (with_reducible first | exact HB.out | apply ak | apply ah | apply au) | exact HB.out))):w.heap.size ≤ dK));clear HB;have HB:=eF;have bR:=iE;have AX:=jH;have kP:=jN;clear eF iE jH jN;clear hb gY hg;have Rp:w36.cell? ⟨dK,0,none⟩ = some (.int .i64 0):=(aK bR.out 0).trans rfl;have Rq:w36.cell? ⟨dK,1,none⟩ = some (.int .i64 0):=(aK bR.out 1).trans rfl;have Rt:w36.cell? ⟨dK,2,none⟩ = some (.int .i64 0):=(aK bR.out 2).trans rfl;have Ru:=ay bR.out 0;have Rv:=ay bR.out 1;have Rw:=ay bR.out 2))
      go_loopg [13,14,15] k (fun kq v13 v14 v15 w'=>∃ (dG:ByteArray) (bO:Int) (vX:Int),v13 = .string dG ∧ v14 = .int .i64 bO ∧ v15 = .int .i64 vX ∧ aj (aV.l0 kq a0 a1 a2 dG bO vX iL kK t171 = some (r1,r2)) ∧ aj (kq ≤ k) ∧ aj (w'.heap[dK]? = some (.cells #[.int .i64 iL,.int .i64 kK,.int .i64 t171] 119 (0,0))) ∧ aj (Below w.heap.size w w'))
      case atStart=>exact ⟨(t167.extract 0 (iL:Int).toNat),(wrap64 (a1 + iL)),(0),(by first | rfl | (simp;done) | (simp [*];done) | (simp [B.aX];done) | (simp [B.aY];done)),(by first | rfl | (simp;done) | (simp [*];done) | (simp [B.aX];done) | (simp [B.aY];done)),(by first | rfl | (simp;done) | (simp [*];done) | (simp [B.aX];done) | (simp [B.aY];done)),H',⟨Nat.le_refl _⟩,⟨by (with_reducible repeat (first | refine aG ?_ _ | refine aH ?_ | refine aD ?_ _));refine bU (cs:=#[.int .i64 iL,.int .i64 kK,.int .i64 0]) ?_ 2 _ rfl;(with_reducible repeat (first | refine aG ?_ _ | refine aH ?_ | refine aD ?_ _));refine bU (cs:=#[.int .i64 iL,.int .i64 0,.int .i64 0]) ?_ 1 _ rfl;(with_reducible repeat (first | refine aG ?_ _ | refine aH ?_ | refine aD ?_ _));refine bU (cs:=#[.int .i64 0,.int .i64 0,.int .i64 0]) ?_ 0 _ rfl;(with_reducible repeat (first | refine aG ?_ _ | refine aH ?_ | refine aD ?_ _));exact bR.out⟩,⟨by repeat (first | (with_reducible first | exact HB.out | apply ak | apply ah | apply au | refine aT ?_ kP.out) | exact HB.out)⟩⟩
      case round =>
       clear H'
       try clear c1
       try clear c2
       try clear p2
       try clear c3
       try clear c5
       try clear c6
       try clear p6
       try clear c7
       try clear c8
       try clear u7
       try clear vk
       try clear Nn
       try clear c9
       try clear tV
       try clear Ep
       try clear c11
       try clear c12
       try clear tX
       try clear tY
       try clear Kw
       try clear TD
       try clear TF
       try clear Wt
       try clear TG
       try clear FL
       try clear abe
       try clear abf
       try clear c34
       try clear abg
       try clear abh
       try clear Cy
       try clear Cz
       try clear CB
       try clear IK
       try clear IL
       try clear IQ
       try clear QZ
       try clear Q0
       try clear Q5
       try clear Q9
       try clear Ra
       try clear Rb
       try clear Ri
       try clear Rj
       try clear Rk
       try clear IB
       try clear IC
       try clear IE
       try clear Rp
       try clear Rq
       try clear Rt
       try clear CG
       try clear CJ
       try clear CK
       try clear IU
       try clear IV
       try clear IW
       try clear Q6
       try clear Q7
       try clear Q8
       try clear Rc
       try clear Rf
       try clear Rh
       try clear Rl
       try clear Rm
       try clear Ro
       try clear IG
       try clear II
       try clear IJ
       try clear Ru
       try clear Rv
       try clear Rw
       obtain ⟨dG,bO,vX,rfl,rfl,rfl,HA,vT,bR,HB⟩:=hrel
       cases gk with
       | zero=>exact absurd HA.out (by simp [aV.l0])
       | succ k1 =>
        have H:=HA.out
        clear HA
        simp only [aV.l0] at H
        by_cases FJ:vX < kK
        ·rw [if_pos FJ] at H
         have TA:decide (vX < kK) = true:=decide_eq_true FJ
         clear FJ
         replace H:=zbm H
         obtain ⟨⟨ED,t175,EF⟩,abj,H⟩:=H
         replace H:(if EF = 0 then (if dG.size + ED.size ≤ 9223372036854775807 then (aV.l0 k1 a0 a1 a2 (dG ++ ED) t175 (wrap64 (vX + 1)) iL kK t171) else (none)) else (some ((⟨#[]⟩:ByteArray),4))) = some (r1,r2):=H
         have A39:=aj.mk abj
         clear abj
         by_cases c40:EF = 0
         ·rw [if_pos c40] at H
          have abk:(EF == 0) = true:=beq_iff_eq.mpr c40
          have abl:(EF != 0) = false:=bne_eq_false_iff_eq.mpr c40
          clear c40
          by_cases Jr:dG.size + ED.size ≤ 9223372036854775807
          ·rw [if_pos Jr] at H
           have ahH:=eq_true Jr
           have ahI:decide (dG.size + ED.size ≤ 9223372036854775807) = true:=decide_eq_true Jr
           try have ahJ:(9223372036854775807 < dG.size + ED.size) = False:=eq_false (Nat.not_lt.2 Jr)
           have H':=aj.mk H
           clear H
           have QI:wr.cell? ⟨dK,0,none⟩ = some (.int .i64 iL):=(aK bR.out 0).trans rfl
           have QJ:wr.cell? ⟨dK,1,none⟩ = some (.int .i64 kK):=(aK bR.out 1).trans rfl
           have QK:wr.cell? ⟨dK,2,none⟩ = some (.int .i64 t171):=(aK bR.out 2).trans rfl
           have QL:=ay bR.out 0
           have QM:=ay bR.out 1
           have QN:=ay bR.out 2
           go_wp2_with (first | ((with_reducible refine aU (f:=54) rfl ?_);refine bP (some 67) rfl rfl Try.func54 (by kernel_rfl) rfl #[.string a0,.int .i64 bO] rfl (by (try simp only [List.map_toArray,List.map_cons,List.map_nil]);first | done | rfl | (simp only [List.length_drop,List.length_take];rfl) | (simp only [ByteArray.size_append,Int.natCast_add];rfl) | (rw [B.dW] <;> first | rfl | omega | (simp only [decide_eq_false_iff_not,decide_eq_true_eq,Int.not_lt,Nat.not_lt,gt_iff_lt] at * <;> omega))) ?_;(with_reducible refine (aR.calls k1 a0 bO ED t175 EF _ A39.out).mono ?_);rintro e w' ⟨rfl,⟨nd,rfl⟩⟩;refine ⟨_,rfl,?_⟩))
           go_roundg k1
           case measure=>have:=vT.out;omega
           case rel=>exact ⟨(dG ++ ED),(t175),(wrap64 (vX + 1)),(by first | rfl | (simp;done) | (simp [*];done) | (simp [B.aX];done) | (simp [B.aY];done)),(by first | rfl | (simp;done) | (simp [*];done) | (simp [B.aX];done) | (simp [B.aY];done)),(by first | rfl | (simp;done) | (simp [*];done) | (simp [B.aX];done) | (simp [B.aY];done)),H',⟨by have:=vT.out;omega⟩,⟨by (with_reducible repeat (first | refine aG ?_ _ | refine aH ?_ | refine aD ?_ _));exact bR.out⟩,⟨by repeat (first | (with_reducible first | exact HB.out | apply ak | apply ah | apply au | refine aT ?_ kP.out) | exact HB.out)⟩⟩
          ·rw [if_neg Jr] at H
           exact absurd H (by simp)
         ·rw [if_neg c40] at H
          have abk:(EF == 0) = false:=beq_eq_false_iff_ne.mpr c40
          have abl:(EF != 0) = true:=bne_iff_ne.mpr c40
          simp only [Option.some.injEq,Prod.mk.injEq] at H
          obtain ⟨rfl,rfl⟩:=H
          have adT:wr.cell? ⟨dK,0,none⟩ = some (.int .i64 iL):=(aK bR.out 0).trans rfl
          have adU:wr.cell? ⟨dK,1,none⟩ = some (.int .i64 kK):=(aK bR.out 1).trans rfl
          have adV:wr.cell? ⟨dK,2,none⟩ = some (.int .i64 t171):=(aK bR.out 2).trans rfl
          have adW:=ay bR.out 0
          have adX:=ay bR.out 1
          have adY:=ay bR.out 2
          go_wp2_with (first | ((with_reducible refine aU (f:=54) rfl ?_);refine bP (some 67) rfl rfl Try.func54 (by kernel_rfl) rfl #[.string a0,.int .i64 bO] rfl (by (try simp only [List.map_toArray,List.map_cons,List.map_nil]);first | done | rfl | (simp only [List.length_drop,List.length_take];rfl) | (simp only [ByteArray.size_append,Int.natCast_add];rfl) | (rw [B.dW] <;> first | rfl | omega | (simp only [decide_eq_false_iff_not,decide_eq_true_eq,Int.not_lt,Nat.not_lt,gt_iff_lt] at * <;> omega))) ?_;(with_reducible refine (aR.calls k1 a0 bO ED t175 EF _ A39.out).mono ?_);rintro e w' ⟨rfl,⟨nd,rfl⟩⟩;refine ⟨_,rfl,?_⟩))
          go_ret2
          exact ⟨by first | rfl | (simp [aI,aJ] <;> rfl) | (simp [*,aI,aJ] <;> rfl),by repeat (first | (with_reducible first | exact HB.out | apply ak | apply ah | apply au | refine aT ?_ kP.out) | exact HB.out)⟩
        ·rw [if_neg FJ] at H
         have TA:decide (vX < kK) = false:=decide_eq_false FJ
         clear FJ
         by_cases EY:(wrap64 (bO + t171)) = (wrap64 (a1 + a2))
         ·rw [if_pos EY] at H
          have abm:((wrap64 (bO + t171)) == (wrap64 (a1 + a2))) = true:=beq_iff_eq.mpr EY
          have abn:((wrap64 (bO + t171)) != (wrap64 (a1 + a2))) = false:=bne_eq_false_iff_eq.mpr EY
          (try (have abo:(((bO + t171)) == ((a1 + a2))) = true:=by have h_:((wrap64 (bO + t171)) == (wrap64 (a1 + a2))) = true:=beq_iff_eq.mpr EY;rw [B.dW (by omega) (by omega)] at h_;rw [B.dW (by omega) (by omega)] at h_;exact h_))
          (try (have abp:(((bO + t171)) != ((a1 + a2))) = false:=by have h_:((wrap64 (bO + t171)) != (wrap64 (a1 + a2))) = false:=bne_eq_false_iff_eq.mpr EY;rw [B.dW (by omega) (by omega)] at h_;rw [B.dW (by omega) (by omega)] at h_;exact h_))
          clear EY
          by_cases c45:0 ≤ bO
          ·rw [if_pos c45] at H
           have ahK:=eq_true c45
           have ahL:decide (0 ≤ bO) = true:=decide_eq_true c45
           clear c45
           by_cases c46:bO ≤ (wrap64 (a1 + a2))
           ·rw [if_pos c46] at H
            have ahM:=eq_true c46
            have ahN:decide (bO ≤ (wrap64 (a1 + a2))) = true:=decide_eq_true c46
            by_cases c47:(wrap64 (a1 + a2)) ≤ (a0.size:Int)
            ·rw [if_pos c47] at H
             have ahO:=eq_true c47
             have ahP:decide ((wrap64 (a1 + a2)) ≤ (a0.size:Int)) = true:=decide_eq_true c47
             by_cases c48:dG.size + (a0.extract (bO:Int).toNat ((wrap64 (a1 + a2)):Int).toNat).size ≤ 9223372036854775807
             ·rw [if_pos c48] at H
              have ahQ:=eq_true c48
              have ahR:decide (dG.size + (a0.extract (bO:Int).toNat ((wrap64 (a1 + a2)):Int).toNat).size ≤ 9223372036854775807) = true:=decide_eq_true c48
              try have ahS:(9223372036854775807 < dG.size + (a0.extract (bO:Int).toNat ((wrap64 (a1 + a2)):Int).toNat).size) = False:=eq_false (Nat.not_lt.2 c48)
              by_cases c49:((dG ++ (a0.extract (bO:Int).toNat ((wrap64 (a1 + a2)):Int).toNat)).size:Int) > 65535
              ·rw [if_pos c49] at H
               have abq:decide (65535 < ((dG ++ (a0.extract (bO:Int).toNat ((wrap64 (a1 + a2)):Int).toNat)).size:Int)) = true:=decide_eq_true c49
               have abr:decide (65535 < (dG ++ (a0.extract (bO:Int).toNat ((wrap64 (a1 + a2)):Int).toNat)).size) = true:=decide_eq_true (by omega)
               (try (have abt:decide (65535 < ((dG.size:Int) + ((a0.extract (bO:Int).toNat ((wrap64 (a1 + a2)):Int).toNat).size:Int))) = true:=by have h_:decide (65535 < ((dG ++ (a0.extract (bO:Int).toNat ((wrap64 (a1 + a2)):Int).toNat)).size:Int)) = true:=decide_eq_true c49;rw [show ((dG ++ (a0.extract (bO:Int).toNat ((wrap64 (a1 + a2)):Int).toNat)).size:Int) = ((dG.size:Int) + ((a0.extract (bO:Int).toNat ((wrap64 (a1 + a2)):Int).toNat).size:Int)) from by (simp only [ByteArray.size_append,Int.natCast_add];first | done | rfl)] at h_;(first | exact h_ | (simp only [Int.add_sub_cancel] at h_;exact h_))))
               (try (have abu:decide (65535 < ((dG.size:Int) + ((((wrap64 (a1 + a2)):Int).toNat - (bO:Int).toNat:Nat):Int))) = true:=by have h_:decide (65535 < ((dG ++ (a0.extract (bO:Int).toNat ((wrap64 (a1 + a2)):Int).toNat)).size:Int)) = true:=decide_eq_true c49;rw [show ((dG ++ (a0.extract (bO:Int).toNat ((wrap64 (a1 + a2)):Int).toNat)).size:Int) = ((dG.size:Int) + ((a0.extract (bO:Int).toNat ((wrap64 (a1 + a2)):Int).toNat).size:Int)) from by (simp only [ByteArray.size_append,Int.natCast_add];first | done | rfl)] at h_;rw [show ((a0.extract (bO:Int).toNat ((wrap64 (a1 + a2)):Int).toNat).size:Int) = ((((wrap64 (a1 + a2)):Int).toNat - (bO:Int).toNat:Nat):Int) from by (have h1_:(wrap64 (a1 + a2)) ≤ (a0.size:Int):=of_decide_eq_true (by assumption);rw [ByteArray.size_extract];omega)] at h_;exact h_))
               (try (have abv:decide (65535 < ((dG ++ (a0.extract (bO:Int).toNat (((a1 + a2)):Int).toNat)).size:Int)) = true:=by have h_:decide (65535 < ((dG ++ (a0.extract (bO:Int).toNat ((wrap64 (a1 + a2)):Int).toNat)).size:Int)) = true:=decide_eq_true c49;rw [B.dW (by omega) (by omega)] at h_;exact h_))
               (try (have abw:decide (65535 < (dG ++ (a0.extract (bO:Int).toNat (((a1 + a2)):Int).toNat)).size) = true:=by have h_:decide (65535 < (dG ++ (a0.extract (bO:Int).toNat ((wrap64 (a1 + a2)):Int).toNat)).size) = true:=decide_eq_true (by omega);rw [B.dW (by omega) (by omega)] at h_;exact h_))
               (try (have abx:decide (65535 < ((dG.size:Int) + ((a0.extract (bO:Int).toNat (((a1 + a2)):Int).toNat).size:Int))) = true:=by have h_:decide (65535 < ((dG.size:Int) + ((a0.extract (bO:Int).toNat ((wrap64 (a1 + a2)):Int).toNat).size:Int))) = true:=by have h_:decide (65535 < ((dG ++ (a0.extract (bO:Int).toNat ((wrap64 (a1 + a2)):Int).toNat)).size:Int)) = true:=decide_eq_true c49;rw [show ((dG ++ (a0.extract (bO:Int).toNat ((wrap64 (a1 + a2)):Int).toNat)).size:Int) = ((dG.size:Int) + ((a0.extract (bO:Int).toNat ((wrap64 (a1 + a2)):Int).toNat).size:Int)) from by (simp only [ByteArray.size_append,Int.natCast_add];first | done | rfl)] at h_;(first | exact h_ | (simp only [Int.add_sub_cancel] at h_;exact h_));rw [B.dW (by omega) (by omega)] at h_;exact h_))
               (try (have aby:decide (65535 < ((dG.size:Int) + (((((a1 + a2)):Int).toNat - (bO:Int).toNat:Nat):Int))) = true:=by have h_:decide (65535 < ((dG.size:Int) + ((((wrap64 (a1 + a2)):Int).toNat - (bO:Int).toNat:Nat):Int))) = true:=by have h_:decide (65535 < ((dG ++ (a0.extract (bO:Int).toNat ((wrap64 (a1 + a2)):Int).toNat)).size:Int)) = true:=decide_eq_true c49;rw [show ((dG ++ (a0.extract (bO:Int).toNat ((wrap64 (a1 + a2)):Int).toNat)).size:Int) = ((dG.size:Int) + ((a0.extract (bO:Int).toNat ((wrap64 (a1 + a2)):Int).toNat).size:Int)) from by (simp only [ByteArray.size_append,Int.natCast_add];first | done | rfl)] at h_;rw [show ((a0.extract (bO:Int).toNat ((wrap64 (a1 + a2)):Int).toNat).size:Int) = ((((wrap64 (a1 + a2)):Int).toNat - (bO:Int).toNat:Nat):Int) from by (have h1_:(wrap64 (a1 + a2)) ≤ (a0.size:Int):=of_decide_eq_true (by assumption);rw [ByteArray.size_extract];omega)] at h_;exact h_;rw [B.dW (by omega) (by omega)] at h_;exact h_))
               clear c49
               simp only [Option.some.injEq,Prod.mk.injEq] at H
               obtain ⟨rfl,rfl⟩:=H
               have adZ:wr.cell? ⟨dK,0,none⟩ = some (.int .i64 iL):=(aK bR.out 0).trans rfl
               have ad1:wr.cell? ⟨dK,1,none⟩ = some (.int .i64 kK):=(aK bR.out 1).trans rfl
               have ad2:wr.cell? ⟨dK,2,none⟩ = some (.int .i64 t171):=(aK bR.out 2).trans rfl
               have ad3:=ay bR.out 0
               have ad4:=ay bR.out 1
               have ad5:=ay bR.out 2
               go_wp2
               go_ret2
               exact ⟨by first | rfl | (simp [aI,aJ] <;> rfl) | (simp [*,aI,aJ] <;> rfl),by repeat (first | (with_reducible first | exact HB.out | apply ak | apply ah | apply au | refine aT ?_ kP.out) | exact HB.out)⟩
              ·rw [if_neg c49] at H
               have abq:decide (65535 < ((dG ++ (a0.extract (bO:Int).toNat ((wrap64 (a1 + a2)):Int).toNat)).size:Int)) = false:=decide_eq_false c49
               have abr:decide (65535 < (dG ++ (a0.extract (bO:Int).toNat ((wrap64 (a1 + a2)):Int).toNat)).size) = false:=decide_eq_false (by omega)
               (try (have abt:decide (65535 < ((dG.size:Int) + ((a0.extract (bO:Int).toNat ((wrap64 (a1 + a2)):Int).toNat).size:Int))) = false:=by have h_:decide (65535 < ((dG ++ (a0.extract (bO:Int).toNat ((wrap64 (a1 + a2)):Int).toNat)).size:Int)) = false:=decide_eq_false c49;rw [show ((dG ++ (a0.extract (bO:Int).toNat ((wrap64 (a1 + a2)):Int).toNat)).size:Int) = ((dG.size:Int) + ((a0.extract (bO:Int).toNat ((wrap64 (a1 + a2)):Int).toNat).size:Int)) from by (simp only [ByteArray.size_append,Int.natCast_add];first | done | rfl)] at h_;(first | exact h_ | (simp only [Int.add_sub_cancel] at h_;exact h_))))
               (try (have abu:decide (65535 < ((dG.size:Int) + ((((wrap64 (a1 + a2)):Int).toNat - (bO:Int).toNat:Nat):Int))) = false:=by have h_:decide (65535 < ((dG ++ (a0.extract (bO:Int).toNat ((wrap64 (a1 + a2)):Int).toNat)).size:Int)) = false:=decide_eq_false c49;rw [show ((dG ++ (a0.extract (bO:Int).toNat ((wrap64 (a1 + a2)):Int).toNat)).size:Int) = ((dG.size:Int) + ((a0.extract (bO:Int).toNat ((wrap64 (a1 + a2)):Int).toNat).size:Int)) from by (simp only [ByteArray.size_append,Int.natCast_add];first | done | rfl)] at h_;rw [show ((a0.extract (bO:Int).toNat ((wrap64 (a1 + a2)):Int).toNat).size:Int) = ((((wrap64 (a1 + a2)):Int).toNat - (bO:Int).toNat:Nat):Int) from by (have h1_:(wrap64 (a1 + a2)) ≤ (a0.size:Int):=of_decide_eq_true (by assumption);rw [ByteArray.size_extract];omega)] at h_;exact h_))
               (try (have abv:decide (65535 < ((dG ++ (a0.extract (bO:Int).toNat (((a1 + a2)):Int).toNat)).size:Int)) = false:=by have h_:decide (65535 < ((dG ++ (a0.extract (bO:Int).toNat ((wrap64 (a1 + a2)):Int).toNat)).size:Int)) = false:=decide_eq_false c49;rw [B.dW (by omega) (by omega)] at h_;exact h_))
               (try (have abw:decide (65535 < (dG ++ (a0.extract (bO:Int).toNat (((a1 + a2)):Int).toNat)).size) = false:=by have h_:decide (65535 < (dG ++ (a0.extract (bO:Int).toNat ((wrap64 (a1 + a2)):Int).toNat)).size) = false:=decide_eq_false (by omega);rw [B.dW (by omega) (by omega)] at h_;exact h_))
               (try (have abx:decide (65535 < ((dG.size:Int) + ((a0.extract (bO:Int).toNat (((a1 + a2)):Int).toNat).size:Int))) = false:=by have h_:decide (65535 < ((dG.size:Int) + ((a0.extract (bO:Int).toNat ((wrap64 (a1 + a2)):Int).toNat).size:Int))) = false:=by have h_:decide (65535 < ((dG ++ (a0.extract (bO:Int).toNat ((wrap64 (a1 + a2)):Int).toNat)).size:Int)) = false:=decide_eq_false c49;rw [show ((dG ++ (a0.extract (bO:Int).toNat ((wrap64 (a1 + a2)):Int).toNat)).size:Int) = ((dG.size:Int) + ((a0.extract (bO:Int).toNat ((wrap64 (a1 + a2)):Int).toNat).size:Int)) from by (simp only [ByteArray.size_append,Int.natCast_add];first | done | rfl)] at h_;(first | exact h_ | (simp only [Int.add_sub_cancel] at h_;exact h_));rw [B.dW (by omega) (by omega)] at h_;exact h_))
               (try (have aby:decide (65535 < ((dG.size:Int) + (((((a1 + a2)):Int).toNat - (bO:Int).toNat:Nat):Int))) = false:=by have h_:decide (65535 < ((dG.size:Int) + ((((wrap64 (a1 + a2)):Int).toNat - (bO:Int).toNat:Nat):Int))) = false:=by have h_:decide (65535 < ((dG ++ (a0.extract (bO:Int).toNat ((wrap64 (a1 + a2)):Int).toNat)).size:Int)) = false:=decide_eq_false c49;rw [show ((dG ++ (a0.extract (bO:Int).toNat ((wrap64 (a1 + a2)):Int).toNat)).size:Int) = ((dG.size:Int) + ((a0.extract (bO:Int).toNat ((wrap64 (a1 + a2)):Int).toNat).size:Int)) from by (simp only [ByteArray.size_append,Int.natCast_add];first | done | rfl)] at h_;rw [show ((a0.extract (bO:Int).toNat ((wrap64 (a1 + a2)):Int).toNat).size:Int) = ((((wrap64 (a1 + a2)):Int).toNat - (bO:Int).toNat:Nat):Int) from by (have h1_:(wrap64 (a1 + a2)) ≤ (a0.size:Int):=of_decide_eq_true (by assumption);rw [ByteArray.size_extract];omega)] at h_;exact h_;rw [B.dW (by omega) (by omega)] at h_;exact h_))
               clear c49
               simp only [Option.some.injEq,Prod.mk.injEq] at H
               obtain ⟨rfl,rfl⟩:=H
               have ad6:wr.cell? ⟨dK,0,none⟩ = some (.int .i64 iL):=(aK bR.out 0).trans rfl
               have ad7:wr.cell? ⟨dK,1,none⟩ = some (.int .i64 kK):=(aK bR.out 1).trans rfl
               have ad8:wr.cell? ⟨dK,2,none⟩ = some (.int .i64 t171):=(aK bR.out 2).trans rfl
               have ad9:=ay bR.out 0
               have aea:=ay bR.out 1
               have aeb:=ay bR.out 2
               go_wp2
               go_ret2
               exact ⟨by first | rfl | (simp [aI,aJ] <;> rfl) | (simp [*,aI,aJ] <;> rfl),by repeat (first | (with_reducible first | exact HB.out | apply ak | apply ah | apply au | refine aT ?_ kP.out) | exact HB.out)⟩
             ·rw [if_neg c48] at H
              exact absurd H (by simp)
            ·rw [if_neg c47] at H
             exact absurd H (by simp)
           ·rw [if_neg c46] at H
            exact absurd H (by simp)
          ·rw [if_neg c45] at H
           exact absurd H (by simp)
         ·rw [if_neg EY] at H
          have abm:((wrap64 (bO + t171)) == (wrap64 (a1 + a2))) = false:=beq_eq_false_iff_ne.mpr EY
          have abn:((wrap64 (bO + t171)) != (wrap64 (a1 + a2))) = true:=bne_iff_ne.mpr EY
          (try (have abo:(((bO + t171)) == ((a1 + a2))) = false:=by have h_:((wrap64 (bO + t171)) == (wrap64 (a1 + a2))) = false:=beq_eq_false_iff_ne.mpr EY;rw [B.dW (by omega) (by omega)] at h_;rw [B.dW (by omega) (by omega)] at h_;exact h_))
          (try (have abp:(((bO + t171)) != ((a1 + a2))) = true:=by have h_:((wrap64 (bO + t171)) != (wrap64 (a1 + a2))) = true:=bne_iff_ne.mpr EY;rw [B.dW (by omega) (by omega)] at h_;rw [B.dW (by omega) (by omega)] at h_;exact h_))
          simp only [Option.some.injEq,Prod.mk.injEq] at H
          obtain ⟨rfl,rfl⟩:=H
          have aec:wr.cell? ⟨dK,0,none⟩ = some (.int .i64 iL):=(aK bR.out 0).trans rfl
          have aed:wr.cell? ⟨dK,1,none⟩ = some (.int .i64 kK):=(aK bR.out 1).trans rfl
          have aee:wr.cell? ⟨dK,2,none⟩ = some (.int .i64 t171):=(aK bR.out 2).trans rfl
          have aef:=ay bR.out 0
          have aeg:=ay bR.out 1
          have aeh:=ay bR.out 2
          go_wp2
          go_ret2
          exact ⟨by first | rfl | (simp [aI,aJ] <;> rfl) | (simp [*,aI,aJ] <;> rfl),by repeat (first | (with_reducible first | exact HB.out | apply ak | apply ah | apply au | refine aT ?_ kP.out) | exact HB.out)⟩
     ·rw [if_neg c34] at H
      exact absurd H (by simp)
    ·rw [if_neg FL] at H
     exact absurd H (by simp)
 ·replace c6:=Bool.eq_false_iff.mpr c6
  subst c6
  have H1:(some ((⟨#[]⟩:ByteArray),2)) = some (r1,r2):=by rw [if_neg (show ¬ (false = true) by decide)] at H;exact H
  clear H
  have H:=H1
  clear H1
  simp only [Option.some.injEq,Prod.mk.injEq] at H
  obtain ⟨rfl,rfl⟩:=H
  go_enter Try.func76,Try.ntmps76
  go_wp2_with (first | ((with_reducible refine aU (f:=79) rfl ?_);refine bP (some 23) rfl rfl Try.func79 (by kernel_rfl) rfl #[.string a0,.int .i64 a1,.int .i64 a2] rfl (by (try simp only [List.map_toArray,List.map_cons,List.map_nil]);first | done | rfl | (simp only [List.length_drop,List.length_take];rfl) | (simp only [ByteArray.size_append,Int.natCast_add];rfl) | (rw [B.dW] <;> first | rfl | omega | (simp only [decide_eq_false_iff_not,decide_eq_true_eq,Int.not_lt,Nat.not_lt,gt_iff_lt] at * <;> omega))) ?_;(with_reducible refine (bB.calls a0 a1 a2 t167 false _ A5.out).mono ?_);rintro e w' ⟨rfl,⟨nd,rfl⟩⟩;refine ⟨_,rfl,?_⟩))
  go_ret2
  exact ⟨by first | rfl | (simp [aI,aJ] <;> rfl) | (simp [*,aI,aJ] <;> rfl),by repeat (first | (with_reducible first | exact HB.out | apply ak | apply ah | apply au) | exact HB.out)⟩
def dB.f (k:Nat) (a0:Int) (a1:ByteArray):Option (Bool):=if (a1.size:Int) > 65535 then (some false) else ((aV.f k a1 0 (a1.size:Int) a0).bind fun EG=>(if EG.2 = 0 then (some (EG.1.toList == a1.toList)) else (some false)))
set_option maxHeartbeats 8000000 in
set_option maxRecDepth 100000 in
theorem dB.calls (k:Nat) (a0:Int) (a1:ByteArray) (r:Bool) (w:World) (h:dB.f k a0 a1 = some r) :
  Calls Try.prog 52 #[.int .i64 a0,.string a1] w fun e w'=>e = .returned (.bool r) ∧ Below w.heap.size w w':=by
 have HB:=aj.mk (Below.refl w.heap.size w)
 have H:(if (a1.size:Int) > 65535 then (some false) else ((aV.f k a1 0 (a1.size:Int) a0).bind fun EG=>(if EG.2 = 0 then (some (EG.1.toList == a1.toList)) else (some false)))) = some r:=h
 clear h
 by_cases c3:(a1.size:Int) > 65535
 ·rw [if_pos c3] at H
  have qK:decide (65535 < (a1.size:Int)) = true:=decide_eq_true c3
  have Ct:decide (65535 < a1.size) = true:=decide_eq_true (by omega)
  clear c3
  obtain rfl:=Option.some.inj H
  go_enter Try.func52,Try.ntmps52
  go_wp2
  go_ret
  exact ⟨by first | rfl | (simp [aI,aJ] <;> rfl) | (simp [*,aI,aJ] <;> rfl),by repeat (first | (with_reducible first | exact HB.out | apply ak | apply ah | apply au) | exact HB.out)⟩
 ·rw [if_neg c3] at H
  have qK:decide (65535 < (a1.size:Int)) = false:=decide_eq_false c3
  have Ct:decide (65535 < a1.size) = false:=decide_eq_false (by omega)
  clear c3
  replace H:=zbm H
  obtain ⟨⟨Wu,EH⟩,Er,H⟩:=H
  replace H:(if EH = 0 then (some (Wu.toList == a1.toList)) else (some false)) = some r:=H
  have A4:=aj.mk Er
  clear Er
  by_cases c5:EH = 0
  ·rw [if_pos c5] at H
   have pR:(EH == 0) = true:=beq_iff_eq.mpr c5
   have vv:(EH != 0) = false:=bne_eq_false_iff_eq.mpr c5
   clear c5
   obtain rfl:=Option.some.inj H
   go_enter Try.func52,Try.ntmps52
   go_wp2_with (first | ((with_reducible refine aU (f:=76) rfl ?_);refine bP (some 15) rfl rfl Try.func76 (by kernel_rfl) rfl #[.string a1,.int .i64 0,.int .i64 (a1.size:Int),.int .i64 a0] rfl (by (try simp only [List.map_toArray,List.map_cons,List.map_nil]);first | done | rfl | (simp only [List.length_drop,List.length_take];rfl) | (simp only [ByteArray.size_append,Int.natCast_add];rfl) | (rw [B.dW] <;> first | rfl | omega | (simp only [decide_eq_false_iff_not,decide_eq_true_eq,Int.not_lt,Nat.not_lt,gt_iff_lt] at * <;> omega))) ?_;(with_reducible refine (aV.calls k a1 0 (a1.size:Int) a0 Wu EH _ A4.out).mono ?_);rintro e w6 ⟨rfl,hb⟩;refine ⟨_,rfl,?_⟩;have eF:=aj.mk (bI (by repeat (first | (with_reducible first | exact HB.out | apply ak | apply ah | apply au) | exact HB.out)) hb);clear HB;have HB:=eF;clear eF;(try clear hb);(try clear hb2);(try clear hk);(try clear hi)))
   go_ret
   exact ⟨by first | rfl | (simp [aI,aJ] <;> rfl) | (simp [*,aI,aJ] <;> rfl),by repeat (first | (with_reducible first | exact HB.out | apply ak | apply ah | apply au) | exact HB.out)⟩
  ·rw [if_neg c5] at H
   have pR:(EH == 0) = false:=beq_eq_false_iff_ne.mpr c5
   have vv:(EH != 0) = true:=bne_iff_ne.mpr c5
   obtain rfl:=Option.some.inj H
   go_enter Try.func52,Try.ntmps52
   go_wp2_with (first | ((with_reducible refine aU (f:=76) rfl ?_);refine bP (some 15) rfl rfl Try.func76 (by kernel_rfl) rfl #[.string a1,.int .i64 0,.int .i64 (a1.size:Int),.int .i64 a0] rfl (by (try simp only [List.map_toArray,List.map_cons,List.map_nil]);first | done | rfl | (simp only [List.length_drop,List.length_take];rfl) | (simp only [ByteArray.size_append,Int.natCast_add];rfl) | (rw [B.dW] <;> first | rfl | omega | (simp only [decide_eq_false_iff_not,decide_eq_true_eq,Int.not_lt,Nat.not_lt,gt_iff_lt] at * <;> omega))) ?_;(with_reducible refine (aV.calls k a1 0 (a1.size:Int) a0 Wu EH _ A4.out).mono ?_);rintro e w7 ⟨rfl,hb⟩;refine ⟨_,rfl,?_⟩;have eF:=aj.mk (bI (by repeat (first | (with_reducible first | exact HB.out | apply ak | apply ah | apply au) | exact HB.out)) hb);clear HB;have HB:=eF;clear eF;(try clear hb);(try clear hb2);(try clear hk);(try clear hi)))
   go_ret
   exact ⟨by first | rfl | (simp [aI,aJ] <;> rfl) | (simp [*,aI,aJ] <;> rfl),by repeat (first | (with_reducible first | exact HB.out | apply ak | apply ah | apply au) | exact HB.out)⟩
def bC.l0 : Nat → ByteArray → List ByteArray → Int → Int → Int → Int → Int → Option (List ByteArray)
 | 0,_,_,_,_,_,_,_=>none
 | k + 1,x1,x5,x7,x8,Rx,I4,Ry=>if x8 < I4 then ((aR.f k x1 x7).bind fun TH=>(if x5.length < 8796093022208 then (bC.l0 k x1 (x5 ++ [TH.1]) TH.2.1 (wrap64 (x8 + 1)) Rx I4 Ry) else (none))) else (some x5)
def bC.f (k:Nat) (a0:Int) (a1:ByteArray):Option (List ByteArray):=(dB.f k a0 a1).bind fun J8=>(if J8 = true then ((aN.f k a0).bind fun kL=>(bC.l0 k a1 ([]:List ByteArray) kL.1 0 kL.1 kL.2.1 kL.2.2)) else (some ([]:List ByteArray)))
set_option maxHeartbeats 8000000 in
set_option maxRecDepth 100000 in
theorem bC.calls (k:Nat) (a0:Int) (a1:ByteArray) (r:List ByteArray) (w:World) (h:bC.f k a0 a1 = some r) :
  Calls Try.prog 30 #[.int .i64 a0,.string a1] w fun e w'=>∃ Nf:Value,e = .returned (Nf) ∧ Kd.R Kd.string 9 w' w.heap.size (fun _=>True) Nf r ∧ Below w.heap.size w w':=by
 have TB:=Try.underlying119
 have HB:=aj.mk (Below.refl w.heap.size w)
 have H:((dB.f k a0 a1).bind fun J8=>(if J8 = true then ((aN.f k a0).bind fun kL=>(bC.l0 k a1 ([]:List ByteArray) kL.1 0 kL.1 kL.2.1 kL.2.2)) else (some ([]:List ByteArray)))) = some r:=h
 clear h
 replace H:=zbm H
 obtain ⟨J8,Tv,H⟩:=H
 replace H:(if J8 = true then ((aN.f k a0).bind fun kL=>(bC.l0 k a1 ([]:List ByteArray) kL.1 0 kL.1 kL.2.1 kL.2.2)) else (some ([]:List ByteArray))) = some r:=H
 have A3:=aj.mk Tv
 clear Tv
 by_cases c4:J8 = true
 ·subst c4
  have H1:((aN.f k a0).bind fun kL=>(bC.l0 k a1 ([]:List ByteArray) kL.1 0 kL.1 kL.2.1 kL.2.2)) = some r:=by rw [if_pos rfl] at H;exact H
  clear H
  have H:=H1
  clear H1
  replace H:=zbm H
  obtain ⟨⟨vB,vC,t182⟩,A50,H⟩:=H
  replace H:(bC.l0 k a1 ([]:List ByteArray) vB 0 vB vC t182) = some r:=H
  have A5:=aj.mk A50
  clear A50
  have H':=aj.mk H
  clear H
  go_enter Try.func30,Try.ntmps30
  go_wp2_with (first | ((with_reducible refine aU (f:=52) rfl ?_);refine bP (some 14) rfl rfl Try.func52 (by kernel_rfl) rfl #[.int .i64 a0,.string a1] rfl (by (try simp only [List.map_toArray,List.map_cons,List.map_nil]);first | done | rfl | (simp only [List.length_drop,List.length_take];rfl) | (simp only [ByteArray.size_append,Int.natCast_add];rfl) | (rw [B.dW] <;> first | rfl | omega | (simp only [decide_eq_false_iff_not,decide_eq_true_eq,Int.not_lt,Nat.not_lt,gt_iff_lt] at * <;> omega))) ?_;(with_reducible refine (dB.calls k a0 a1 true _ A3.out).mono ?_);rintro e w6 ⟨rfl,hb⟩;refine ⟨_,rfl,?_⟩;have eF:=aj.mk (bI (by repeat (first | (with_reducible first | exact HB.out | apply ak | apply ah | apply au) | exact HB.out)) hb);clear HB;have HB:=eF;clear eF;(try clear hb);(try clear hb2);(try clear hk);(try clear hi)) | ((with_reducible refine aU (f:=53) rfl ?_);refine bP (some 17) rfl rfl Try.func53 (by kernel_rfl) rfl #[.int .i64 a0] rfl (by (try simp only [List.map_toArray,List.map_cons,List.map_nil]);first | done | rfl | (simp only [List.length_drop,List.length_take];rfl) | (simp only [ByteArray.size_append,Int.natCast_add];rfl) | (rw [B.dW] <;> first | rfl | omega | (simp only [decide_eq_false_iff_not,decide_eq_true_eq,Int.not_lt,Nat.not_lt,gt_iff_lt] at * <;> omega))) ?_;(with_reducible refine (aN.calls k a0 vB vC t182 _ A5.out).mono ?_);rintro e w7 ⟨rfl,hb⟩;refine ⟨_,rfl,?_⟩;have eF:=aj.mk (bI (by repeat (first | (with_reducible first | exact HB.out | apply ak | apply ah | apply au) | exact HB.out)) hb);clear HB;have HB:=eF;clear eF;(try clear hb);(try clear hb2);(try clear hk);(try clear hi)) | ((with_reducible refine gL (N:=6) rfl ?_);refine fV ?hg (N:=6) ?hd (cs:=#[.int .i64 0,.int .i64 0,.int .i64 0]) (t:=119) ?hr ?_;(case hd=>rfl);(case hg=>rfl);(case hr=>first | (go_simp;done) | (go_simp;rfl));intro nT hg w8 gY hb;have eF:=aj.mk (bI (by repeat (first | (with_reducible first | exact HB.out | apply ak | apply ah | apply au) | exact HB.out)) hb);have iE:=aj.mk (gY);have jH:=aj.mk ((by rw [hg];exact (bK (by repeat (first | (with_reducible first | exact HB.out | apply ak | apply ah | apply au) | exact HB.out))):w.heap.size ≤ nT));have jN:=aj.mk ((by rw [hg];exact (bK (by repeat (first | (with_reducible first | exact HB.out | apply ak | apply ah | apply au) | exact HB.out))):w.heap.size ≤ nT));clear HB;have HB:=eF;have iZ:=iE;have ahT:=jH;have EI:=jN;clear eF iE jH jN;clear hb gY hg;have NH:w8.cell? ⟨nT,0,none⟩ = some (.int .i64 0):=(aK iZ.out 0).trans rfl;have NI:w8.cell? ⟨nT,1,none⟩ = some (.int .i64 0):=(aK iZ.out 1).trans rfl;have NJ:w8.cell? ⟨nT,2,none⟩ = some (.int .i64 0):=(aK iZ.out 2).trans rfl;have NK:=ay iZ.out 0;have NM:=ay iZ.out 1;have NP:=ay iZ.out 2))
  go_loopg [5,7,8] k (fun kq v5 v7 v8 w'=>∃ (EJ:List ByteArray) (eB:Int) (jf:Int),v7 = .int .i64 eB ∧ v8 = .int .i64 jf ∧ aj (bC.l0 kq a1 EJ eB jf vB vC t182 = some r) ∧ aj (kq ≤ k) ∧ aj (Kd.R Kd.string 9 w' w.heap.size (fun _=>True) v5 EJ) ∧ aj (w'.heap[nT]? = some (.cells #[.int .i64 vB,.int .i64 vC,.int .i64 t182] 119 (0,0))) ∧ aj (Below w.heap.size w w'))
  case atStart=>exact ⟨(([]:List ByteArray)),(vB),(0),(by first | rfl | (simp;done) | (simp [*];done) | (simp [B.aX];done) | (simp [B.aY];done)),(by first | rfl | (simp;done) | (simp [*];done) | (simp [B.aX];done) | (simp [B.aY];done)),H',⟨Nat.le_refl _⟩,⟨by first | exact Kd.jJ _ _ _ _ _ | exact Kd.lq _ _ _ _ _ | exact Kd.lu _ _ _ _ _ | exact Kd.kZ _ _ _ _ _ | exact Kd.lg _ _ _ _ _⟩,⟨by (with_reducible repeat (first | refine aG ?_ _ | refine aH ?_ | refine aD ?_ _));refine bU (cs:=#[.int .i64 vB,.int .i64 vC,.int .i64 0]) ?_ 2 _ rfl;(with_reducible repeat (first | refine aG ?_ _ | refine aH ?_ | refine aD ?_ _));refine bU (cs:=#[.int .i64 vB,.int .i64 0,.int .i64 0]) ?_ 1 _ rfl;(with_reducible repeat (first | refine aG ?_ _ | refine aH ?_ | refine aD ?_ _));refine bU (cs:=#[.int .i64 0,.int .i64 0,.int .i64 0]) ?_ 0 _ rfl;(with_reducible repeat (first | refine aG ?_ _ | refine aH ?_ | refine aD ?_ _));exact iZ.out⟩,⟨by repeat (first | (with_reducible first | exact HB.out | apply ak | apply ah | apply au | refine aT ?_ EI.out) | exact HB.out)⟩⟩
  case round =>
   clear H'
   try clear p2
   try clear c3
   try clear c4
   try clear c5
   try clear NH
   try clear NI
   try clear NJ
   try clear NK
   try clear NM
   try clear NP
   obtain ⟨EJ,eB,jf,rfl,rfl,HA,vT,Rz,iZ,HB⟩:=hrel
   cases gk with
   | zero=>exact absurd HA.out (by simp [bC.l0])
   | succ k1 =>
    have H:=HA.out
    clear HA
    simp only [bC.l0] at H
    by_cases c10:jf < vC
    ·rw [if_pos c10] at H
     have qX:decide (jf < vC) = true:=decide_eq_true c10
     clear c10
     replace H:=zbm H
     obtain ⟨⟨NQ,RA,afR⟩,abz,H⟩:=H
     replace H:(if EJ.length < 8796093022208 then (bC.l0 k1 a1 (EJ ++ [NQ]) RA (wrap64 (jf + 1)) vB vC t182) else (none)) = some r:=H
     have A11:=aj.mk abz
     clear abz
     by_cases c12:EJ.length < 8796093022208
     ·rw [if_pos c12] at H
      have abA:=aj.mk c12
      clear c12
      obtain ⟨abB,EK⟩:∃ y_:List ByteArray,y_ = (EJ ++ [NQ]):=⟨_,rfl⟩
      replace H:(bC.l0 k1 a1 abB RA (wrap64 (jf + 1)) vB vC t182) = some r:=by first | (rw [EK];with_reducible exact H) | (have Gn:=(Option.bind_some _ _).symm.trans H;rw [EK];with_reducible exact Gn) | (have Gn:=(Option.bind_some _ _).symm.trans H;with_reducible exact Gn) | with_reducible exact H | (rw [EK];exact H) | exact H
      have abC:=aj.mk EK
      clear EK
      have H':=aj.mk H
      clear H
      have QS:wr.cell? ⟨nT,0,none⟩ = some (.int .i64 vB):=(aK iZ.out 0).trans rfl
      have QT:wr.cell? ⟨nT,1,none⟩ = some (.int .i64 vC):=(aK iZ.out 1).trans rfl
      have QU:wr.cell? ⟨nT,2,none⟩ = some (.int .i64 t182):=(aK iZ.out 2).trans rfl
      have QV:=ay iZ.out 0
      have QW:=ay iZ.out 1
      have QX:=ay iZ.out 2
      go_wp2_with (first | ((with_reducible refine aU (f:=54) rfl ?_);refine bP (some 29) rfl rfl Try.func54 (by kernel_rfl) rfl #[.string a1,.int .i64 eB] rfl (by (try simp only [List.map_toArray,List.map_cons,List.map_nil]);first | done | rfl | (simp only [List.length_drop,List.length_take];rfl) | (simp only [ByteArray.size_append,Int.natCast_add];rfl) | (rw [B.dW] <;> first | rfl | omega | (simp only [decide_eq_false_iff_not,decide_eq_true_eq,Int.not_lt,Nat.not_lt,gt_iff_lt] at * <;> omega))) ?_;(with_reducible refine (aR.calls k1 a1 eB NQ RA afR _ A11.out).mono ?_);rintro e w' ⟨rfl,⟨nd,rfl⟩⟩;refine ⟨_,rfl,?_⟩) | ((with_reducible refine oq (b:=.append) (xs:=#[.tmp 33,.tmp 35]) rfl ?_);at_builtin;refine Kd.yK Kd.string (w0:=w) w.heap.size rfl (.tmp 33) (.tmp 35) 25 9 (.string ⟨#[]⟩) 16 rfl Try.underlying25 Ij rfl (by decide) (by omega) u5 EJ NQ [.string NQ] (fun _=>True) (fun _=>False) rfl rfl ?aP (fun _ hk=>hk.elim) ?aF ?aO ?aB ?aS ?aL ?_;(case aP=>exact rfl);(case aB=>exact (by repeat (first | (with_reducible first | exact HB.out | apply ak | apply ah | apply au | refine aT ?_ EI.out) | exact HB.out)));(case aF=>exact (fun _ _=>trivial));(case aO=>exact (by (with_reducible repeat (first | apply Kd.fJ | apply Kd.gB | apply Kd.gI));exact Rz.out));(case aS=>exact (bK (by repeat (first | (with_reducible first | exact HB.out | apply ak | apply ah | apply au | refine aT ?_ EI.out) | exact HB.out))));(case aL=>have:=abA.out;omega);intro aic w14 ho hb hg hat;rw [← abC.out] at ho;have eF:=aj.mk (qm (g:=nT) (o:=.cells #[.int .i64 vB,.int .i64 vC,.int .i64 t182] 119 (0,0)) (by (with_reducible repeat (first | refine aG ?_ _ | refine aH ?_ | refine aD ?_ _));exact iZ.out) hg (Kd.Qe Rz.out iZ.out (by decide)));have iE:=aj.mk (hb);have jH:=aj.mk (ho);clear iZ;clear HB;clear Rz;have iZ:=eF;have HB:=iE;have abD:=jH;clear eF iE jH;clear ho hb hg hat))
      go_roundg k1
      case measure=>have:=vT.out;omega
      case rel=>exact ⟨(abB),(RA),(wrap64 (jf + 1)),(by first | rfl | (simp;done) | (simp [*];done) | (simp [B.aX];done) | (simp [B.aY];done)),(by first | rfl | (simp;done) | (simp [*];done) | (simp [B.aX];done) | (simp [B.aY];done)),H',⟨by have:=vT.out;omega⟩,⟨by (with_reducible repeat (first | apply Kd.fJ | apply Kd.gB | apply Kd.gI));exact abD.out⟩,⟨by (with_reducible repeat (first | refine aG ?_ _ | refine aH ?_ | refine aD ?_ _));exact iZ.out⟩,⟨by repeat (first | (with_reducible first | exact HB.out | apply ak | apply ah | apply au | refine aT ?_ EI.out) | exact HB.out)⟩⟩
     ·rw [if_neg c12] at H
      exact absurd H (by simp)
    ·rw [if_neg c10] at H
     have qX:decide (jf < vC) = false:=decide_eq_false c10
     clear c10
     obtain rfl:=Option.some.inj H
     have Cy:wr.cell? ⟨nT,0,none⟩ = some (.int .i64 vB):=(aK iZ.out 0).trans rfl
     have Cz:wr.cell? ⟨nT,1,none⟩ = some (.int .i64 vC):=(aK iZ.out 1).trans rfl
     have CB:wr.cell? ⟨nT,2,none⟩ = some (.int .i64 t182):=(aK iZ.out 2).trans rfl
     have CG:=ay iZ.out 0
     have CJ:=ay iZ.out 1
     have CK:=ay iZ.out 2
     go_wp2
     go_ret
     exact ⟨_,by first | rfl | (simp [aI,aJ] <;> rfl) | (simp [*,aI,aJ] <;> rfl),by (with_reducible repeat (first | apply Kd.fJ | apply Kd.gB | apply Kd.gI));exact Rz.out,by repeat (first | (with_reducible first | exact HB.out | apply ak | apply ah | apply au | refine aT ?_ EI.out) | exact HB.out)⟩
 ·replace c4:=Bool.eq_false_iff.mpr c4
  subst c4
  have H1:(some ([]:List ByteArray)) = some r:=by rw [if_neg (show ¬ (false = true) by decide)] at H;exact H
  clear H
  have H:=H1
  clear H1
  obtain rfl:=Option.some.inj H
  go_enter Try.func30,Try.ntmps30
  go_wp2_with (first | ((with_reducible refine aU (f:=52) rfl ?_);refine bP (some 14) rfl rfl Try.func52 (by kernel_rfl) rfl #[.int .i64 a0,.string a1] rfl (by (try simp only [List.map_toArray,List.map_cons,List.map_nil]);first | done | rfl | (simp only [List.length_drop,List.length_take];rfl) | (simp only [ByteArray.size_append,Int.natCast_add];rfl) | (rw [B.dW] <;> first | rfl | omega | (simp only [decide_eq_false_iff_not,decide_eq_true_eq,Int.not_lt,Nat.not_lt,gt_iff_lt] at * <;> omega))) ?_;(with_reducible refine (dB.calls k a0 a1 false _ A3.out).mono ?_);rintro e w16 ⟨rfl,hb⟩;refine ⟨_,rfl,?_⟩;have eF:=aj.mk (bI (by repeat (first | (with_reducible first | exact HB.out | apply ak | apply ah | apply au) | exact HB.out)) hb);clear HB;have HB:=eF;clear eF;(try clear hb);(try clear hb2);(try clear hk);(try clear hi)))
  go_ret
  exact ⟨_,by first | rfl | (simp [aI,aJ] <;> rfl) | (simp [*,aI,aJ] <;> rfl),by first | exact Kd.jJ _ _ _ _ _ | exact Kd.lq _ _ _ _ _ | exact Kd.lu _ _ _ _ _ | exact Kd.kZ _ _ _ _ _ | exact Kd.lg _ _ _ _ _,by repeat (first | (with_reducible first | exact HB.out | apply ak | apply ah | apply au) | exact HB.out)⟩
end Go.Proofs.Ytfokaoeinpnagaa.ZQ
namespace Go.Proofs.Ytfokaoeinpnagaa.ZQ
open Go.RowKit Go.Proofs.YtfokaoeinpnagaaW.bD Go.Proofs.YtfokaoeinpnagaaW.dJ Go.Proofs.YtfokaoeinpnagaaW.eG Go.Proofs.Ytfokaoeinpnagaa.B
def vY (msg:ByteArray) (i:Int):ByteArray × Int × Int:=(bE.f (rounds i) msg i).getD (⟨#[]⟩,0,0)
theorem TI (msg:ByteArray) (i:Int) (hm:msg.size ≤ 100000):bE.f (rounds i) msg i = some (vY msg i):=by
 obtain ⟨R,h1,_⟩:=AP (rounds i) msg i hm (Nat.le_refl _)
 unfold vY;rw [h1];rfl
theorem TJ (k:Nat) (msg:ByteArray) (i:Int) (hm:msg.size ≤ 100000) (hk:rounds i ≤ k):bE.f k msg i = some (vY msg i):=Ey hk (TI msg i hm)
theorem vD (k:Nat) (msg:ByteArray) (i:Int) (hm:msg.size ≤ 100000) (hk:rounds i ≤ k):aR.f k msg i = some (vY msg i):=by
 obtain ⟨R,h1,h2⟩:=AP k msg i hm hk
 rw [TJ k msg i hm hk] at h1
 rw [h2,h1]
theorem um (msg:ByteArray) (i:Int) (hm:msg.size ≤ 100000) :
  ((vY msg i).2.2 = 0 ∧ jT (vY msg i).1 = true ∧ 0 ≤ i ∧ i < (vY msg i).2.1 ∧ (vY msg i).2.1 ≤ (msg.size:Int)) ∨ (((vY msg i).2.2 = 2 ∨ (vY msg i).2.2 = 3) ∧ (vY msg i).1 = ⟨#[]⟩ ∧ (vY msg i).2.1 = 0):=Gs hm (TI msg i hm)
def EL (msg:ByteArray) (e:Int):Nat → Int → List ByteArray → Option (List ByteArray × Int)
 | 0,i,l=>some (l,i)
 | n + 1,i,l=>if (vY msg i).2.2 = 0 then (if (vY msg i).2.1 > e then none else EL msg e n (vY msg i).2.1 (l ++ [(vY msg i).1])) else none
theorem qC (msg:ByteArray) (e:Int) (hm:msg.size ≤ 100000):∀ (n:Nat) (i:Int) (l:List ByteArray) (R:List ByteArray × Int),EL msg e n i l = some R → i ≤ e → i ≤ R.2 ∧ R.2 ≤ e ∧ R.1.length = l.length + n ∧ (∃ l',R.1 = l ++ l' ∧ ∀ x ∈ l',jT x = true)
 | 0,i,l,R,h,hi=>by cases h;exact ⟨Int.le_refl _,hi,rfl,[],by simp,by simp⟩
 | n + 1,i,l,R,h,hi=>by
  rw [EL] at h
  by_cases h0:(vY msg i).2.2 = 0
  ·rw [if_pos h0] at h
   by_cases h1:(vY msg i).2.1 > e
   ·rw [if_pos h1] at h;cases h
   ·rw [if_neg h1] at h
    obtain ⟨a1,a2,a3,l',a4,a5⟩:=qC msg e hm n _ _ R h (by omega)
    rcases um msg i hm with ⟨_,b2,_,b4,_⟩ | ⟨b1,_⟩
    ·refine ⟨by omega,a2,by rw [a3,List.length_append,List.length_singleton];omega,(vY msg i).1 :: l',by rw [a4];simp,?_⟩
     intro x hx
     rcases List.mem_cons.mp hx with rfl | hx
     ·exact b2
     ·exact a5 x hx
    ·omega
  ·rw [if_neg h0] at h;cases h
def K0 : Nat:=101000
theorem qD {msg:ByteArray} {i:Int} {k:Nat} (hm:msg.size ≤ 100000) (hi:i ≤ (msg.size:Int)) (hk:K0 ≤ k):rounds i ≤ k:=by unfold rounds;unfold K0 at hk;omega
theorem CO (msg:ByteArray) (e s0 s1 s2:Int) (a b:ByteArray) (hm:msg.size ≤ 100000) (he:e ≤ (msg.size:Int)) (h2:0 ≤ s2 ∧ s2 ≤ 1000) (c:Int) (hc:c ≤ 100):∀ (n k:Nat) (i x:Int) (l:List ByteArray),K0 + n ≤ k → x + n = c → 0 ≤ x → 0 ≤ i → i ≤ e → l.length + n ≤ 1000 →
  bS.l0 (k + 1) msg i e c x s0 s1 s2 a b l = (match EL msg e n i l with
   | some R=>some (a,msg.extract R.2.toNat e.toNat,R.1,(((msg.extract R.2.toNat e.toNat).size:Int) == s2))
   | none=>some (⟨#[]⟩,⟨#[]⟩,[],false))
 | 0,k,i,x,l,hk,hx,hx0,hi,hie,hl=>by
  rw [bS.l0,if_neg (by omega),if_pos hi,if_pos hie,if_pos he,EL]
 | n + 1,k,i,x,l,hk,hx,hx0,hi,hie,hl=>by
  obtain ⟨k,rfl⟩:∃ m,k = m + 1:=⟨k - 1,by omega⟩
  rw [bS.l0,if_pos (by omega),TJ (k + 1) msg i hm (qD hm (by omega) (by omega)),EL]
  simp only [Option.bind_some]
  by_cases h0:(vY msg i).2.2 = 0
  ·rw [if_pos h0,if_pos h0]
   by_cases h1:(vY msg i).2.1 > e
   ·rw [if_pos h1,if_pos h1]
   ·rcases um msg i hm with ⟨_,_,_,b4,_⟩ | ⟨b1,_⟩
    ·rw [if_neg h1,if_neg h1,if_pos (by omega),dW (by omega) (by omega)]
     exact CO msg e s0 s1 s2 a b hm he h2 c hc n k _ (x + 1) _ (by omega) (by omega) (by omega) (by omega) (by omega) (by rw [List.length_append,List.length_singleton];omega)
    ·omega
  ·rw [if_neg h0,if_neg h0]
def NR (s:ByteArray):Nat → Int → Bool
 | 0,_=>false
 | k + 1,i=>if i < (s.size:Int) then NR s k (i + 1 + bt s i) else decide (i = s.size)
def Gv (s:ByteArray):Bool:=decide (0 < s.size) && NR s (s.size + 1) 0
theorem Wv (s:ByteArray) {k:Nat} {i:Int} (h:(s.size:Int) < i):NR s k i = false:=by
 cases k with
 | zero=>rfl
 | succ k=>rw [NR,if_neg (by omega)];simp;omega
theorem NS (s:ByteArray) (hs:s.size ≤ 100000) (d:Nat):∀ (k m:Nat) (i:Int),0 ≤ i → i ≤ (s.size:Int) → s.size - i.toNat ≤ d → d + 1 ≤ k → d + 1 ≤ m → dI.l0 k (s.extract i.toNat s.size) = some (NR s m i):=by
 induction d with
 | zero =>
  intro k m i h0 h1 h2 hk hm
  obtain ⟨k,rfl⟩:∃ j,k = j + 1:=⟨k - 1,by omega⟩
  obtain ⟨m,rfl⟩:∃ j,m = j + 1:=⟨m - 1,by omega⟩
  rw [dI.l0,if_pos (toList_nil.mpr (by rw [ByteArray.size_extract];omega)),NR,if_neg (by omega),decide_eq_true (by omega)]
 | succ d ih =>
  intro k m i h0 h1 h2 hk hm
  obtain ⟨k,rfl⟩:∃ j,k = j + 1:=⟨k - 1,by omega⟩
  obtain ⟨m,rfl⟩:∃ j,m = j + 1:=⟨m - 1,by omega⟩
  have hz:(s.extract i.toNat s.size).size = s.size - i.toNat:=by rw [ByteArray.size_extract];omega
  by_cases hi:i < (s.size:Int)
  ·have hb:bt (s.extract i.toNat s.size) 0 = bt s i:=by
    rw [mK (by omega) (by omega)];congr 1;omega
   have hr:=gD s i
   rw [dI.l0,if_neg (by rw [toList_nil];omega),if_pos (by omega),hb,dW (n:=bt s i) (by omega) (by omega),dW (n:=1 + bt s i) (by omega) (by omega),NR,if_pos hi]
   by_cases h3:1 + bt s i > ((s.extract i.toNat s.size).size:Int)
   ·rw [if_pos h3,Wv s (by omega)]
   ·rw [if_neg h3,if_pos (by omega),if_pos (by omega)]
    have e:(s.extract i.toNat s.size).extract (1 + bt s i).toNat (s.extract i.toNat s.size).size = s.extract (i + 1 + bt s i).toNat s.size:=by
     rw [ByteArray.extract_extract,hz]
     congr 1 <;> omega
    rw [e]
    exact ih k m _ (by omega) (by omega) (by omega) (by omega) (by omega)
  ·rw [dI.l0,if_pos (toList_nil.mpr (by omega)),NR,if_neg hi,decide_eq_true (by omega)]
theorem NT (k:Nat) (hk:K0 ≤ k) (s:ByteArray) (hs:s.size ≤ 100000):dI.f k s = some (Gv s):=by
 unfold dI.f Gv
 by_cases h:s.toList = ([]:List UInt8)
 ·rw [if_pos h];rw [toList_nil] at h;rw [h];rfl
 ·rw [if_neg h]
  rw [toList_nil] at h
  unfold K0 at hk
  have:=NS s hs s.size k (s.size + 1) 0 (by omega) (by omega) (by omega) (by omega) (by omega)
  rw [show (0:Int).toNat = 0 from rfl,ByteArray.extract_zero_size] at this
  rw [this,decide_eq_true (by omega),Bool.true_and]
theorem CP (s:ByteArray) (hs:s.size ≤ 100000) (d:Nat):∀ (k m:Nat) (i:Int),0 ≤ i → (i:Int) ≤ s.size + 300 → 0 < i ∨ 0 < s.size → s.size - i.toNat ≤ d → d + 1 ≤ k → d + 1 ≤ m → bn.l0 k s i = some (NR s m i):=by
 induction d with
 | zero =>
  intro k m i h0 h1 hp h2 hk hm
  obtain ⟨k,rfl⟩:∃ j,k = j + 1:=⟨k - 1,by omega⟩
  obtain ⟨m,rfl⟩:∃ j,m = j + 1:=⟨m - 1,by omega⟩
  have hlt:¬ i < (s.size:Int):=by omega
  rw [bn.l0,if_neg hlt,NR,if_neg hlt]
  by_cases h:i = (s.size:Int)
  ·rw [if_pos h,decide_eq_true (by omega),decide_eq_true h]
  ·rw [if_neg h,decide_eq_false h]
 | succ d ih =>
  intro k m i h0 h1 hp h2 hk hm
  obtain ⟨k,rfl⟩:∃ j,k = j + 1:=⟨k - 1,by omega⟩
  obtain ⟨m,rfl⟩:∃ j,m = j + 1:=⟨m - 1,by omega⟩
  have hr:=gD s i
  rw [bn.l0,NR]
  by_cases hi:i < (s.size:Int)
  ·rw [if_pos hi,if_pos hi,if_pos h0,dW (n:=bt s i) (by omega) (by omega),dW (n:=i + 1) (by omega) (by omega),dW (by omega) (by omega)]
   exact ih k m _ (by omega) (by omega) (by omega) (by omega) (by omega) (by omega)
  ·rw [if_neg hi,if_neg hi]
   by_cases h:i = (s.size:Int)
   ·rw [if_pos h,decide_eq_true (by omega),decide_eq_true h]
   ·rw [if_neg h,decide_eq_false h]
theorem CQ (k:Nat) (hk:K0 ≤ k) (s:ByteArray) (hs:s.size ≤ 100000):bn.f k s = some (Gv s):=by
 unfold bn.f Gv
 unfold K0 at hk
 by_cases h:0 < s.size
 ·rw [CP s hs s.size k (s.size + 1) 0 (by omega) (by omega) (by omega) (by omega) (by omega) (by omega),decide_eq_true h,Bool.true_and]
 ·obtain ⟨k,rfl⟩:∃ j,k = j + 1:=⟨k - 1,by omega⟩
  rw [bn.l0,if_neg (by omega),if_pos (by omega),decide_eq_false h];rfl
end Go.Proofs.Ytfokaoeinpnagaa.ZQ
namespace Go.Proofs.Ytfokaoeinpnagaa.ZQ
open Go.RowKit Go.Proofs.YtfokaoeinpnagaaW.bD Go.Proofs.YtfokaoeinpnagaaW.dJ Go.Proofs.YtfokaoeinpnagaaW.eG Go.Proofs.Ytfokaoeinpnagaa.B
theorem Gw (l m:List ByteArray):strings_Join.cat (l ++ m) = strings_Join.cat l ++ strings_Join.cat m:=by
 induction l with
 | nil=>exact (empty_append _).symm
 | cons x l ih=>rw [List.cons_append,strings_Join.cat,ih,strings_Join.cat,ByteArray.append_assoc]
theorem RB (x:ByteArray):strings_Join.cat [x] = x:=append_empty x
theorem uo {n:ByteArray} (h:jT n = true):n.size ≤ 255:=by
 obtain ⟨l,_,_,hz⟩:=Ig.mp h;exact hz
theorem zi : ∀ {l:List ByteArray},(∀ x ∈ l,jT x = true) → (strings_Join.cat l).size ≤ 255 * l.length
 | [],_=>Nat.zero_le _
 | x :: l,h=>by
  have h1:=uo (h x (by simp))
  have h2:=zi (l:=l) (fun y hy=>h y (by simp [hy]))
  rw [strings_Join.cat,ByteArray.size_append,List.length_cons]
  omega
def zk (d:ByteArray):ByteArray × Int:=if (d.size:Int) > 65535 then (⟨#[]⟩,4) else (d,0)
theorem vE (d:ByteArray):(if (d.size:Int) > 65535 then some ((⟨#[]⟩:ByteArray),(4:Int)) else some (d,0)) = some (zk d):=by
 unfold zk;split <;> rfl
def J9 (msg:ByteArray) (i size:Int) (s:Int × Int × Int):ByteArray × Int :=
 if s.1 ≤ size then (match EL msg (i + size) s.2.1.toNat (i + s.1) [] with
  | some R=>if R.2 + s.2.2 = i + size then zk (msg.extract i.toNat (i + s.1).toNat ++ strings_Join.cat R.1 ++ msg.extract R.2.toNat (i + size).toNat) else (⟨#[]⟩,4)
  | none=>(⟨#[]⟩,4)) else (⟨#[]⟩,4)
def zV (msg:ByteArray) (i size kind:Int):ByteArray × Int :=
 if gX msg i size then (match aC.zy kind with
  | some s=>J9 msg i size s
  | none=>if kind = 16 then (if Gv (msg.extract i.toNat (i + size).toNat) = true then zk (msg.extract i.toNat (i + size).toNat) else (⟨#[]⟩,4)) else zk (msg.extract i.toNat (i + size).toNat))
 else (⟨#[]⟩,2)
theorem mg {kind:Int} {s:Int × Int × Int} (h:aC.zy kind = some s):0 ≤ s.1 ∧ s.1 ≤ 16 ∧ 0 ≤ s.2.1 ∧ s.2.1 ≤ 2 ∧ 0 ≤ s.2.2 ∧ s.2.2 ≤ 20 ∧ kind ≠ 16 ∧ (s.1 = 0 → s.2.1 = 0 → False):=by
 unfold aC.zy at h
 repeat' split at h
 all_goals (first | (cases h;subst_vars;decide) | cases h)
theorem Ww (k:Nat) (hk:K0 ≤ k) (kind:Int) (hkind:kind ≠ 16) (d:ByteArray):aC.fin k kind d true = some (zk d):=by
 unfold aC.fin
 rw [if_pos rfl,if_neg hkind,vE]
theorem vF (k:Nat) (kind:Int) (d:ByteArray):aC.fin k kind d false = some (⟨#[]⟩,4):=by
 unfold aC.fin;rw [if_neg Bool.false_ne_true]
theorem AY (msg:ByteArray) (i size kind:Int) (k:Nat) (hk:K0 ≤ k) (hm:msg.size ≤ 100000) (f:ByteArray → Option Bool) (hf:∀ s,s.size ≤ 100000 → f s = some (Gv s)) (t:ByteArray) (ht:t.size ≤ 100000) :
  (if kind = 16 then ((f t).bind fun b=>if b = true then (if (t.size:Int) > 65535 then some ((⟨#[]⟩:ByteArray),(4:Int)) else some (t,0)) else some (⟨#[]⟩,4)) else (if (t.size:Int) > 65535 then some (⟨#[]⟩,4) else some (t,0))) =
   some (if kind = 16 then (if Gv t = true then zk t else (⟨#[]⟩,4)) else zk t):=by
 rw [hf t ht,vE]
 simp only [Option.bind_some]
 split
 ·split <;> rfl
 ·rfl
theorem Ka (k:Nat) (hk:K0 + 10 ≤ k) (msg:ByteArray) (i size kind:Int) (hm:msg.size ≤ 100000) (ht:gX msg i size) (s:Int × Int × Int) (hs:aC.zy kind = some s):aC.g k msg i size kind s = some (J9 msg i size s):=by
 obtain ⟨h0,h1,h2⟩:=ht
 obtain ⟨a1,a2,a3,a4,a5,a6,a7,a8⟩:=mg hs
 obtain ⟨s0,s1,s2⟩:=s
 simp only at a1 a2 a3 a4 a5 a6 a8
 have e1:wrap64 (i + size) = i + size:=dW (by omega) (by omega)
 have e2:wrap64 (i + size - i) = size:=by rw [dW (by omega) (by omega)];omega
 have e3:wrap64 (i + s0) = i + s0:=dW (by omega) (by omega)
 unfold aC.g bS.f J9
 simp only [e1,e2,e3]
 by_cases c:s0 ≤ size
 ·rw [if_pos c,if_pos c,if_pos h0,if_pos (by omega),if_pos (by omega)]
  obtain ⟨k,rfl⟩:∃ j,k = j + 1:=⟨k - 1,by omega⟩
  rw [CO msg (i + size) s0 s1 s2 _ _ hm h2 ⟨a5,by omega⟩ s1 (by omega) s1.toNat k (i + s0) 0 [] (by omega) (by omega) (Int.le_refl _) (by omega) (by omega) (by simp only [List.length_nil];omega)]
  have hz:(msg.extract i.toNat (i + s0).toNat).size ≤ 16:=by rw [ByteArray.size_extract];omega
  cases hr:EL msg (i + size) s1.toNat (i + s0) [] with
  | none =>
   simp only [Option.bind_some]
   rw [if_pos (by decide),if_pos (by decide),vF]
  | some R =>
   obtain ⟨b1,b2,b3,l',b4,b5⟩:=qC msg _ hm _ _ _ R hr (by omega)
   have hcz:=zi b5
   rw [List.nil_append] at b4
   rw [← b4] at hcz
   rw [List.length_nil,Nat.zero_add] at b3
   have hbz:(msg.extract R.2.toNat (i + size).toNat).size = (i + size - R.2).toNat:=by rw [ByteArray.size_extract];omega
   simp only [Option.bind_some]
   rw [if_pos (by omega),if_pos (by omega)]
   by_cases d:R.2 + s2 = i + size
   ·rw [if_pos d,show (((msg.extract R.2.toNat (i + size).toNat).size:Int) == s2) = true from beq_iff_eq.mpr (by omega),Ww k.succ (by omega) kind a7]
   ·rw [if_neg d,show (((msg.extract R.2.toNat (i + size).toNat).size:Int) == s2) = false from beq_eq_false_iff_ne.mpr (by omega),vF]
 ·rw [if_neg c,if_neg c]
  simp only [Option.bind_some]
  rw [if_pos (by decide),if_pos (by decide),vF]
theorem Wx (k:Nat) (hk:K0 + 10 ≤ k) (msg:ByteArray) (i size kind:Int) (hm:msg.size ≤ 100000):aC.f k msg i size kind = some (zV msg i size kind):=by
 unfold aC.f zV
 rw [ug msg i size (by omega)]
 simp only [Option.bind_some]
 by_cases ht:gX msg i size
 ·rw [if_pos ht,if_pos ht]
  simp only [if_true]
  cases hs:aC.zy kind with
  | some s=>exact Ka k hk msg i size kind hm ht s hs
  | none =>
   have hz:(msg.extract i.toNat (i + size).toNat).size ≤ 100000:=by rw [ByteArray.size_extract];omega
   have:=AY msg i size kind k (by omega) hm (dI.f k) (fun s h=>NT k (by omega) s h) _ hz
   unfold aC.fin
   rw [if_pos rfl]
   exact this
 ·rw [if_neg ht,if_neg ht];rfl
theorem uq (k:Nat) (hk:1 ≤ k) (kind:Int):aN.f k kind = some ((aC.zy kind).getD (0,0,0)):=by
 obtain ⟨k,rfl⟩:∃ j,k = j + 1:=⟨k - 1,by omega⟩
 unfold aN.f aC.zy
 simp only [aN.j0]
 by_cases h1:kind = 1
 ·subst h1;rfl
 by_cases h2:kind = 28
 ·subst h2;rfl
 by_cases h3:kind = 2
 ·subst h3;rfl
 by_cases h4:kind = 5
 ·subst h4;rfl
 by_cases h5:kind = 12
 ·subst h5;rfl
 by_cases h6:kind = 6
 ·subst h6;rfl
 by_cases h7:kind = 15
 ·subst h7;rfl
 by_cases h8:kind = 33
 ·subst h8;rfl
 simp [h1,h2,h3,h4,h5,h6,h7,h8]
theorem EM (msg:ByteArray) (i size s0 s1 s2:Int) (hm:msg.size ≤ 100000) (ht:gX msg i size) (h2:0 ≤ s2 ∧ s2 ≤ 1000) (hs:s1 ≤ 100):∀ (n k:Nat) (j x:Int) (out:ByteArray),K0 + n ≤ k → x + n = s1 → 0 ≤ x → i + size < j → j ≤ (msg.size:Int) → out.size + 300 * n ≤ 1000000 →
  aV.l0 (k + 1) msg i size out j x s0 s1 s2 = some (⟨#[]⟩,4)
 | 0,k,j,x,out,hk,hx,hx0,hj,hjm,ho=>by
  obtain ⟨t0,t1,t2⟩:=ht
  rw [aV.l0,if_neg (by omega),dW (n:=j + s2) (by omega) (by omega),dW (n:=i + size) (by omega) (by omega),if_neg (by omega)]
 | n + 1,k,j,x,out,hk,hx,hx0,hj,hjm,ho=>by
  obtain ⟨k,rfl⟩:∃ m,k = m + 1:=⟨k - 1,by omega⟩
  rw [aV.l0,if_pos (by omega),vD (k + 1) msg j hm (qD hm (by omega) (by omega))]
  simp only [Option.bind_some]
  rcases um msg j hm with ⟨b1,b2,_,b4,b5⟩ | ⟨b1,_⟩
  ·have hz:=uo b2
   rw [if_pos b1,if_pos (by omega),dW (n:=x + 1) (by omega) (by omega)]
   exact EM msg i size s0 s1 s2 hm ht h2 hs n k _ _ _ (by omega) (by omega) (by omega) (by omega) b5 (by rw [ByteArray.size_append];omega)
  ·rw [if_neg (by omega)]
theorem NU (msg:ByteArray) (i size s0 s1 s2:Int) (a:ByteArray) (hm:msg.size ≤ 100000) (ht:gX msg i size) (h2:0 ≤ s2 ∧ s2 ≤ 1000) (hs:s1 ≤ 100):∀ (n k:Nat) (j x:Int) (l:List ByteArray),K0 + n ≤ k → x + n = s1 → 0 ≤ x → 0 ≤ j → j ≤ i + size → (a ++ strings_Join.cat l).size + 300 * n ≤ 800000 →
  aV.l0 (k + 1) msg i size (a ++ strings_Join.cat l) j x s0 s1 s2 = some (match EL msg (i + size) n j l with
   | some R=>if R.2 + s2 = i + size then zk (a ++ strings_Join.cat R.1 ++ msg.extract R.2.toNat (i + size).toNat) else (⟨#[]⟩,4)
   | none=>(⟨#[]⟩,4))
 | 0,k,j,x,l,hk,hx,hx0,hj0,hj,ho=>by
  obtain ⟨t0,t1,t2⟩:=ht
  rw [aV.l0,if_neg (by omega),dW (n:=j + s2) (by omega) (by omega),dW (n:=i + size) (by omega) (by omega),EL]
  simp only
  by_cases c:j + s2 = i + size
  ·have hz:(msg.extract j.toNat (i + size).toNat).size ≤ 100000:=by rw [ByteArray.size_extract];omega
   rw [if_pos c,if_pos c,if_pos hj0,if_pos hj,if_pos t2,if_pos (by omega),vE]
  ·rw [if_neg c,if_neg c]
 | n + 1,k,j,x,l,hk,hx,hx0,hj0,hj,ho=>by
  have ht0:=ht
  obtain ⟨t0,t1,t2⟩:=ht
  obtain ⟨k,rfl⟩:∃ m,k = m + 1:=⟨k - 1,by omega⟩
  rw [aV.l0,if_pos (by omega),vD (k + 1) msg j hm (qD hm (by omega) (by omega)),EL]
  simp only [Option.bind_some]
  rcases um msg j hm with ⟨b1,b2,_,b4,b5⟩ | ⟨b1,_⟩
  ·have hz:=uo b2
   rw [if_pos b1,if_pos b1,if_pos (by omega),dW (n:=x + 1) (by omega) (by omega)]
   by_cases c:(vY msg j).2.1 > i + size
   ·rw [if_pos c]
    exact EM msg i size s0 s1 s2 hm ht0 h2 hs n k _ _ _ (by omega) (by omega) (by omega) (by omega) b5 (by rw [ByteArray.size_append];omega)
   ·rw [if_neg c]
    have e:a ++ strings_Join.cat l ++ (vY msg j).1 = a ++ strings_Join.cat (l ++ [(vY msg j).1]):=by rw [Gw,RB,ByteArray.append_assoc]
    rw [e]
    exact NU msg i size s0 s1 s2 a hm ht0 h2 hs n k _ _ _ (by omega) (by omega) (by omega) (by omega) (by omega) (by rw [← e,ByteArray.size_append];omega)
  ·rw [if_neg (by omega),if_neg (by omega)]
theorem Gx (k:Nat) (hk:K0 + 10 ≤ k) (msg:ByteArray) (i size kind:Int) (hm:msg.size ≤ 100000):aV.f k msg i size kind = some (zV msg i size kind):=by
 unfold aV.f zV
 rw [pU msg i size (by omega),uq k (by omega)]
 simp only [Option.bind_some]
 by_cases ht:gX msg i size
 ·rw [if_pos ht,if_pos ht]
  simp only [if_true]
  obtain ⟨t0,t1,t2⟩:=ht
  have hz:(msg.extract i.toNat (i + size).toNat).size = size.toNat:=by rw [ByteArray.size_extract];omega
  cases hs:aC.zy kind with
  | none =>
   simp only [Option.getD_none]
   rw [if_pos (by decide)]
   exact AY msg i size kind k (by omega) hm (bn.f k) (fun s h=>CQ k (by omega) s h) _ (by omega)
  | some s =>
   obtain ⟨a1,a2,a3,a4,a5,a6,a7,a8⟩:=mg hs
   obtain ⟨s0,s1,s2⟩:=s
   simp only at a1 a2 a3 a4 a5 a6 a8
   simp only [Option.getD_some]
   have main:(if s0 > size then some ((⟨#[]⟩:ByteArray),(4:Int)) else (if 0 ≤ s0 then (if s0 ≤ ((msg.extract i.toNat (i + size).toNat).size:Int) then (aV.l0 k msg i size ((msg.extract i.toNat (i + size).toNat).extract 0 (s0:Int).toNat) (wrap64 (i + s0)) 0 s0 s1 s2) else none) else none)) = some (J9 msg i size (s0,s1,s2)):=by
    unfold J9
    simp only
    by_cases c:s0 > size
    ·rw [if_pos c,if_neg (by omega)]
    ·rw [if_neg c,if_pos a1,if_pos (by omega),if_pos (by omega),dW (by omega) (by omega)]
     obtain ⟨k,rfl⟩:∃ j,k = j + 1:=⟨k - 1,by omega⟩
     have e:(msg.extract i.toNat (i + size).toNat).extract 0 s0.toNat = msg.extract i.toNat (i + s0).toNat:=by
      rw [ByteArray.extract_extract];congr 1 <;> omega
     have hz2:(msg.extract i.toNat (i + s0).toNat).size ≤ 16:=by rw [ByteArray.size_extract];omega
     have h:=NU msg i size s0 s1 s2 (msg.extract i.toNat (i + s0).toNat) hm ⟨t0,t1,t2⟩ ⟨a5,by omega⟩ (by omega) s1.toNat k (i + s0) 0 [] (by omega) (by omega) (Int.le_refl _) (by omega) (by omega) (by simp only [strings_Join.cat,append_empty];omega)
     simp only [strings_Join.cat,append_empty] at h
     rw [e,h]
   have hne:¬ ((s0 == 0 && (s1 == 0 && (s2 == 0))) = true):=by
    intro h
    simp only [Bool.and_eq_true,beq_iff_eq] at h
    exact a8 h.1 h.2.1
   rw [if_neg hne]
   exact main
 ·rw [if_neg ht,if_neg ht];rfl
end Go.Proofs.Ytfokaoeinpnagaa.ZQ
namespace Go.Proofs.Ytfokaoeinpnagaa.ZQ
open Go.RowKit Go.Proofs.YtfokaoeinpnagaaW.bD Go.Proofs.YtfokaoeinpnagaaW.dJ Go.Proofs.YtfokaoeinpnagaaW.eG Go.Proofs.Ytfokaoeinpnagaa.B
def zx (kind:Int) (d:ByteArray):Bool:=decide (d.size ≤ 65535) && (decide ((zV d 0 d.size kind).2 = 0) && decide ((zV d 0 d.size kind).1 = d))
theorem wW {kind:Int} {d:ByteArray}:zx kind d = true ↔ d.size ≤ 65535 ∧ zV d 0 d.size kind = (d,0):=by
 unfold zx
 simp only [Bool.and_eq_true,decide_eq_true_eq]
 constructor
 ·rintro ⟨h1,h2,h3⟩;exact ⟨h1,Prod.ext h3 h2⟩
 ·rintro ⟨h1,h2⟩;rw [h2];exact ⟨h1,rfl,rfl⟩
theorem AZ (k:Nat) (hk:K0 + 10 ≤ k) (kind:Int) (d:ByteArray):iV.f k kind d = some (zx kind d):=by
 unfold iV.f zx
 by_cases h:(d.size:Int) > 65535
 ·rw [if_pos h,decide_eq_false (by omega)];rfl
 ·rw [if_neg h,Wx k hk d 0 _ kind (by omega),decide_eq_true (by omega),Bool.true_and]
  simp only [Option.bind_some]
  by_cases h0:(zV d 0 d.size kind).2 = 0
  ·rw [if_pos h0,decide_eq_true h0,y5,Bool.true_and]
  ·rw [if_neg h0,decide_eq_false h0,Bool.false_and]
theorem qZ (k:Nat) (hk:K0 + 10 ≤ k) (kind:Int) (d:ByteArray):dB.f k kind d = some (zx kind d):=by
 unfold dB.f zx
 by_cases h:(d.size:Int) > 65535
 ·rw [if_pos h,decide_eq_false (by omega)];rfl
 ·rw [if_neg h,Gx k hk d 0 _ kind (by omega),decide_eq_true (by omega),Bool.true_and]
  simp only [Option.bind_some]
  by_cases h0:(zV d 0 d.size kind).2 = 0
  ·rw [if_pos h0,decide_eq_true h0,y5,Bool.true_and]
  ·rw [if_neg h0,decide_eq_false h0,Bool.false_and]
theorem Gy (d:ByteArray):gX d 0 d.size:=⟨Int.le_refl _,by omega,by omega⟩
theorem Ke {x d:ByteArray} (h:zk x = (d,0)):x = d ∧ x.size ≤ 65535:=by
 unfold zk at h
 split at h
 ·have:=congrArg Prod.snd h;cases this
 ·exact ⟨congrArg Prod.fst h,by omega⟩
theorem uw {kind:Int} {d:ByteArray} {s:Int × Int × Int} (h:zx kind d = true) (hs:aC.zy kind = some s) :
  ∃ R,s.1 ≤ (d.size:Int) ∧ EL d d.size s.2.1.toNat s.1 [] = some R ∧ R.2 + s.2.2 = d.size ∧ d = d.extract 0 s.1.toNat ++ strings_Join.cat R.1 ++ d.extract R.2.toNat d.size ∧ s.1 ≤ R.2 ∧ R.2 ≤ (d.size:Int) ∧ R.1.length = s.2.1.toNat ∧ (∀ x ∈ R.1,jT x = true) ∧ R.2 = s.1 + (strings_Join.cat R.1).size:=by
 obtain ⟨h0,h1⟩:=wW.mp h
 unfold zV J9 at h1
 rw [if_pos (Gy d),hs] at h1
 simp only [Int.zero_add,Int.toNat_natCast] at h1
 obtain ⟨a1,a2,a3,a4,a5,a6,a7,a8⟩:=mg hs
 by_cases c:s.1 ≤ (d.size:Int)
 ·rw [if_pos c] at h1
  cases hr:EL d d.size s.2.1.toNat s.1 [] with
  | none=>rw [hr] at h1;have:=congrArg Prod.snd h1;cases this
  | some R =>
   rw [hr] at h1
   simp only at h1
   by_cases e:R.2 + s.2.2 = d.size
   ·rw [if_pos e] at h1
    obtain ⟨h2,_⟩:=Ke h1
    obtain ⟨b1,b2,b3,l',b4,b5⟩:=qC d _ (by omega) _ _ _ R hr c
    rw [List.nil_append] at b4
    rw [← b4] at b5
    have hz:=congrArg ByteArray.size h2
    simp only [ByteArray.size_append,ByteArray.size_extract] at hz
    refine ⟨R,c,rfl,e,h2.symm,b1,b2,by rw [b3];simp,b5,?_⟩
    simp only [show (0:Int).toNat = 0 from rfl] at hz
    omega
   ·rw [if_neg e] at h1;have:=congrArg Prod.snd h1;cases this
 ·rw [if_neg c] at h1;have:=congrArg Prod.snd h1;cases this
def prt (kind:Int) (d:ByteArray):ByteArray × ByteArray × List ByteArray × Bool :=
 if zx kind d = true then (match aC.zy kind with
  | some s=>(match EL d d.size s.2.1.toNat s.1 [] with
   | some R=>(d.extract 0 s.1.toNat,d.extract R.2.toNat d.size,R.1,true)
   | none=>(⟨#[]⟩,⟨#[]⟩,[],false))
  | none=>(d,⟨#[]⟩,[],true)) else (⟨#[]⟩,⟨#[]⟩,[],false)
theorem wL (k:Nat) (hk:K0 + 20 ≤ k) (d:ByteArray) (hd:d.size ≤ 65535) (s0 s1 s2:Int) (a1:0 ≤ s0) (a3:0 ≤ s1) (a4:s1 ≤ 2) (a5:0 ≤ s2) (a6:s2 ≤ 20) (R:List ByteArray × Int) (c1:s0 ≤ (d.size:Int)) (c2:EL d d.size s1.toNat s0 [] = some R) (c3:R.2 + s2 = d.size) :
  bS.f k d 0 (d.size:Int) s0 s1 s2 = some (d.extract 0 s0.toNat,d.extract R.2.toNat d.size,R.1,true):=by
 unfold bS.f
 have e2:wrap64 ((d.size:Int) - 0) = d.size:=by rw [dW (by omega) (by omega)];omega
 have e3:wrap64 (0 + s0) = s0:=by rw [dW (by omega) (by omega)];omega
 obtain ⟨b1,b2,_⟩:=qC d _ (by omega) _ _ _ R c2 c1
 have hz:((d.extract R.2.toNat d.size).size:Int) = s2:=by rw [ByteArray.size_extract];omega
 obtain ⟨k,rfl⟩:∃ j,k = j + 1:=⟨k - 1,by omega⟩
 have h:=CO d d.size s0 s1 s2 (d.extract 0 s0.toNat) ⟨#[]⟩ (by omega) (Int.le_refl _) ⟨a5,by omega⟩ s1 (by omega) s1.toNat k s0 0 [] (by omega) (by omega) (Int.le_refl _) a1 c1 (by simp only [List.length_nil];omega)
 rw [c2] at h
 simp only [Int.toNat_natCast] at h
 rw [show (((d.extract R.2.toNat d.size).size:Int) == s2) = true from beq_iff_eq.mpr hz] at h
 rw [e2,if_pos c1,if_pos (Int.le_refl _),e3,if_pos a1,if_pos c1]
 exact h
theorem A8 (k:Nat) (hk:K0 + 20 ≤ k) (kind:Int) (d:ByteArray):bW.f k kind d = some (prt kind d):=by
 unfold bW.f prt
 rw [AZ k (by omega)]
 simp only [Option.bind_some]
 by_cases h:zx kind d = true
 ·rw [if_pos h,if_pos h]
  cases hs:aC.zy kind with
  | none=>rfl
  | some s =>
   obtain ⟨R,c1,c2,c3,c4,c5,c6,c7,c8,c9⟩:=uw h hs
   obtain ⟨a1,a2,a3,a4,a5,a6,a7,a8⟩:=mg hs
   obtain ⟨h0,_⟩:=wW.mp h
   obtain ⟨s0,s1,s2⟩:=s
   simp only at a1 a2 a3 a4 a5 a6 c1 c2 c3 c5
   simp only [c2]
   exact wL k hk d h0 s0 s1 s2 a1 a3 a4 a5 a6 R c1 c2 c3
 ·rw [if_neg h,if_neg h]
theorem NV (k:Nat) (hk:K0 + 20 ≤ k) (kind:Int) (d:ByteArray):mR.f k kind d = some (prt kind d).2.2.1:=by
 unfold mR.f;rw [A8 k hk];rfl
theorem Kg {kind:Int} {d:ByteArray}:(∀ x ∈ (prt kind d).2.2.1,jT x = true) ∧ (prt kind d).2.2.1.length ≤ 2:=by
 unfold prt
 by_cases h:zx kind d = true
 ·rw [if_pos h]
  cases hs:aC.zy kind with
  | none=>exact ⟨by simp,by simp⟩
  | some s =>
   obtain ⟨R,c1,c2,c3,c4,c5,c6,c7,c8,c9⟩:=uw h hs
   obtain ⟨a1,a2,a3,a4,a5,a6,a7,a8⟩:=mg hs
   simp only [c2]
   exact ⟨c8,by omega⟩
 ·rw [if_neg h];exact ⟨by simp,by simp⟩
theorem vZ (k:Nat) (hk:600 ≤ k) (n:ByteArray) (hs:n.size ≤ 1000000000):mO.f k n = some (if jT n = true then qG n else ⟨#[]⟩):=by
 unfold mO.f
 rw [Eu k hk n hs,V5 n hs]
 simp only [Option.bind_some]
 split <;> rfl
theorem Gz (k:Nat) (hk:600 ≤ k) (n:ByteArray) (hs:n.size ≤ 1000000000):gM.f k n = some (if jT n = true then qG n else ⟨#[]⟩):=by
 unfold gM.f
 rw [tZ k hk n hs,Ns n hs]
 simp only [Option.bind_some]
 split <;> rfl
theorem all_eq (k:Nat) (hk:600 ≤ k):∀ l:List ByteArray,(∀ x ∈ l,jT x = true) → eD.all k l = some (l.map qG)
 | [],_=>rfl
 | x :: l,h=>by
  have hx:=h x (by simp)
  have hz:=uo hx
  rw [eD.all,vZ k hk x (by omega),if_pos hx]
  simp only [Option.bind_some]
  rw [all_eq k hk l (fun y hy=>h y (by simp [hy]))]
  rfl
theorem uy : ∀ l:List ByteArray,(strings_Join.cat (l.map qG)).size = (strings_Join.cat l).size
 | []=>rfl
 | x :: l=>by rw [List.map_cons,strings_Join.cat,strings_Join.cat,ByteArray.size_append,ByteArray.size_append,J5,uy l]
def lw (kind:Int) (d:ByteArray):ByteArray:=(prt kind d).1 ++ strings_Join.cat ((prt kind d).2.2.1.map qG) ++ (prt kind d).2.1
theorem Kh {kind:Int} {d:ByteArray}:(prt kind d).1.size ≤ 65535 ∧ (prt kind d).2.1.size ≤ 65535:=by
 unfold prt
 by_cases h:zx kind d = true
 ·obtain ⟨h0,_⟩:=wW.mp h
  rw [if_pos h]
  cases hs:aC.zy kind with
  | none=>exact ⟨h0,by show (⟨#[]⟩:ByteArray).size ≤ 65535;decide⟩
  | some s =>
   obtain ⟨R,c1,c2,_⟩:=uw h hs
   simp only [c2]
   simp only [ByteArray.size_extract]
   omega
 ·rw [if_neg h];exact ⟨by decide,by decide⟩
theorem RD (k:Nat) (hk:K0 + 20 ≤ k) (kind:Int) (d:ByteArray):eD.f k kind d = some (lw kind d):=by
 obtain ⟨p1,p2⟩:=@Kg kind d
 obtain ⟨p3,p4⟩:=@Kh kind d
 have hcz:=zi p1
 unfold eD.f
 rw [A8 k hk]
 simp only [Option.bind_some]
 rw [all_eq k (by unfold K0 at hk;omega) _ p1]
 simp only [Option.bind_some]
 unfold eD.fin lw
 rw [if_pos (by rw [uy];omega),if_pos (by rw [List.length_map];omega)]
theorem uz (d:ByteArray) (e s0 s1 s2:Int) (hm:d.size ≤ 100000) (he:e ≤ (d.size:Int)) (hs:s1 ≤ 100):∀ (n k:Nat) (l:List ByteArray) (i x:Int) (R:List ByteArray × Int),K0 + n ≤ k → x + n = s1 → 0 ≤ x → i ≤ e → l.length + n ≤ 1000 → EL d e n i l = some R →
  bC.l0 (k + 1) d l i x s0 s1 s2 = some R.1
 | 0,k,l,i,x,R,hk,hx,hx0,hi,hl,h=>by
  cases h
  rw [bC.l0,if_neg (by omega)]
 | n + 1,k,l,i,x,R,hk,hx,hx0,hi,hl,h=>by
  obtain ⟨k,rfl⟩:∃ m,k = m + 1:=⟨k - 1,by omega⟩
  rw [EL] at h
  rw [bC.l0,if_pos (by omega),vD (k + 1) d i hm (qD hm (by omega) (by omega))]
  simp only [Option.bind_some]
  by_cases h0:(vY d i).2.2 = 0
  ·rw [if_pos h0] at h
   by_cases h1:(vY d i).2.1 > e
   ·rw [if_pos h1] at h;cases h
   ·rw [if_neg h1] at h
    rw [if_pos (by omega),dW (by omega) (by omega)]
    exact uz d e s0 s1 s2 hm he hs n k _ _ _ R (by omega) (by omega) (by omega) (by omega) (by rw [List.length_append,List.length_singleton];omega) h
  ·rw [if_neg h0] at h;cases h
theorem CS (k:Nat) (hk:K0 + 20 ≤ k) (kind:Int) (d:ByteArray):bC.f k kind d = some (prt kind d).2.2.1:=by
 unfold bC.f prt
 rw [qZ k (by omega),uq k (by omega)]
 simp only [Option.bind_some]
 obtain ⟨k,rfl⟩:∃ j,k = j + 1:=⟨k - 1,by omega⟩
 by_cases h:zx kind d = true
 ·rw [if_pos h,if_pos h]
  obtain ⟨h0,_⟩:=wW.mp h
  cases hs:aC.zy kind with
  | none =>
   rw [Option.getD_none,bC.l0,if_neg (by decide)]
  | some s =>
   obtain ⟨R,c1,c2,c3,c4,c5,c6,c7,c8,c9⟩:=uw h hs
   obtain ⟨a1,a2,a3,a4,a5,a6,a7,a8⟩:=mg hs
   simp only [c2,Option.getD_some]
   exact uz d d.size _ _ _ (by omega) (Int.le_refl _) (by omega) s.2.1.toNat k [] s.1 0 R (by omega) (by omega) (Int.le_refl _) c1 (by simp only [List.length_nil];omega) c2
 ·rw [if_neg h,if_neg h]
end Go.Proofs.Ytfokaoeinpnagaa.ZQ
namespace Go.Proofs.Ytfokaoeinpnagaa.Kc
open Go Go.RowKit Ev
open Go.Proofs.YtfokaoeinpnagaaW.bD in
theorem zl {Fz:Nat → Prop} {w:World}:∀ {r:List ByteArray} {inner:List Value},(inner.length = r.length * 1 ∧ ∀ j p,r[j]? = some p → (inner.drop (j * 1)).take 1 = [.string p]) → dZ Fz w 1 (r.map fC) inner
 | [],inner,h=>by
  show inner = []
  exact List.eq_nil_of_length_eq_zero (by simpa using h.1)
 | x :: r,inner,h=>by
  have h0:=h.2 0 x rfl
  rw [Nat.zero_mul,List.drop_zero] at h0
  refine ⟨rfl,by rw [h0];exact ⟨rfl,trivial⟩,zl ⟨by have:=h.1;simp at this ⊢;omega,fun j p hj=>?_⟩⟩
  have:=h.2 (j + 1) p (by simpa using hj)
  rw [List.drop_drop,show 1 + j * 1 = (j + 1) * 1 from by omega]
  exact this
def gNm (g:Int → ByteArray → List ByteArray) (fK:List AV):Option (List AV × List AV):=match fK with
 | [.one (.f (.int .i64 k)),.one (.f (.str q))]=>if q.size ≤ 1000000 then some ([vl ((g k q).map fC)],fK) else none
 | _=>none
open Go.Proofs.YtfokaoeinpnagaaW.bD in
theorem I5 {f:FuncId} {g:Int → ByteArray → List ByteArray} (h:∀ k q w,q.size ≤ 1000000 → Calls Try.prog f #[.int .i64 k,.string q] w fun e w'=>∃ v:Value,e = .returned v ∧ Kd.R Kd.string 9 w' w.heap.size (fun _=>True) v (g k q) ∧ Below w.heap.size w w'):Sat Try.prog f (gNm g):=by
 intro fK rs rE hg Fz w vals bs ha hnd hap hfz
 unfold gNm at hg
 split at hg
 ·rename_i k q
  split at hg
  ·rename_i hq
   cases hg
   obtain ⟨e1,e2⟩:=yC (l:=[.int .i64 k,.str q]) ha
   subst e1;subst e2
   refine (h k q w hq).mono fun e w' ⟨v,he,hv,hb⟩=>?_
   subst he
   obtain ⟨-,inner,ho,hr⟩:=hv
   have hr':inner.length = (g k q).length * 1 ∧ ∀ j p,(g k q)[j]? = some p → (inner.drop (j * 1)).take 1 = [.string p]:=hr
   have hbl:∀ b ∈ Ev.oI v,w.heap.size ≤ b ∧ b < w'.heap.size:=fun b hb'=>by
    rcases ho.2 with ⟨rfl,_⟩ | ⟨y,cap,cur,rfl,hy,hh, -⟩
    ·exact absurd hb' (by simp [Ev.oI,Ev.blk])
    ·have e1:b = y:=by simpa [Ev.oI,Ev.blk] using hb'
     subst e1
     exact ⟨hy,(Array.getElem?_eq_some_iff.mp hh).1⟩
   have hsl:∃ A c,v = .slice A ((g k q).map fC).length c:=by
    rw [List.length_map]
    rcases ho.2 with ⟨rfl,hn⟩ | ⟨y,cap,cur,rfl,_⟩
    ·exact ⟨none,0,by rw [hn]⟩
    ·exact ⟨_,_,rfl⟩
   obtain ⟨A,c,hv⟩:=hsl
   have hro:jo Fz w' 1 ((g k q).map fC) v (Ev.oI v):=⟨by decide,9,inner,A,c,hv,by rw [List.length_map];exact ⟨ho.1,ho.2.imp id (fun ⟨y,cap,cur,h1,_,h3⟩=>⟨y,cap,cur,h1,Nat.zero_le _,h3⟩)⟩,zl hr',rfl⟩
   refine ⟨fun b=>Fz b ∨ (w.heap.size ≤ b ∧ b < w'.heap.size),[v],[],[],rfl,fun b h=>.inl h,fun b hb'=>?_,hb.size,fun b hb' _=>hb.block b hb',⟨hb.os,hb.output⟩,sV (l:=[.int .i64 k,.str q]),?_,by simp,fun b hb'=>by simp at hb'⟩
   ·rcases hb' with h1 | h1
    ·exact ⟨Nat.lt_of_lt_of_le (hfz b h1) hb.size,.inl h1⟩
    ·exact ⟨h1.2,.inr (.inr h1.1)⟩
   ·exact ⟨[],[],⟨hro.fz (fun b h=>.inl h) (fun b hb'=>.inr (hbl b hb')),rfl⟩,rfl,rfl⟩
  ·cases hg
 ·cases hg
end Go.Proofs.Ytfokaoeinpnagaa.Kc
set_option maxRecDepth 100000
namespace Go.Proofs.Ytfokaoeinpnagaa.Kc
open Go Go.RowKit Ev
abbrev AG := List AV → Option (List AV × List AV)
def TK (g:ByteArray → SV):AG:=fun fK=>match fK with
 | [.one (.f (.str q))]=>if q.size ≤ 1000000 then some (FX [g q],FX [.str q]) else none
 | _=>none
def Wy (g:Int → ByteArray → SV):AG:=fun fK=>match fK with
 | [.one (.f (.int .i64 k)),.one (.f (.str q))]=>if q.size ≤ 1000000 then some (FX [g k q],FX [.int .i64 k,.str q]) else none
 | _=>none
theorem wX {f:FuncId} {g:ByteArray → SV} (h:∀ q w,q.size ≤ 1000000 → Calls Try.prog f #[.string q] w fun e w'=>e = .returned (encS (g q)) ∧ Below w.heap.size w w'):Sat Try.prog f (TK g):=by
 refine Sat.wh fun fK r he=>?_
 unfold TK at he
 split at he
 ·split at he
  ·cases he;rename_i q hq;exact ⟨[.str q],[g q],rfl,rfl,fun w=>h q w hq⟩
  ·cases he
 ·cases he
theorem CU {f:FuncId} {g:Int → ByteArray → SV} (h:∀ k q w,q.size ≤ 1000000 → Calls Try.prog f #[.int .i64 k,.string q] w fun e w'=>e = .returned (encS (g k q)) ∧ Below w.heap.size w w'):Sat Try.prog f (Wy g):=by
 refine Sat.wh fun fK r he=>?_
 unfold Wy at he
 split at he
 ·split at he
  ·cases he;rename_i k q hq;exact ⟨[.int .i64 k,.str q],[g k q],rfl,rfl,fun w=>h k q w hq⟩
  ·cases he
 ·cases he
def XW (g:ByteArray → Int → Int → Int × Bool):AG:=fun fK=>match fK with
 | [.one (.f (.str q)),.one (.f (.int .i64 a)),.one (.f (.int .i64 z))]=>if q.size ≤ 1000000 then some (FX [.int .i64 (g q a z).1,.bool (g q a z).2],FX [.str q,.int .i64 a,.int .i64 z]) else none
 | _=>none
theorem I6 {f:FuncId} {g:ByteArray → Int → Int → Int × Bool} (h:∀ q a z w,q.size ≤ 1000000 → Calls Try.prog f #[.string q,.int .i64 a,.int .i64 z] w fun e w'=>e = .returned (.tuple #[.int .i64 (g q a z).1,.bool (g q a z).2]) ∧ Below w.heap.size w w'):Sat Try.prog f (XW g):=by
 refine Sat.wh fun fK r he=>?_
 unfold XW at he
 split at he
 ·split at he
  ·cases he;rename_i q a z hq;exact ⟨[.str q,.int .i64 a,.int .i64 z],[.int .i64 (g q a z).1,.bool (g q a z).2],rfl,rfl,fun w=>h q a z w hq⟩
  ·cases he
 ·cases he
def EN (s:ByteArray) (a z:Int):Int × Bool:=if ZQ.j3 s a z then (ZQ.iq z.toNat s a,true) else (0,false)
def Wz (q:ByteArray):ByteArray:=if B.jT q = true then B.qG q else ⟨#[]⟩
def A9 : Th:=⟨B.jT,Wz,ZQ.zx,ZQ.lw⟩
def nm₀ (k:Int) (q:ByteArray):List ByteArray:=(ZQ.prt k q).2.2.1
def leafs : List (FuncId × AG):=[
 (70,TK fun q=>.bool (B.jT q)),(48,TK fun q=>.str (Wz q)),
 (24,TK fun q=>.bool (B.jT q)),(37,TK fun q=>.str (Wz q)),
 (73,Wy fun k q=>.bool (ZQ.zx k q)),(83,Wy fun k q=>.str (ZQ.lw k q)),
 (52,Wy fun k q=>.bool (ZQ.zx k q)),
 (68,P7 1 false),(45,P7 3 true),
 (80,XW EN),(77,XW EN),(29,gNm nm₀),(30,gNm nm₀)]
theorem EO : ∀ p ∈ leafs,Sat Try.prog p.1 p.2:=by
 have hk:∀ q:ByteArray,q.size ≤ 1000000 → q.size ≤ 1000000000:=fun q h=>by omega
 intro p hp
 simp only [leafs,List.mem_cons,List.not_mem_nil,or_false] at hp
 rcases hp with rfl | rfl | rfl | rfl | rfl | rfl | rfl | rfl | rfl | rfl | rfl | rfl | rfl
 ·exact wX fun q w hq=>ZQ.iR.calls 600 q _ w (ZQ.Eu 600 (Nat.le_refl _) q (hk q hq))
 ·exact wX fun q w hq=>ZQ.mO.calls 600 q _ w (ZQ.vZ 600 (Nat.le_refl _) q (hk q hq))
 ·exact wX fun q w hq=>ZQ.dA.calls 600 q _ w (ZQ.tZ 600 (Nat.le_refl _) q (hk q hq))
 ·exact wX fun q w hq=>ZQ.gM.calls 600 q _ w (ZQ.Gz 600 (Nat.le_refl _) q (hk q hq))
 ·exact CU fun k q w hq=>ZQ.iV.calls _ k q _ w (ZQ.AZ (ZQ.K0 + 20) (by omega) k q)
 ·exact CU fun k q w hq=>ZQ.eD.calls _ k q _ w (ZQ.RD (ZQ.K0 + 20) (by omega) k q)
 ·exact CU fun k q w hq=>ZQ.dB.calls _ k q _ w (ZQ.qZ (ZQ.K0 + 20) (by omega) k q)
 ·exact P8
 ·exact P9
 ·refine I6 fun q a z w hq=>?_
  have h:=ZQ.get_eq 9 (Nat.le_refl _) q a z (by omega)
  exact (ZQ.bg.calls 9 q a z _ _ w h).mono fun e w' hh=>⟨hh.1,hh.2.below⟩
 ·refine I6 fun q a z w hq=>?_
  have h:=ZQ.rO 9 (Nat.le_refl _) q a z hq
  exact (ZQ.av.calls 9 q a z _ _ w h).mono fun e w' hh=>⟨hh.1,hh.2.below⟩
 ·exact I5 fun k q w hq=>ZQ.mR.calls _ k q _ w (ZQ.NV (ZQ.K0 + 20) (by omega) k q)
 ·exact I5 fun k q w hq=>ZQ.bC.calls _ k q _ w (ZQ.CS (ZQ.K0 + 20) (by omega) k q)
theorem zm : ∀ p ∈ leafs,∃ fn,Try.prog.funcs[p.1]? = some fn ∧ (fn.name == "runtime.NumGoroutine") = false ∧ fn.body.isSome = true:=by
 intro p hp
 simp only [leafs,List.mem_cons,List.not_mem_nil,or_false] at hp
 rcases hp with rfl | rfl | rfl | rfl | rfl | rfl | rfl | rfl | rfl | rfl | rfl | rfl | rfl
 ·exact ⟨Try.f70,by kernel_rfl,by kernel_rfl,by kernel_rfl⟩
 ·exact ⟨Try.f48,by kernel_rfl,by kernel_rfl,by kernel_rfl⟩
 ·exact ⟨Try.f24,by kernel_rfl,by kernel_rfl,by kernel_rfl⟩
 ·exact ⟨Try.f37,by kernel_rfl,by kernel_rfl,by kernel_rfl⟩
 ·exact ⟨Try.f73,by kernel_rfl,by kernel_rfl,by kernel_rfl⟩
 ·exact ⟨Try.f83,by kernel_rfl,by kernel_rfl,by kernel_rfl⟩
 ·exact ⟨Try.f52,by kernel_rfl,by kernel_rfl,by kernel_rfl⟩
 ·exact ⟨Try.f68,by kernel_rfl,by kernel_rfl,by kernel_rfl⟩
 ·exact ⟨Try.f45,by kernel_rfl,by kernel_rfl,by kernel_rfl⟩
 ·exact ⟨Try.f80,by kernel_rfl,by kernel_rfl,by kernel_rfl⟩
 ·exact ⟨Try.f77,by kernel_rfl,by kernel_rfl,by kernel_rfl⟩
 ·exact ⟨Try.f29,by kernel_rfl,by kernel_rfl,by kernel_rfl⟩
 ·exact ⟨Try.f30,by kernel_rfl,by kernel_rfl,by kernel_rfl⟩
def GA : Env:=nO leafs
theorem RF : iN Try.prog GA:=yD EO
theorem Ki : eu Try.prog GA:=rJ zm
noncomputable def ins : List (FuncId × AG):=(21,vO GA 200000000000001 9) :: leafs
theorem WA : ∀ p ∈ ins,Sat Try.prog p.1 p.2:=by
 intro p hp
 rcases List.mem_cons.mp hp with rfl | hp
 ·exact Qa RF Ki _ _
 ·exact EO p hp
theorem NW : ∀ p ∈ ins,∃ fn,Try.prog.funcs[p.1]? = some fn ∧ (fn.name == "runtime.NumGoroutine") = false ∧ fn.body.isSome = true:=by
 intro p hp
 rcases List.mem_cons.mp hp with rfl | hp
 ·exact ⟨Try.f21,by kernel_rfl,by kernel_rfl,by kernel_rfl⟩
 ·exact zm p hp
noncomputable def ext1 : Env:=nO ins
theorem RG : iN Try.prog ext1:=yD WA
theorem Kj : eu Try.prog ext1:=rJ NW
theorem abE : A9.Ok GA:=by
 constructor <;> intros <;> simp_all [GA,leafs,nO,TK,Wy,FX,VA,A9,vs,vb,vi]
theorem WB : A9.Ok ext1:=by
 constructor <;> intros <;> simp_all [ext1,ins,leafs,nO,TK,Wy,FX,VA,A9,vs,vb,vi]
theorem I7 {α:Type} (sz:Nat) (own:Bool) (l:List α) (f:α → List FV) (hf:∀ x,(f x).length = sz) (h:l.length ≤ 1000000):P7 sz own [vl (l.map f)] = some ([.one (if own then .own sz (l.map f) else .f (.sl (l.map f)))],[vl (l.map f)]):=by
 have h1:((l.map f).all fun r=>r.length == sz) = true:=by
  rw [List.all_eq_true];intro r hr;obtain ⟨x, -,rfl⟩:=List.mem_map.mp hr;exact beq_iff_eq.mpr (hf x)
 show (if (l.map f).length ≤ 1000000 ∧ _ then _ else _) = _
 rw [if_pos ⟨by rw [List.length_map];exact h,h1⟩]
theorem abF (l:List ByteArray) (h:l.length ≤ 1000000):P7 1 false [vl (l.map fC)] = some ([vl (l.map fC)],[vl (l.map fC)]):=I7 1 false l fC (fun _=>rfl) h
theorem abG (l:List Qn) (h:l.length ≤ 1000000):P7 3 true [vl (l.map rQ)] = some ([.one (.own 3 (l.map rQ))],[vl (l.map rQ)]):=I7 3 true l rQ (fun _=>rfl) h
theorem abH : nM GA:=⟨fun l h=>abG l h,fun l h=>abF l h⟩
theorem WC : nM ext1:=⟨fun l h=>abG l h,fun l h=>abF l h⟩
theorem EP (fK:List AV):ext1 21 fK = vO GA 200000000000001 (0 + 9) fK:=by
 unfold ext1 ins nO;rw [if_pos rfl]
theorem RH : DY A9 ext1 where
 p0 now x r:=by rw [EP];exact MH now x r
 p1 s now x r h1 h2 h3 _ h4 h5 h6:=by rw [EP];exact MI abE abH s now x r (Nat.le_refl _) h1 h2 h3 h4 h5 h6
theorem WE : Ne.FR EN ext1:=by
 refine ⟨fun s a z h=>?_,fun s a z h=>?_,fun s a z=>?_⟩
 ·simp [ext1,ins,leafs,nO,XW,FX,VA,h,vs,vb,vi]
 ·simp [ext1,ins,leafs,nO,XW,FX,VA,h,vs,vb,vi]
 ·unfold EN
  split
  ·exact (ZQ.oC _ _ _).1
  ·exact Int.le_refl _
theorem WG : BX nm₀ ext1:=by
 constructor
 all_goals
  intro k q h
  simp [ext1,ins,leafs,nO,gNm,h,vs,vi]
end Go.Proofs.Ytfokaoeinpnagaa.Kc
namespace Go.Proofs.Ytfokaoeinpnagaa.Kc
open Go Ev
variable {nm : Int → ByteArray → List ByteArray} {θ:Th} {gt:ByteArray → Int → Int → Int × Bool}
abbrev fr : ByteArray:=⟨#[5,97,108,105,97,115,5,97,108,105,97,115,0]⟩
end Go.Proofs.Ytfokaoeinpnagaa.Kc
set_option maxRecDepth 100000
namespace Go.Proofs.Ytfokaoeinpnagaa.Kc
open Go Go.RowKit Ev
theorem RI : MC A9 nm₀ EN:=by constructor <;> decide +kernel
end Go.Proofs.Ytfokaoeinpnagaa.Kc
namespace Go.Proofs.Ytfokaoeinpnagaa.Ev
open Go Go.RowKit
structure Old (w w':World):Prop where
 os:w'.os = w.os
 output:w'.output = w.output
 size:w.heap.size ≤ w'.heap.size
 block:∀ k,k < w.heap.size → w'.heap[k]? = w.heap[k]?
theorem Old.frame {W w':World} (h:Old W w') (may:MemPlace → Prop):W.keptBut w' may:=by
 refine ⟨h.os,h.output,fun i hi=>?_⟩
 rw [h.block i hi]
 split <;> simp_all
theorem Old.same {W w':World} (h:Old W w') {p:MemPlace} (hp:p.block < W.heap.size):W.sameAt w' p:=by
 cases p with
 | cell b o=>exact World.cell?_of_block (w:=W) (h.block b hp)
 | map b=>exact h.block b hp
theorem Old.trod {H:Type} {enc:TypeId × Value → H} {P:Program} {t:TypeId} (hl:laidOutB P = true) (hr:P.readableRec t = true) (hrow:t < P.types.size) {W W':World} {v:Value} {d:DataW H} {ps:List MemPlace}
  (h:DataW.Trod enc P W 0 (fun _=>true) true t v d ps) (hb:Old W W') (hlt:∀ x ∈ ps,x.block < W.heap.size):DataW.Trod enc P W' 0 (fun b=>decide (b < W.heap.size)) true t v d ps :=
 WideElems.Trod_stays hl hr hrow h (fun x hx=>hb.same (hlt x hx)) (fun x hx=>by simpa using hlt x hx)
theorem Kk {P:Program} {Γ:Env} (lX:iN P Γ) {f:FuncId} {fK rE:List AV} {b:Bool} {vals:List Value} {W:World} (h:Γ f fK = some ([.one (.f (.bool b))],rE)) (ha:fP (fun k=>k < W.heap.size) W fK vals []) :
  Calls P f vals.toArray W fun e W'=>e = .returned (.bool b) ∧ Old W W':=by
 refine (lX f fK _ _ h (fun k=>k < W.heap.size) W vals [] ha List.nodup_nil (by simp) (fun _ h=>h)).mono fun e w' ⟨bJ,uM,b1,b2,he,hp⟩=>?_
 refine ⟨?_,hp.kp.1,hp.kp.2,hp.big,fun k hk=>hp.ext k hk (by simp)⟩
 match uM,hp.rs with
 | [v],⟨c1,c2,h1,h2,h3⟩=>rw [he,show v = .bool b from h1.1];rfl
def GD (P:Program) {α:Type} (T:TypeId) (f:α → List FV) (G:α → Prop):Prop :=
 ∀ {H:Type} (enc:TypeId × Value → H) (w:World) (spare:Nat → Bool) (held:Bool) (fuel:Nat) (cs:List Value) (x:DataW H × List MemPlace),
  DataW.trod enc P w 0 spare held fuel T cs = some x → (∀ n ∈ x.1.weights P T,n ≤ reachBytes) → ∃ a:α,bZ (fun k=>k < w.heap.size) w (f a) cs ∧ G a
section
variable {P : Program}
theorem uD {k:IntKind} {T:TypeId} (h:P.underlying T = some (.int k)):GD P T (fun n=>[FV.int k n]) (fun n=>(Lit.int k n).wf = true):=by
 intro H enc w spare held fuel cs x hx _
 obtain ⟨n,rfl,rfl,hw⟩:=DataW.trod_int h hx
 exact ⟨n,⟨by simp only [eY],trivial⟩,hw⟩
theorem I8 {T:TypeId} (h:P.underlying T = some .string):GD P T (fun s=>[FV.str s]) (fun s=>s.size ≤ 140737488351232):=by
 intro H enc w spare held fuel cs x hx hz
 obtain ⟨s,rfl,rfl,hw⟩:=DataW.trod_string h hx
 refine ⟨s,⟨by simp only [eY],trivial⟩,?_⟩
 have:=hz s.data.toList.length (by simp [DataW.weights])
 rw [Array.length_toList] at this
 exact this
theorem nU {H:Type} {e:TypeId}:∀ {ds:List (DataW H)} {i:Nat} {d:DataW H},ds[i]? = some d → ∀ n ∈ d.weights P e,n ∈ DataW.weightsAll P e ds
 | [],i,d,h,_,_=>by simp at h
 | d0 :: ds,0,d,h,n,hn=>by
  simp at h;subst h
  exact List.mem_append.mpr (.inl hn)
 | d0 :: ds,i + 1,d,h,n,hn=>by
  simp at h
  exact List.mem_append.mpr (.inr (nU h n hn))
theorem pX {H:Type} {ts:List TypeId} {ds:List (DataW H)} (h:(DataW.weightsEach P ts ds).all (· ≤ reachBytes) = true) {j:Nat} {t:TypeId} {d:DataW H} (ht:ts[j]? = some t) (hd:ds[j]? = some d) :
  ∀ n ∈ d.weights P t,n ≤ reachBytes:=fun n hn=>by
 have:=List.all_eq_true.1 h n (DataW.weights_mem_each ht hd n hn)
 simpa using this
theorem uE {α:Type} {Q:Nat → α → Prop}:∀ n,(∀ i,i < n → ∃ y,Q i y) → ∃ ys:List α,ys.length = n ∧ ∀ i y,ys[i]? = some y → Q i y
 | 0,_=>⟨[],rfl,by simp⟩
 | n + 1,h=>by
  obtain ⟨ys,hl,hq⟩:=uE n (fun i hi=>h i (by omega))
  obtain ⟨y,hy⟩:=h n (by omega)
  refine ⟨ys ++ [y],by simp [hl],fun i z hz=>?_⟩
  by_cases hi:i < n
  ·rw [List.getElem?_append_left (by omega)] at hz
   exact hq i z hz
  ·have hlt:=(List.getElem?_eq_some_iff.1 hz).1
   simp only [List.length_append,List.length_singleton] at hlt
   obtain rfl:i = n:=by omega
   rw [List.getElem?_append_right (by omega),hl,Nat.sub_self] at hz
   simp at hz
   subst hz
   exact hy
theorem Ba {Fz:Nat → Prop} {w:World} {b:Nat}:∀ (xs:List FV) (cs:List Value) (o:Nat),bZ Fz w xs cs → (∀ i u,cs[i]? = some u → w.cell? ⟨b,o + i,none⟩ = some u) → dV Fz w b o xs
 | [],_,_,_,_=>by simp only [dV]
 | x :: xs,[],_,h,_=>h.elim
 | x :: xs,c :: cs,o,h,hc=>by
  simp only [dV]
  exact ⟨⟨c,hc 0 c rfl,h.1⟩,Ba xs cs (o + 1) h.2 fun i u hi=>by rw [show o + 1 + i = o + (i + 1) from by omega];exact hc (i + 1) u hi⟩
theorem zn {Fz:Nat → Prop} {w:World} {sz b:Nat} {α:Type} {f:α → List FV} (hf:∀ a,(f a).length = sz):∀ (l:List α) (o:Nat),(∀ i y,l[i]? = some y → dV Fz w b (o + i * sz) (f y)) → dh Fz w sz b o (l.map f)
 | [],_,_=>by simp only [List.map_nil,dh]
 | y :: l,o,h=>by
  simp only [List.map_cons,dh]
  refine ⟨hf y,by simpa using h 0 y rfl,zn hf l (o + sz) fun i z hz=>?_⟩
  rw [show o + sz + i * sz = o + (i + 1) * sz from by rw [Nat.add_mul];omega]
  exact h (i + 1) z hz
theorem Kl (a:Addr) (x y:Nat):(a.add x).add y = a.add (x + y):=by
 unfold Addr.add
 by_cases hx:x = 0
 ·subst hx;simp
 ·by_cases hy:y = 0
  ·subst hy;simp [hx]
  ·simp [hx,hy,Nat.add_assoc]
theorem zo {w:World} {a:Addr} {u:Value} (h:w.cell? a = some u):a = ⟨a.block,a.off,none⟩ ∧ a.block < w.heap.size:=by
 unfold World.cell? at h
 split at h
 ·rename_i c _ _ hb
  split at h
  ·cases h
  ·rename_i hs
   obtain ⟨b,o,s⟩:=a
   cases s with
   | none=>exact ⟨rfl,by have:=(Array.getElem?_eq_some_iff.mp hb).1;exact this⟩
   | some s=>simp at hs
 ·cases h
theorem Bb {α:Type} {f:α → List FV} {T e:TypeId} {G:α → Prop} (sz:Nat) (h:P.underlying T = some (.slice e)) (hc:P.cellsOf e = sz) (h0:0 < sz) (hf:∀ a,(f a).length = sz) (hby:decide (1 ≤ P.bytesOf e) = true) (hd:GD P e f G) :
  GD P T (fun l:List α=>[FV.sl (l.map f)]) (fun l=>l.length ≤ 140737488351232 ∧ ∀ x ∈ l,G x):=by
 intro H enc w spare held fuel cs x hx hz
 rcases DataW.trod_slice h hx with ⟨rfl,rfl⟩ | ⟨a,len,cap,elems,rest,n,_,rfl,rfl,hb,hl,hm,hlen,hel,_,_⟩
 ·refine ⟨[],⟨?_,trivial⟩,by simp⟩
  simp only [eY]
  exact ⟨none,0,rfl,Nat.le_refl _,by simp,.inl rfl⟩
 ·have hw:∀ m ∈ (elems.length + rest.length) * P.bytesOf e :: (DataW.weightsAll P e (elems.map (·.1)) ++ DataW.weightsAll P e (rest.map (·.1))),m ≤ reachBytes:=by
   intro m hm'
   refine hz m ?_
   simp only [DataW.weights,h,List.length_map]
   exact hm'
  obtain ⟨ys,hyl,hys⟩:=uE (α:=α) (Q:=fun i y=>∃ c,w.cells? 0 (a.add (i * P.cellsOf e)) (P.cellsOf e) = some c ∧ bZ (fun k=>k < w.heap.size) w (f y) c ∧ G y) len (fun i hi=>by
   have h1:=hel i hi
   rw [List.getElem?_eq_getElem (by omega),Option.bind_eq_some_iff] at h1
   obtain ⟨c,hc1,hc2⟩:=h1
   obtain ⟨y,hy,hg⟩:=hd enc w spare held n c _ hc2 (fun m hm'=>by
    refine hw m (List.mem_cons_of_mem _ (List.mem_append.mpr (.inl ?_)))
    exact nU (i:=i) (d:=(elems[i]'(by omega)).1) (by rw [List.getElem?_map,List.getElem?_eq_getElem (by omega)];rfl) m hm')
   exact ⟨y,c,hc1,hy,hg⟩)
  have hlen1:(elems.length + rest.length) * P.bytesOf e ≤ reachBytes:=hw _ (by simp)
  have hlm:cap ≤ 9223372036854775807:=by unfold maxLen at hm;omega
  refine ⟨ys,⟨?_,trivial⟩,?_,?_⟩
  ·simp only [eY,List.length_map]
   refine ⟨some a,cap,by rw [hyl],by omega,by omega,?_⟩
   cases hy0:ys with
   | nil=>exact .inl rfl
   | cons y0 ys0 =>
    right
    obtain ⟨c0,k0,_,_⟩:=hys 0 y0 (by rw [hy0];rfl)
    rw [hc] at k0
    obtain ⟨_,kl,kc⟩:=World.cells?_some k0
    have k1:=kc 0 h0
    rw [List.getElem?_eq_getElem (by omega)] at k1
    obtain ⟨ea,eb⟩:=zo k1
    have ea0:(a.add (0 * sz)).add 0 = a:=by simp [Addr.add]
    rw [ea0] at ea eb
    refine ⟨a.block,a.off,sz,congrArg some ea,eb,?_⟩
    rw [← hy0]
    refine zn hf ys a.off fun i y hi=>?_
    obtain ⟨c,hc1,hk,_⟩:=hys i y hi
    rw [hc] at hc1
    obtain ⟨_,hcl,hcc⟩:=World.cells?_some hc1
    refine Ba _ c _ hk fun j u hj=>?_
    have hj':j < sz:=by have:=(List.getElem?_eq_some_iff.1 hj).1;omega
    have:=hcc j hj'
    rw [Kl,hj] at this
    obtain ⟨e1,_⟩:=zo this
    rw [e1] at this
    have e2:a.add (i * sz + j) = ⟨a.block,a.off + i * sz + j,none⟩:=by
     rw [ea];unfold Addr.add;split
     ·rename_i hz;congr 1;simp only;omega
     ·congr 1;simp only;omega
    rw [e2] at this
    exact this
  ·rw [hyl,← hlen]
   have h1:elems.length * P.bytesOf e ≤ (elems.length + rest.length) * P.bytesOf e:=Nat.mul_le_mul_right _ (by omega)
   have h2:reachBytes = 140737488351232:=rfl
   have h3:elems.length * 1 ≤ elems.length * P.bytesOf e:=Nat.mul_le_mul_left _ (of_decide_eq_true hby)
   omega
  ·intro y hy
   obtain ⟨i,hi,rfl⟩:=List.mem_iff_getElem.1 hy
   obtain ⟨_,_,_,hg⟩:=hys i _ (List.getElem?_eq_getElem hi)
   exact hg
def RJ (P:Program) {α:Type} (sz:Nat) (f:α → List FV) (fs:List (TypeId × Nat)) (off:Nat) (G:α → Prop):Prop :=
 ∀ {H:Type} (enc:TypeId × Value → H) (w:World) (spare:Nat → Bool) (held:Bool) (n:Nat) (cs:List Value) (xs:List (DataW H × List MemPlace)),
  (∀ (i:Nat) (f:TypeId × Nat),fs[i]? = some f → DataW.trod enc P w 0 spare held n f.1 ((cs.drop f.2).take (P.cellsOf f.1)) = xs[i]?) → xs.length = fs.length →
  (∀ (i:Nat) (x:DataW H × List MemPlace) (f:TypeId × Nat),xs[i]? = some x → fs[i]? = some f → ∀ m ∈ x.1.weights P f.1,m ≤ reachBytes) → cs.length = off + sz → ∃ a,bZ (fun k=>k < w.heap.size) w (f a) (cs.drop off) ∧ G a
theorem vG {α:Type} {sz:Nat} {f:α → List FV} {t:TypeId} {off:Nat} {G:α → Prop} (hd:GD P t f G) (hc:P.cellsOf t = sz):RJ P sz f [(t,off)] off G:=by
 intro H enc w spare held n cs xs hf hl hw hn
 match xs,hl with
 | [y],_ =>
  have h1:=hf 0 _ rfl
  have h2:(cs.drop off).take (P.cellsOf t) = cs.drop off:=List.take_of_length_le (by rw [List.length_drop];omega)
  rw [h2] at h1
  exact hd enc w spare held n _ y h1 (hw 0 y _ rfl rfl)
theorem Bc {Fz:Nat → Prop} {w:World}:∀ {xs ys:List FV} {cs ds:List Value},bZ Fz w xs cs → bZ Fz w ys ds → bZ Fz w (xs ++ ys) (cs ++ ds)
 | [],_,[],_,_,h=>h
 | [],_,_ :: _,_,h,_=>h.elim
 | _ :: _,_,[],_,h,_=>h.elim
 | x :: xs,ys,c :: cs,ds,h,k=>⟨h.1,Bc h.2 k⟩
theorem kU {α β:Type} {sz sz':Nat} {f:α → List FV} {g:β → List FV} {t:TypeId} {fs:List (TypeId × Nat)} {off:Nat} {G:α → Prop} {G':β → Prop} (hd:GD P t f G) (hc:P.cellsOf t = sz)
  (hr:RJ P sz' g fs (off + sz) G'):RJ P (sz + sz') (fun p:α × β=>f p.1 ++ g p.2) ((t,off) :: fs) off (fun p=>G p.1 ∧ G' p.2):=by
 intro H enc w spare held n cs xs hf hl hw hn
 match xs,hl with
 | y :: ys,hl =>
  have h1:=hf 0 _ rfl
  obtain ⟨a,ha,ga⟩:=hd enc w spare held n _ y h1 (hw 0 y _ rfl rfl)
  obtain ⟨b,hb,gb⟩:=hr enc w spare held n cs ys (fun i f hi=>hf (i + 1) f hi) (by simpa using hl) (fun i x f hx hfi=>hw (i + 1) x f hx hfi) (by omega)
  refine ⟨(a,b),?_,ga,gb⟩
  have e:cs.drop off = (cs.drop off).take (P.cellsOf t) ++ cs.drop (off + sz):=by rw [← List.drop_drop,hc,List.take_append_drop]
  rw [e]
  exact Bc ha hb
theorem rR {α:Type} {sz:Nat} {f:α → List FV} {T:TypeId} {fs:Array Field} {G:α → Prop} (h:P.underlying T = some (.struct fs)) (hc:P.cellsOf T = sz)
  (hd:RJ P sz f (fs.toList.map fun f=>(f.type,f.offset)) 0 G):GD P T f G:=by
 intro H enc w spare held fuel cs x hx hz
 obtain ⟨xs,n,_,rfl,hl,hlen,hf⟩:=DataW.trod_struct h hx
 have hd':=hd enc w spare held n cs xs ?_ (by rw [List.length_map,Array.length_toList];exact hlen) ?_ (by rw [Nat.zero_add,← hc];exact hl)
 ·obtain ⟨a,ha,ga⟩:=hd'
  exact ⟨a,by simpa using ha,ga⟩
 ·intro i f hi
  rw [List.getElem?_map,Option.map_eq_some_iff] at hi
  obtain ⟨f',hf',rfl⟩:=hi
  exact hf i f' (by rw [← Array.getElem?_toList];exact hf')
 ·intro i x f hxi hfi m hm
  refine hz m ?_
  simp only [DataW.weights,h]
  refine DataW.weights_mem_each (j:=i) (t:=f.1) (d:=x.1) ?_ ?_ m hm
  ·rw [List.getElem?_map] at hfi ⊢
   rw [Option.map_eq_some_iff] at hfi ⊢
   obtain ⟨f',hf',rfl⟩:=hfi
   exact ⟨f',hf',rfl⟩
  ·rw [List.getElem?_map,hxi];rfl
theorem wY {α β:Type} {T:TypeId} {f:α → List FV} {f':β → List FV} {G:α → Prop} {G':β → Prop} (g:α → β) (hg:∀ a,f' (g a) = f a) (hG:∀ a,G a → G' (g a)) (hd:GD P T f G):GD P T f' G':=by
 intro H enc w spare held fuel cs x hx hz
 obtain ⟨a,ha,ga⟩:=hd enc w spare held fuel cs x hx hz
 exact ⟨g a,by rw [hg];exact ha,hG a ga⟩
theorem zq {w:World} {r:Reach} {base:Nat} {t:TypeId} {fs:Array Field} {v:Value} (ht:P.underlying t = some (.struct fs)) (h:Value.okWide P w r base t v):∃ cs,v = .agg cs:=by
 simp only [Value.okWide,ht] at h
 obtain ⟨cs,h1,_⟩:=h
 exact ⟨cs,h1⟩
theorem ER {Fz:Nat → Prop} {w:World}:∀ {xs:List FV} {cs:List Value},bZ Fz w xs cs → lN Fz w (xs.map .f) cs []
 | [],[],_=>rfl
 | [],_ :: _,h=>h.elim
 | _ :: _,[],h=>h.elim
 | x :: xs,c :: cs,h=>⟨[],[],⟨h.1,rfl⟩,ER h.2,rfl⟩
theorem ES {Fz:Nat → Prop} {w:World} {xs:List FV} {cs:Array Value} (h:bZ Fz w xs cs.toList):pq Fz w (.agg (xs.map .f)) (.agg cs) []:=⟨cs,rfl,ER h⟩
theorem NY {Fz:Nat → Prop} {w:World} {x:FV} {v:Value} (h:eY Fz w x v):pq Fz w (.one (.f x)) v []:=⟨h,rfl⟩
theorem rT {Fz:Nat → Prop} {w:World} {x:AV} {v:Value} {xs:List AV} {vs:List Value} (h:pq Fz w x v []) (k:fP Fz w xs vs []):fP Fz w (x :: xs) (v :: vs) []:=⟨[],[],h,k,rfl⟩
theorem Km {Fz:Nat → Prop} {w:World}:fP Fz w [] [] []:=rfl
end
end Go.Proofs.Ytfokaoeinpnagaa.Ev
set_option maxRecDepth 100000
namespace Go.Proofs.Ytfokaoeinpnagaa.Kc
open Go Ev
theorem opQ : GD Try.prog 24 rQ (fun _=>True) :=
 wY (fun p:ByteArray × Int × Int=>⟨p.1,p.2.1,p.2.2⟩) (by exact fun _=>rfl) (by exact fun _ _=>trivial) (rR Try.underlying24 (by kernel_rfl) (kU (sz:=1) (sz':=2) (I8 Try.underlying9) (by kernel_rfl) (kU (sz:=1) (sz':=1) (uD Try.underlying3) (by kernel_rfl) (vG (uD Try.underlying3) (by kernel_rfl)))))
theorem opD : GD Try.prog 25 (fun d:List ByteArray=>[.sl (d.map fC)]) (fun d=>d.length ≤ 140737488351232) :=
 wY (fun d:List ByteArray=>d) (by exact fun _=>rfl) (by exact fun _ h=>h.1) (Bb 1 Try.underlying25 (by kernel_rfl) (by decide) (fun _=>rfl) (by kernel_rfl) (I8 Try.underlying9))
theorem opS : GD Try.prog 27 rS (fun x=>x.d.length ≤ 140737488351232) :=
 wY (fun p:Qn × List ByteArray × Int=>⟨p.1.q,p.1.t,p.1.c,p.2.1,p.2.2⟩) (by exact fun _=>rfl) (by exact fun _ h=>h.2.1) (rR Try.underlying27 (by kernel_rfl) (kU (sz:=3) (sz':=2) opQ (by kernel_rfl) (kU (sz:=1) (sz':=1) opD (by kernel_rfl) (vG (uD Try.underlying3) (by kernel_rfl)))))
theorem opP : GD Try.prog 51 rP (fun x=>x.s.d.length ≤ 140737488351232) :=
 wY (fun p:Int × Se × Int × Qn=>⟨p.1,p.2.1,p.2.2.1,p.2.2.2⟩) (by exact fun _=>rfl) (by exact fun _ h=>h.2.1) (rR Try.underlying51 (by kernel_rfl) (kU (sz:=1) (sz':=9) (uD Try.underlying3) (by kernel_rfl) (kU (sz:=5) (sz':=4) opS (by kernel_rfl) (kU (sz:=1) (sz':=3) (uD Try.underlying3) (by kernel_rfl) (vG opQ (by kernel_rfl))))))
theorem afS : GD Try.prog 47 (fun l:List Pt=>[.sl (l.map rP)]) (fun l=>l.length ≤ 140737488351232 ∧ ∀ x ∈ l,x.s.d.length ≤ 140737488351232) :=
 Bb 10 Try.underlying47 (by kernel_rfl) (by decide) (fun _=>rfl) (by kernel_rfl) opP
def rA2 (p:Int × Int):List FV:=[.int .i64 p.1,.int .i64 p.2]
theorem afT : GD Try.prog 48 rA2 (fun _=>True):=by
 intro H enc w spare held fuel cs x hx _
 obtain ⟨xs,m,_,rfl,hl,hlen,hf⟩:=DataW.trod_array Try.underlying48 hx
 have hl2:cs.length = 2:=hl.trans (by kernel_rfl)
 have hc1:Try.prog.cellsOf 3 = 1:=by kernel_rfl
 match xs,hlen with
 | [y0,y1],_ =>
  match cs,hl2 with
  | [c0,c1],_ =>
   have h0:=hf 0 (by decide)
   have h1:=hf 1 (by decide)
   rw [hc1] at h0 h1
   obtain ⟨n0,e0, -, -⟩:=DataW.trod_int Try.underlying3 (show DataW.trod enc Try.prog w 0 spare held m 3 [c0] = some y0 from h0)
   obtain ⟨n1,e1, -, -⟩:=DataW.trod_int Try.underlying3 (show DataW.trod enc Try.prog w 0 spare held m 3 [c1] = some y1 from h1)
   cases e0
   cases e1
   exact ⟨(n0,n1),⟨by simp only [eY],by simp only [eY],trivial⟩,trivial⟩
theorem ET {w:World} {r:Reach} {base:Nat} {P:Program} {t e:TypeId} {n:Nat} {v:Value} (ht:P.underlying t = some (.array n e)) (h:Value.okWide P w r base t v):∃ cs,v = .agg cs:=by
 simp only [Value.okWide,ht] at h
 obtain ⟨cs,h1,_⟩:=h
 exact ⟨cs,h1⟩
end Go.Proofs.Ytfokaoeinpnagaa.Kc

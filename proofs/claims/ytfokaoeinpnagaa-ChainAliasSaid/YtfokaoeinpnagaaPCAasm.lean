/- A part of the proof of ChainAlias: cut, joined and given short names by a program of this session (wip/tools/pack.py); Lean checks it. No condition. -/
import Derived.Test.YtfokaoeinpnagaaPCAasj
import Derived.Test.YtfokaoeinpnagaaPCAasl
import Derived.Test.YtfokaoeinpnagaaPCAask
import Derived.Test.YtfokaoeinpnagaaPCAash
import Derived.Test.YtfokaoeinpnagaaPCAasi
import Derived.Test.YtfokaoeinpnagaaPCAase
import Derived.ProofKit
import Derived.OpenShut
import Derived.SizedLaws
import Derived.ChangeArms
import Derived.ChangeSlices
import Derived.Carry
import Derived.KernelRfl
import Derived.Test.YtfokaoeinpnagaaPCAasd
set_option linter.unusedSectionVars false
set_option linter.unusedSimpArgs false
set_option linter.unusedVariables false
namespace Go.Proofs.Ytfokaoeinpnagaa.ZQ
open Go.RowKit Go.Proofs.YtfokaoeinpnagaaW.bE Go.Proofs.YtfokaoeinpnagaaW.dB Go.Proofs.YtfokaoeinpnagaaW.dU
attribute [local go_sem] jA jB kG kH iI iJ jC jD
attribute [local go_sem high] WS
def aN.j0 : Nat → Int → Bool → Option (Int × Int × Int)
 | 0,_,_=>none
 | k + 1,x3,x4=>if x4 = true then (some (0,1,0)) else (if x3 = 6 then (some (0,2,20)) else (if x3 = 15 then (some (2,1,0)) else (if x3 = 33 then (some (6,1,0)) else (if x3 = 1 then (some (4,0,0)) else (if x3 = 28 then (some (16,0,0)) else (some (0,0,0)))))))
def aN.f (k:Nat) (a0:Int):Option (Int × Int × Int):=if a0 = 2 then (aN.j0 k a0 (a0 == 2)) else (if a0 = 5 then (aN.j0 k a0 (a0 == 5)) else (aN.j0 k a0 (a0 == 12)))
set_option maxHeartbeats 8000000 in
set_option maxRecDepth 100000 in
theorem aN.calls (k:Nat) (a0:Int) (r1:Int) (r2:Int) (r3:Int) (w:World) (h:aN.f k a0 = some (r1,r2,r3)) :
  Calls Try.prog 53 #[.int .i64 a0] w fun e w'=>e = .returned (.agg #[.int .i64 r1,.int .i64 r2,.int .i64 r3]) ∧ Below w.heap.size w w':=by
 have Uf:=Try.underlying119
 have HB:=aj.mk (Below.refl w.heap.size w)
 have H:(if a0 = 2 then (aN.j0 k a0 (a0 == 2)) else (if a0 = 5 then (aN.j0 k a0 (a0 == 5)) else (aN.j0 k a0 (a0 == 12)))) = some (r1,r2,r3):=h
 clear h
 have WA:=aj.mk H
 clear H
 go_enter Try.func53,Try.ntmps53
 go_upto_if 4 with (first | ((with_reducible refine gL (N:=2) rfl ?_);refine fU ?hg (N:=2) ?hd (cs:=#[.int .i64 0,.int .i64 0,.int .i64 0]) (t:=119) ?hr ?_;(case hd=>rfl);(case hg=>rfl);(case hr=>first | (go_simp;done) | (go_simp;rfl));intro gY hg w3 gX hb;have eP:=aj.mk (bI (by repeat (first | (with_reducible first | exact HB.out | apply ak | apply ah | apply au) | exact HB.out)) hb);have iE:=aj.mk (gX);have jJ:=aj.mk ((by rw [hg];exact (bK (by repeat (first | (with_reducible first | exact HB.out | apply ak | apply ah | apply au) | exact HB.out))):w.heap.size ≤ gY));have jQ:=aj.mk ((by rw [hg];exact (bK (by repeat (first | (with_reducible first | exact HB.out | apply ak | apply ah | apply au) | exact HB.out))):w.heap.size ≤ gY));clear HB;have HB:=eP;have dR:=iE;have ahY:=jJ;have rJ:=jQ;clear eP iE jJ jQ;clear hb gX hg))
 (try simp only [Act.put,List.setIfInBounds_toArray,List.set_cons_zero,List.set_cons_succ])
 go_cut [4] (fun v4 wc=>∃ (kq:Nat) (qU:Bool),v4 = .bool qU ∧ aj (aN.j0 kq a0 qU = some (r1,r2,r3)) ∧ aj (kq ≤ k) ∧ aj (wc.heap[gY]? = some (.cells #[.int .i64 0,.int .i64 0,.int .i64 0] 119 (0,0))) ∧ aj (Below w.heap.size w wc))
 case first =>
  have H:=WA.out
  clear WA
  by_cases c4:a0 = 2
  ·rw [if_pos c4] at H
   have qW:(a0 == 2) = true:=beq_iff_eq.mpr c4
   have Ke:(a0 != 2) = false:=bne_eq_false_iff_eq.mpr c4
   clear c4
   (first | rw [qW] | rw [Nz] | (simp only [gV,iB];rw [qW]) | skip)
   have H':=aj.mk H
   clear H
   go_wp2
   go_meet
   case rel=>exact ⟨_,((a0 == 2)),(by first | rfl | (simp;done) | (simp [*];done) | (simp [B.aX];done) | (simp [B.aY];done)),H',⟨by first | omega | exact Nat.le_refl _⟩,⟨by (with_reducible repeat (first | refine aG ?_ _ | refine aH ?_ | refine aD ?_ _));exact dR.out⟩,⟨by repeat (first | (with_reducible first | exact HB.out | apply ak | apply ah | apply au | refine aT ?_ rJ.out) | exact HB.out)⟩⟩
  ·rw [if_neg c4] at H
   have qW:(a0 == 2) = false:=beq_eq_false_iff_ne.mpr c4
   have Ke:(a0 != 2) = true:=bne_iff_ne.mpr c4
   (first | rw [qW] | rw [Nz] | (simp only [gV,iB];rw [qW]) | skip)
   by_cases c5:a0 = 5
   ·rw [if_pos c5] at H
    have qg:(a0 == 5) = true:=beq_iff_eq.mpr c5
    have vJ:(a0 != 5) = false:=bne_eq_false_iff_eq.mpr c5
    clear c5
    have H':=aj.mk H
    clear H
    go_wp2
    go_meet
    case rel=>exact ⟨_,((a0 == 5)),(by first | rfl | (simp;done) | (simp [*];done) | (simp [B.aX];done) | (simp [B.aY];done)),H',⟨by first | omega | exact Nat.le_refl _⟩,⟨by (with_reducible repeat (first | refine aG ?_ _ | refine aH ?_ | refine aD ?_ _));exact dR.out⟩,⟨by repeat (first | (with_reducible first | exact HB.out | apply ak | apply ah | apply au | refine aT ?_ rJ.out) | exact HB.out)⟩⟩
   ·rw [if_neg c5] at H
    have qg:(a0 == 5) = false:=beq_eq_false_iff_ne.mpr c5
    have vJ:(a0 != 5) = true:=bne_iff_ne.mpr c5
    have H':=aj.mk H
    clear H
    go_wp2
    go_meet
    case rel=>exact ⟨_,((a0 == 12)),(by first | rfl | (simp;done) | (simp [*];done) | (simp [B.aX];done) | (simp [B.aY];done)),H',⟨by first | omega | exact Nat.le_refl _⟩,⟨by (with_reducible repeat (first | refine aG ?_ _ | refine aH ?_ | refine aD ?_ _));exact dR.out⟩,⟨by repeat (first | (with_reducible first | exact HB.out | apply ak | apply ah | apply au | refine aT ?_ rJ.out) | exact HB.out)⟩⟩
 case rest =>
  clear WA
  try clear p2
  try clear c4
  try clear qW
  try clear Ke
  try clear Nz
  try clear c5
  try clear qg
  try clear vJ
  obtain ⟨kq,qU,rfl,HA,HJ1,dR,HB⟩:=hcut
  cases kq with
  | zero=>exact absurd HA.out (by simp [aN.j0])
  | succ kj1 =>
   have H:=HA.out
   clear HA
   simp only [aN.j0] at H
   by_cases c6:qU = true
   ·subst c6
    have H1:(some (0,1,0)) = some (r1,r2,r3):=by rw [if_pos rfl] at H;exact H
    clear H
    have H:=H1
    clear H1
    simp only [Option.some.injEq,Prod.mk.injEq] at H
    obtain ⟨rfl,rfl,rfl⟩:=H
    have af4:wc.cell? ⟨gY,0,none⟩ = some (.int .i64 0):=(aK dR.out 0).trans rfl
    have af5:wc.cell? ⟨gY,1,none⟩ = some (.int .i64 0):=(aK dR.out 1).trans rfl
    have af6:wc.cell? ⟨gY,2,none⟩ = some (.int .i64 0):=(aK dR.out 2).trans rfl
    have af7:=aA dR.out 0
    have af8:=aA dR.out 1
    have af9:=aA dR.out 2
    go_wp2
    refine bodyPost_ret (results_cell_row rfl _ _ gY 119 #[.int .i64 0,.int .i64 1,.int .i64 0] (0,0) _ rfl (by (with_reducible repeat (first | refine aG ?_ _ | refine aH ?_ | refine aD ?_ _));refine bU (cs:=#[.int .i64 0,.int .i64 1,.int .i64 0]) ?_ 2 _ rfl;(with_reducible repeat (first | refine aG ?_ _ | refine aH ?_ | refine aD ?_ _));refine bU (cs:=#[.int .i64 0,.int .i64 0,.int .i64 0]) ?_ 1 _ rfl;(with_reducible repeat (first | refine aG ?_ _ | refine aH ?_ | refine aD ?_ _));refine bU (cs:=#[.int .i64 0,.int .i64 0,.int .i64 0]) ?_ 0 _ rfl;(with_reducible repeat (first | refine aG ?_ _ | refine aH ?_ | refine aD ?_ _));exact dR.out) Try.underlying119 rfl (by kernel_rfl)) rfl ?_
    exact ⟨by first | rfl | (simp [aI,aJ] <;> rfl) | (simp [*,aI,aJ] <;> rfl),by repeat (first | (with_reducible first | exact HB.out | apply ak | apply ah | apply au | refine aT ?_ rJ.out) | exact HB.out)⟩
   ·replace c6:=Bool.eq_false_iff.mpr c6
    subst c6
    have H1:(if a0 = 6 then (some (0,2,20)) else (if a0 = 15 then (some (2,1,0)) else (if a0 = 33 then (some (6,1,0)) else (if a0 = 1 then (some (4,0,0)) else (if a0 = 28 then (some (16,0,0)) else (some (0,0,0))))))) = some (r1,r2,r3):=by rw [if_neg (show ¬ (false = true) by decide)] at H;exact H
    clear H
    have H:=H1
    clear H1
    by_cases c8:a0 = 6
    ·rw [if_pos c8] at H
     have vG:(a0 == 6) = true:=beq_iff_eq.mpr c8
     have vH:(a0 != 6) = false:=bne_eq_false_iff_eq.mpr c8
     clear c8
     simp only [Option.some.injEq,Prod.mk.injEq] at H
     obtain ⟨rfl,rfl,rfl⟩:=H
     have N9:wc.cell? ⟨gY,0,none⟩ = some (.int .i64 0):=(aK dR.out 0).trans rfl
     have Oa:wc.cell? ⟨gY,1,none⟩ = some (.int .i64 0):=(aK dR.out 1).trans rfl
     have Oc:wc.cell? ⟨gY,2,none⟩ = some (.int .i64 0):=(aK dR.out 2).trans rfl
     have Od:=aA dR.out 0
     have Oe:=aA dR.out 1
     have Og:=aA dR.out 2
     go_wp2
     refine bodyPost_ret (results_cell_row rfl _ _ gY 119 #[.int .i64 0,.int .i64 2,.int .i64 20] (0,0) _ rfl (by (with_reducible repeat (first | refine aG ?_ _ | refine aH ?_ | refine aD ?_ _));refine bU (cs:=#[.int .i64 0,.int .i64 2,.int .i64 0]) ?_ 2 _ rfl;(with_reducible repeat (first | refine aG ?_ _ | refine aH ?_ | refine aD ?_ _));refine bU (cs:=#[.int .i64 0,.int .i64 0,.int .i64 0]) ?_ 1 _ rfl;(with_reducible repeat (first | refine aG ?_ _ | refine aH ?_ | refine aD ?_ _));refine bU (cs:=#[.int .i64 0,.int .i64 0,.int .i64 0]) ?_ 0 _ rfl;(with_reducible repeat (first | refine aG ?_ _ | refine aH ?_ | refine aD ?_ _));exact dR.out) Try.underlying119 rfl (by kernel_rfl)) rfl ?_
     exact ⟨by first | rfl | (simp [aI,aJ] <;> rfl) | (simp [*,aI,aJ] <;> rfl),by repeat (first | (with_reducible first | exact HB.out | apply ak | apply ah | apply au | refine aT ?_ rJ.out) | exact HB.out)⟩
    ·rw [if_neg c8] at H
     have vG:(a0 == 6) = false:=beq_eq_false_iff_ne.mpr c8
     have vH:(a0 != 6) = true:=bne_iff_ne.mpr c8
     by_cases c10:a0 = 15
     ·rw [if_pos c10] at H
      have rG:(a0 == 15) = true:=beq_iff_eq.mpr c10
      have Ba:(a0 != 15) = false:=bne_eq_false_iff_eq.mpr c10
      clear c10
      simp only [Option.some.injEq,Prod.mk.injEq] at H
      obtain ⟨rfl,rfl,rfl⟩:=H
      have adY:wc.cell? ⟨gY,0,none⟩ = some (.int .i64 0):=(aK dR.out 0).trans rfl
      have adZ:wc.cell? ⟨gY,1,none⟩ = some (.int .i64 0):=(aK dR.out 1).trans rfl
      have ad1:wc.cell? ⟨gY,2,none⟩ = some (.int .i64 0):=(aK dR.out 2).trans rfl
      have ad2:=aA dR.out 0
      have ad3:=aA dR.out 1
      have ad4:=aA dR.out 2
      go_wp2
      refine bodyPost_ret (results_cell_row rfl _ _ gY 119 #[.int .i64 2,.int .i64 1,.int .i64 0] (0,0) _ rfl (by (with_reducible repeat (first | refine aG ?_ _ | refine aH ?_ | refine aD ?_ _));refine bU (cs:=#[.int .i64 2,.int .i64 1,.int .i64 0]) ?_ 2 _ rfl;(with_reducible repeat (first | refine aG ?_ _ | refine aH ?_ | refine aD ?_ _));refine bU (cs:=#[.int .i64 2,.int .i64 0,.int .i64 0]) ?_ 1 _ rfl;(with_reducible repeat (first | refine aG ?_ _ | refine aH ?_ | refine aD ?_ _));refine bU (cs:=#[.int .i64 0,.int .i64 0,.int .i64 0]) ?_ 0 _ rfl;(with_reducible repeat (first | refine aG ?_ _ | refine aH ?_ | refine aD ?_ _));exact dR.out) Try.underlying119 rfl (by kernel_rfl)) rfl ?_
      exact ⟨by first | rfl | (simp [aI,aJ] <;> rfl) | (simp [*,aI,aJ] <;> rfl),by repeat (first | (with_reducible first | exact HB.out | apply ak | apply ah | apply au | refine aT ?_ rJ.out) | exact HB.out)⟩
     ·rw [if_neg c10] at H
      have rG:(a0 == 15) = false:=beq_eq_false_iff_ne.mpr c10
      have Ba:(a0 != 15) = true:=bne_iff_ne.mpr c10
      by_cases c12:a0 = 33
      ·rw [if_pos c12] at H
       have uz:(a0 == 33) = true:=beq_iff_eq.mpr c12
       have uD:(a0 != 33) = false:=bne_eq_false_iff_eq.mpr c12
       clear c12
       simp only [Option.some.injEq,Prod.mk.injEq] at H
       obtain ⟨rfl,rfl,rfl⟩:=H
       have Rm:wc.cell? ⟨gY,0,none⟩ = some (.int .i64 0):=(aK dR.out 0).trans rfl
       have Ro:wc.cell? ⟨gY,1,none⟩ = some (.int .i64 0):=(aK dR.out 1).trans rfl
       have Rp:wc.cell? ⟨gY,2,none⟩ = some (.int .i64 0):=(aK dR.out 2).trans rfl
       have Rq:=aA dR.out 0
       have Rt:=aA dR.out 1
       have Ru:=aA dR.out 2
       go_wp2
       refine bodyPost_ret (results_cell_row rfl _ _ gY 119 #[.int .i64 6,.int .i64 1,.int .i64 0] (0,0) _ rfl (by (with_reducible repeat (first | refine aG ?_ _ | refine aH ?_ | refine aD ?_ _));refine bU (cs:=#[.int .i64 6,.int .i64 1,.int .i64 0]) ?_ 2 _ rfl;(with_reducible repeat (first | refine aG ?_ _ | refine aH ?_ | refine aD ?_ _));refine bU (cs:=#[.int .i64 6,.int .i64 0,.int .i64 0]) ?_ 1 _ rfl;(with_reducible repeat (first | refine aG ?_ _ | refine aH ?_ | refine aD ?_ _));refine bU (cs:=#[.int .i64 0,.int .i64 0,.int .i64 0]) ?_ 0 _ rfl;(with_reducible repeat (first | refine aG ?_ _ | refine aH ?_ | refine aD ?_ _));exact dR.out) Try.underlying119 rfl (by kernel_rfl)) rfl ?_
       exact ⟨by first | rfl | (simp [aI,aJ] <;> rfl) | (simp [*,aI,aJ] <;> rfl),by repeat (first | (with_reducible first | exact HB.out | apply ak | apply ah | apply au | refine aT ?_ rJ.out) | exact HB.out)⟩
      ·rw [if_neg c12] at H
       have uz:(a0 == 33) = false:=beq_eq_false_iff_ne.mpr c12
       have uD:(a0 != 33) = true:=bne_iff_ne.mpr c12
       by_cases c14:a0 = 1
       ·rw [if_pos c14] at H
        have IG:(a0 == 1) = true:=beq_iff_eq.mpr c14
        have T9:(a0 != 1) = false:=bne_eq_false_iff_eq.mpr c14
        clear c14
        simp only [Option.some.injEq,Prod.mk.injEq] at H
        obtain ⟨rfl,rfl,rfl⟩:=H
        have C8:wc.cell? ⟨gY,0,none⟩ = some (.int .i64 0):=(aK dR.out 0).trans rfl
        have C9:wc.cell? ⟨gY,1,none⟩ = some (.int .i64 0):=(aK dR.out 1).trans rfl
        have Da:wc.cell? ⟨gY,2,none⟩ = some (.int .i64 0):=(aK dR.out 2).trans rfl
        have Db:=aA dR.out 0
        have Dc:=aA dR.out 1
        have Df:=aA dR.out 2
        go_wp2
        refine bodyPost_ret (results_cell_row rfl _ _ gY 119 #[.int .i64 4,.int .i64 0,.int .i64 0] (0,0) _ rfl (by (with_reducible repeat (first | refine aG ?_ _ | refine aH ?_ | refine aD ?_ _));refine bU (cs:=#[.int .i64 4,.int .i64 0,.int .i64 0]) ?_ 2 _ rfl;(with_reducible repeat (first | refine aG ?_ _ | refine aH ?_ | refine aD ?_ _));refine bU (cs:=#[.int .i64 4,.int .i64 0,.int .i64 0]) ?_ 1 _ rfl;(with_reducible repeat (first | refine aG ?_ _ | refine aH ?_ | refine aD ?_ _));refine bU (cs:=#[.int .i64 0,.int .i64 0,.int .i64 0]) ?_ 0 _ rfl;(with_reducible repeat (first | refine aG ?_ _ | refine aH ?_ | refine aD ?_ _));exact dR.out) Try.underlying119 rfl (by kernel_rfl)) rfl ?_
        exact ⟨by first | rfl | (simp [aI,aJ] <;> rfl) | (simp [*,aI,aJ] <;> rfl),by repeat (first | (with_reducible first | exact HB.out | apply ak | apply ah | apply au | refine aT ?_ rJ.out) | exact HB.out)⟩
       ·rw [if_neg c14] at H
        have IG:(a0 == 1) = false:=beq_eq_false_iff_ne.mpr c14
        have T9:(a0 != 1) = true:=bne_iff_ne.mpr c14
        by_cases c16:a0 = 28
        ·rw [if_pos c16] at H
         have IC:(a0 == 28) = true:=beq_iff_eq.mpr c16
         have abu:(a0 != 28) = false:=bne_eq_false_iff_eq.mpr c16
         clear c16
         simp only [Option.some.injEq,Prod.mk.injEq] at H
         obtain ⟨rfl,rfl,rfl⟩:=H
         have ad5:wc.cell? ⟨gY,0,none⟩ = some (.int .i64 0):=(aK dR.out 0).trans rfl
         have ad6:wc.cell? ⟨gY,1,none⟩ = some (.int .i64 0):=(aK dR.out 1).trans rfl
         have ad7:wc.cell? ⟨gY,2,none⟩ = some (.int .i64 0):=(aK dR.out 2).trans rfl
         have ad8:=aA dR.out 0
         have ad9:=aA dR.out 1
         have aea:=aA dR.out 2
         go_wp2
         refine bodyPost_ret (results_cell_row rfl _ _ gY 119 #[.int .i64 16,.int .i64 0,.int .i64 0] (0,0) _ rfl (by (with_reducible repeat (first | refine aG ?_ _ | refine aH ?_ | refine aD ?_ _));refine bU (cs:=#[.int .i64 16,.int .i64 0,.int .i64 0]) ?_ 2 _ rfl;(with_reducible repeat (first | refine aG ?_ _ | refine aH ?_ | refine aD ?_ _));refine bU (cs:=#[.int .i64 16,.int .i64 0,.int .i64 0]) ?_ 1 _ rfl;(with_reducible repeat (first | refine aG ?_ _ | refine aH ?_ | refine aD ?_ _));refine bU (cs:=#[.int .i64 0,.int .i64 0,.int .i64 0]) ?_ 0 _ rfl;(with_reducible repeat (first | refine aG ?_ _ | refine aH ?_ | refine aD ?_ _));exact dR.out) Try.underlying119 rfl (by kernel_rfl)) rfl ?_
         exact ⟨by first | rfl | (simp [aI,aJ] <;> rfl) | (simp [*,aI,aJ] <;> rfl),by repeat (first | (with_reducible first | exact HB.out | apply ak | apply ah | apply au | refine aT ?_ rJ.out) | exact HB.out)⟩
        ·rw [if_neg c16] at H
         have IC:(a0 == 28) = false:=beq_eq_false_iff_ne.mpr c16
         have abu:(a0 != 28) = true:=bne_iff_ne.mpr c16
         simp only [Option.some.injEq,Prod.mk.injEq] at H
         obtain ⟨rfl,rfl,rfl⟩:=H
         have I7:wc.cell? ⟨gY,0,none⟩ = some (.int .i64 0):=(aK dR.out 0).trans rfl
         have I8:wc.cell? ⟨gY,1,none⟩ = some (.int .i64 0):=(aK dR.out 1).trans rfl
         have I9:wc.cell? ⟨gY,2,none⟩ = some (.int .i64 0):=(aK dR.out 2).trans rfl
         have Ja:=aA dR.out 0
         have Jb:=aA dR.out 1
         have Jc:=aA dR.out 2
         go_wp2
         refine bodyPost_ret (results_cell_row rfl _ _ gY 119 #[.int .i64 0,.int .i64 0,.int .i64 0] (0,0) _ rfl (by (with_reducible repeat (first | refine aG ?_ _ | refine aH ?_ | refine aD ?_ _));refine bU (cs:=#[.int .i64 0,.int .i64 0,.int .i64 0]) ?_ 2 _ rfl;(with_reducible repeat (first | refine aG ?_ _ | refine aH ?_ | refine aD ?_ _));refine bU (cs:=#[.int .i64 0,.int .i64 0,.int .i64 0]) ?_ 1 _ rfl;(with_reducible repeat (first | refine aG ?_ _ | refine aH ?_ | refine aD ?_ _));refine bU (cs:=#[.int .i64 0,.int .i64 0,.int .i64 0]) ?_ 0 _ rfl;(with_reducible repeat (first | refine aG ?_ _ | refine aH ?_ | refine aD ?_ _));exact dR.out) Try.underlying119 rfl (by kernel_rfl)) rfl ?_
         exact ⟨by first | rfl | (simp [aI,aJ] <;> rfl) | (simp [*,aI,aJ] <;> rfl),by repeat (first | (with_reducible first | exact HB.out | apply ak | apply ah | apply au | refine aT ?_ rJ.out) | exact HB.out)⟩
def bn.l0 : Nat → ByteArray → Int → Option (Bool)
 | 0,_,_=>none
 | k + 1,x0,x3=>if x3 < (x0.size:Int) then (if 0 ≤ x3 then (bn.l0 k x0 (wrap64 ((wrap64 (x3 + 1)) + (wrap64 (bt x0 x3))))) else (none)) else (if x3 = (x0.size:Int) then (some (decide (x3 > 0))) else (some false))
def bn.f (k:Nat) (a0:ByteArray):Option (Bool):=bn.l0 k a0 0
set_option maxHeartbeats 8000000 in
set_option maxRecDepth 100000 in
theorem bn.calls (k:Nat) (a0:ByteArray) (r:Bool) (w:World) (h:bn.f k a0 = some r) :
  Calls Try.prog 93 #[.string a0] w fun e w'=>e = .returned (.bool r) ∧ aW w w':=by
 have H:(bn.l0 k a0 0) = some r:=h
 clear h
 have H':=aj.mk H
 clear H
 go_enter Try.func93,Try.ntmps93
 go_wp2
 go_loopg [3] k (fun kq v3 w'=>∃ (pq:Int),v3 = .int .i64 pq ∧ aj (bn.l0 kq a0 pq = some r) ∧ aj (kq ≤ k) ∧ aW w w')
 case atStart=>exact ⟨(0),(by first | rfl | (simp;done) | (simp [*];done) | (simp [B.aX];done) | (simp [B.aY];done)),H',⟨Nat.le_refl _⟩,by repeat (first | exact aW.refl _ | apply aW.step)⟩
 case round =>
  clear H'
  obtain ⟨pq,rfl,HA,wB,⟨m1,rfl⟩⟩:=hrel
  cases gk with
  | zero=>exact absurd HA.out (by simp [bn.l0])
  | succ k1 =>
   have H:=HA.out
   clear HA
   simp only [bn.l0] at H
   by_cases c2:pq < (a0.size:Int)
   ·rw [if_pos c2] at H
    have wV:decide (pq < (a0.size:Int)) = true:=decide_eq_true c2
    clear c2
    by_cases c3:0 ≤ pq
    ·rw [if_pos c3] at H
     have qX:decide (0 ≤ pq) = true:=decide_eq_true c3
     clear c3
     have H':=aj.mk H
     clear H
     have p4:0 ≤ (pq:Int):=of_decide_eq_true (by first | (with_reducible assumption) | assumption)
     have q4:pq < (a0.size:Int):=of_decide_eq_true (by first | (with_reducible assumption) | assumption)
     have hx4:=nW a0 pq
     replace p4:=eq_true p4
     replace q4:=eq_true q4
     go_wp2
     go_roundg k1
     case measure=>have:=wB.out;omega
     case rel=>exact ⟨(wrap64 ((wrap64 (pq + 1)) + (wrap64 (bt a0 pq)))),(by first | rfl | (simp;done) | (simp [*];done) | (simp [B.aX];done) | (simp [B.aY];done)),H',⟨by have:=wB.out;omega⟩,by repeat (first | exact aW.refl _ | apply aW.step)⟩
    ·rw [if_neg c3] at H
     exact absurd H (by simp)
   ·rw [if_neg c2] at H
    have wV:decide (pq < (a0.size:Int)) = false:=decide_eq_false c2
    clear c2
    by_cases c5:pq = (a0.size:Int)
    ·rw [if_pos c5] at H
     have qg:(pq == (a0.size:Int)) = true:=beq_iff_eq.mpr c5
     have vJ:(pq != (a0.size:Int)) = false:=bne_eq_false_iff_eq.mpr c5
     clear c5
     obtain rfl:=Option.some.inj H
     go_wp2
     go_ret
     exact ⟨by first | rfl | (simp;done) | (simp [*];done),by repeat (first | exact aW.refl _ | apply aW.step)⟩
    ·rw [if_neg c5] at H
     have qg:(pq == (a0.size:Int)) = false:=beq_eq_false_iff_ne.mpr c5
     have vJ:(pq != (a0.size:Int)) = true:=bne_iff_ne.mpr c5
     obtain rfl:=Option.some.inj H
     go_wp2
     go_ret
     exact ⟨by first | rfl | (simp;done) | (simp [*];done),by repeat (first | exact aW.refl _ | apply aW.step)⟩
def aV.l0 : Nat → ByteArray → Int → Int → ByteArray → Int → Int → Int → Int → Int → Option (ByteArray × Int)
 | 0,_,_,_,_,_,_,_,_,_=>none
 | k + 1,x0,x1,x2,x13,QJ,x15,Rv,Jd,Je=>if x15 < Jd then ((aR.f k x0 QJ).bind fun Jf=>(if Jf.2.2 = 0 then (if x13.size + Jf.1.size ≤ 9223372036854775807 then (aV.l0 k x0 x1 x2 (x13 ++ Jf.1) Jf.2.1 (wrap64 (x15 + 1)) Rv Jd Je) else (none)) else (some ((⟨#[]⟩:ByteArray),4)))) else (if (wrap64 (QJ + Je)) = (wrap64 (x1 + x2)) then (if 0 ≤ QJ then (if QJ ≤ (wrap64 (x1 + x2)) then (if (wrap64 (x1 + x2)) ≤ (x0.size:Int) then (if x13.size + (x0.extract (QJ:Int).toNat ((wrap64 (x1 + x2)):Int).toNat).size ≤ 9223372036854775807 then (if ((x13 ++ (x0.extract (QJ:Int).toNat ((wrap64 (x1 + x2)):Int).toNat)).size:Int) > 65535 then (some ((⟨#[]⟩:ByteArray),4)) else (some (x13 ++ (x0.extract (QJ:Int).toNat ((wrap64 (x1 + x2)):Int).toNat),0))) else (none)) else (none)) else (none)) else (none)) else (some ((⟨#[]⟩:ByteArray),4)))
def aV.f (k:Nat) (a0:ByteArray) (a1:Int) (a2:Int) (a3:Int):Option (ByteArray × Int):=(bB.f a0 a1 a2).bind fun lI=>(if lI.2 = true then ((aN.f k a3).bind fun eY=>(if (eY.1 == 0 && (eY.2.1 == 0 && (eY.2.2 == 0))) = true then (if a3 = 16 then ((bn.f k lI.1).bind fun t173=>(if t173 = true then (if (lI.1.size:Int) > 65535 then (some ((⟨#[]⟩:ByteArray),4)) else (some (lI.1,0))) else (some ((⟨#[]⟩:ByteArray),4)))) else (if (lI.1.size:Int) > 65535 then (some ((⟨#[]⟩:ByteArray),4)) else (some (lI.1,0)))) else (if eY.1 > a2 then (some ((⟨#[]⟩:ByteArray),4)) else (if 0 ≤ eY.1 then (if eY.1 ≤ (lI.1.size:Int) then (aV.l0 k a0 a1 a2 (lI.1.extract 0 (eY.1:Int).toNat) (wrap64 (a1 + eY.1)) 0 eY.1 eY.2.1 eY.2.2) else (none)) else (none))))) else (some ((⟨#[]⟩:ByteArray),2)))
set_option maxHeartbeats 8000000 in
set_option maxRecDepth 100000 in
theorem aV.calls (k:Nat) (a0:ByteArray) (a1:Int) (a2:Int) (a3:Int) (r1:ByteArray) (r2:Int) (w:World) (h:aV.f k a0 a1 a2 a3 = some (r1,r2)) :
  Calls Try.prog 76 #[.string a0,.int .i64 a1,.int .i64 a2,.int .i64 a3] w fun e w'=>e = .returned (.tuple #[.string r1,.int .i64 r2]) ∧ Below w.heap.size w w':=by
 have Uf:=Try.underlying119
 have HB:=aj.mk (Below.refl w.heap.size w)
 have H:((bB.f a0 a1 a2).bind fun lI=>(if lI.2 = true then ((aN.f k a3).bind fun eY=>(if (eY.1 == 0 && (eY.2.1 == 0 && (eY.2.2 == 0))) = true then (if a3 = 16 then ((bn.f k lI.1).bind fun t173=>(if t173 = true then (if (lI.1.size:Int) > 65535 then (some ((⟨#[]⟩:ByteArray),4)) else (some (lI.1,0))) else (some ((⟨#[]⟩:ByteArray),4)))) else (if (lI.1.size:Int) > 65535 then (some ((⟨#[]⟩:ByteArray),4)) else (some (lI.1,0)))) else (if eY.1 > a2 then (some ((⟨#[]⟩:ByteArray),4)) else (if 0 ≤ eY.1 then (if eY.1 ≤ (lI.1.size:Int) then (aV.l0 k a0 a1 a2 (lI.1.extract 0 (eY.1:Int).toNat) (wrap64 (a1 + eY.1)) 0 eY.1 eY.2.1 eY.2.2) else (none)) else (none))))) else (some ((⟨#[]⟩:ByteArray),2)))) = some (r1,r2):=h
 clear h
 replace H:=zbm H
 obtain ⟨⟨t167,t168⟩,A50,H⟩:=H
 replace H:(if t168 = true then ((aN.f k a3).bind fun eY=>(if (eY.1 == 0 && (eY.2.1 == 0 && (eY.2.2 == 0))) = true then (if a3 = 16 then ((bn.f k t167).bind fun t173=>(if t173 = true then (if (t167.size:Int) > 65535 then (some ((⟨#[]⟩:ByteArray),4)) else (some (t167,0))) else (some ((⟨#[]⟩:ByteArray),4)))) else (if (t167.size:Int) > 65535 then (some ((⟨#[]⟩:ByteArray),4)) else (some (t167,0)))) else (if eY.1 > a2 then (some ((⟨#[]⟩:ByteArray),4)) else (if 0 ≤ eY.1 then (if eY.1 ≤ (t167.size:Int) then (aV.l0 k a0 a1 a2 (t167.extract 0 (eY.1:Int).toNat) (wrap64 (a1 + eY.1)) 0 eY.1 eY.2.1 eY.2.2) else (none)) else (none))))) else (some ((⟨#[]⟩:ByteArray),2))) = some (r1,r2):=H
 have A5:=aj.mk A50
 clear A50
 by_cases c6:t168 = true
 ·subst c6
  have H1:((aN.f k a3).bind fun eY=>(if (eY.1 == 0 && (eY.2.1 == 0 && (eY.2.2 == 0))) = true then (if a3 = 16 then ((bn.f k t167).bind fun t173=>(if t173 = true then (if (t167.size:Int) > 65535 then (some ((⟨#[]⟩:ByteArray),4)) else (some (t167,0))) else (some ((⟨#[]⟩:ByteArray),4)))) else (if (t167.size:Int) > 65535 then (some ((⟨#[]⟩:ByteArray),4)) else (some (t167,0)))) else (if eY.1 > a2 then (some ((⟨#[]⟩:ByteArray),4)) else (if 0 ≤ eY.1 then (if eY.1 ≤ (t167.size:Int) then (aV.l0 k a0 a1 a2 (t167.extract 0 (eY.1:Int).toNat) (wrap64 (a1 + eY.1)) 0 eY.1 eY.2.1 eY.2.2) else (none)) else (none))))) = some (r1,r2):=by rw [if_pos rfl] at H;exact H
  clear H
  have H:=H1
  clear H1
  replace H:=zbm H
  obtain ⟨⟨iM,kP,t171⟩,A70,H⟩:=H
  replace H:(if (iM == 0 && (kP == 0 && (t171 == 0))) = true then (if a3 = 16 then ((bn.f k t167).bind fun t173=>(if t173 = true then (if (t167.size:Int) > 65535 then (some ((⟨#[]⟩:ByteArray),4)) else (some (t167,0))) else (some ((⟨#[]⟩:ByteArray),4)))) else (if (t167.size:Int) > 65535 then (some ((⟨#[]⟩:ByteArray),4)) else (some (t167,0)))) else (if iM > a2 then (some ((⟨#[]⟩:ByteArray),4)) else (if 0 ≤ iM then (if iM ≤ (t167.size:Int) then (aV.l0 k a0 a1 a2 (t167.extract 0 (iM:Int).toNat) (wrap64 (a1 + iM)) 0 iM kP t171) else (none)) else (none)))) = some (r1,r2):=H
  have A7:=aj.mk A70
  clear A70
  by_cases c8:(iM == 0 && (kP == 0 && (t171 == 0))) = true
  ·rw [if_pos c8] at H
   have vG:(iM == 0 && (kP == 0 && (t171 == 0))) = true:=c8
   (try (have vH:decide (iM = 0 && (kP == 0 && (t171 == 0))) = true:=by simpa using c8))
   (try (have NI:(iM == 0 && (kP == 0 && (t171 == 0))) = true:=by simpa using c8))
   clear c8
   by_cases c9:a3 = 16
   ·rw [if_pos c9] at H
    have uy:(a3 == 16) = true:=beq_iff_eq.mpr c9
    have EN:(a3 != 16) = false:=bne_eq_false_iff_eq.mpr c9
    clear c9
    replace H:=zbm H
    obtain ⟨t173,NS,H⟩:=H
    replace H:(if t173 = true then (if (t167.size:Int) > 65535 then (some ((⟨#[]⟩:ByteArray),4)) else (some (t167,0))) else (some ((⟨#[]⟩:ByteArray),4))) = some (r1,r2):=H
    have Ub:=aj.mk NS
    clear NS
    by_cases c11:t173 = true
    ·subst c11
     have H1:(if (t167.size:Int) > 65535 then (some ((⟨#[]⟩:ByteArray),4)) else (some (t167,0))) = some (r1,r2):=by rw [if_pos rfl] at H;exact H
     clear H
     have H:=H1
     clear H1
     by_cases c12:(t167.size:Int) > 65535
     ·rw [if_pos c12] at H
      have uz:decide (65535 < (t167.size:Int)) = true:=decide_eq_true c12
      have uD:decide (65535 < t167.size) = true:=decide_eq_true (by omega)
      clear c12
      simp only [Option.some.injEq,Prod.mk.injEq] at H
      obtain ⟨rfl,rfl⟩:=H
      go_enter Try.func76,Try.ntmps76
      go_wp2_with (first | ((with_reducible refine aU (f:=79) rfl ?_);refine bP (some 23) rfl rfl Try.func79 (by kernel_rfl) rfl #[.string a0,.int .i64 a1,.int .i64 a2] rfl (by (try simp only [List.map_toArray,List.map_cons,List.map_nil]);first | done | rfl | (simp only [List.length_drop,List.length_take];rfl) | (simp only [ByteArray.size_append,Int.natCast_add];rfl) | (rw [B.dX] <;> first | rfl | omega | (simp only [decide_eq_false_iff_not,decide_eq_true_eq,Int.not_lt,Nat.not_lt,gt_iff_lt] at * <;> omega))) ?_;(with_reducible refine (bB.calls a0 a1 a2 t167 true _ A5.out).mono ?_);rintro e w' ⟨rfl,⟨nd,rfl⟩⟩;refine ⟨_,rfl,?_⟩) | ((with_reducible refine aU (f:=53) rfl ?_);refine bP (some 29) rfl rfl Try.func53 (by kernel_rfl) rfl #[.int .i64 a3] rfl (by (try simp only [List.map_toArray,List.map_cons,List.map_nil]);first | done | rfl | (simp only [List.length_drop,List.length_take];rfl) | (simp only [ByteArray.size_append,Int.natCast_add];rfl) | (rw [B.dX] <;> first | rfl | omega | (simp only [decide_eq_false_iff_not,decide_eq_true_eq,Int.not_lt,Nat.not_lt,gt_iff_lt] at * <;> omega))) ?_;(with_reducible refine (aN.calls k a3 iM kP t171 _ A7.out).mono ?_);rintro e w13 ⟨rfl,hb⟩;refine ⟨_,rfl,?_⟩;have eP:=aj.mk (bI (by repeat (first | (with_reducible first | exact HB.out | apply ak | apply ah | apply au) | exact HB.out)) hb);clear HB;have HB:=eP;clear eP;(try clear hb);(try clear hb2);(try clear hk);(try clear hi)) | ((with_reducible refine gL (N:=12) rfl ?_);(try (refine jE (by rfl) ?_;dsimp only));refine fU ?hg (N:=12) ?hd (cs:=#[.int .i64 0,.int .i64 0,.int .i64 0]) (t:=119) ?hr ?_;(case hd=>rfl);(case hg=>rfl);(case hr=>first | (go_simp;done) | (go_simp;rfl));intro dK hg w14 gX hb;have eP:=aj.mk (bI (by repeat (first | (with_reducible first | exact HB.out | apply ak | apply ah | apply au) | exact HB.out)) hb);have iE:=aj.mk (gX);have jJ:=aj.mk ((by rw [hg];exact (bK (by repeat (first | (with_reducible first | exact HB.out | apply ak | apply ah | apply au) | exact HB.out))):w.heap.size ≤ dK));have jQ:=aj.mk ((by rw [hg];exact (bK (by repeat (first | (with_reducible first | exact HB.out | apply ak | apply ah | apply au) | exact HB.out))):w.heap.size ≤ dK));clear HB;have HB:=eP;have bR:=iE;have Bg:=jJ;have kU:=jQ;clear eP iE jJ jQ;clear hb gX hg;have C8:w14.cell? ⟨dK,0,none⟩ = some (.int .i64 0):=(aK bR.out 0).trans rfl;have C9:w14.cell? ⟨dK,1,none⟩ = some (.int .i64 0):=(aK bR.out 1).trans rfl;have Da:w14.cell? ⟨dK,2,none⟩ = some (.int .i64 0):=(aK bR.out 2).trans rfl;have Db:=aA bR.out 0;have Dc:=aA bR.out 1;have Df:=aA bR.out 2) | (go_at_call 93;(with_reducible refine (bn.calls k t167 true _ Ub.out).mono ?_);rintro e w' ⟨rfl,⟨nd,rfl⟩⟩))
      go_ret2
      exact ⟨by first | rfl | (simp [aI,aJ] <;> rfl) | (simp [*,aI,aJ] <;> rfl),by repeat (first | (with_reducible first | exact HB.out | apply ak | apply ah | apply au | refine aT ?_ kU.out) | exact HB.out)⟩
     ·rw [if_neg c12] at H
      have uz:decide (65535 < (t167.size:Int)) = false:=decide_eq_false c12
      have uD:decide (65535 < t167.size) = false:=decide_eq_false (by omega)
      clear c12
      simp only [Option.some.injEq,Prod.mk.injEq] at H
      obtain ⟨rfl,rfl⟩:=H
      go_enter Try.func76,Try.ntmps76
      go_wp2_with (first | ((with_reducible refine aU (f:=79) rfl ?_);refine bP (some 23) rfl rfl Try.func79 (by kernel_rfl) rfl #[.string a0,.int .i64 a1,.int .i64 a2] rfl (by (try simp only [List.map_toArray,List.map_cons,List.map_nil]);first | done | rfl | (simp only [List.length_drop,List.length_take];rfl) | (simp only [ByteArray.size_append,Int.natCast_add];rfl) | (rw [B.dX] <;> first | rfl | omega | (simp only [decide_eq_false_iff_not,decide_eq_true_eq,Int.not_lt,Nat.not_lt,gt_iff_lt] at * <;> omega))) ?_;(with_reducible refine (bB.calls a0 a1 a2 t167 true _ A5.out).mono ?_);rintro e w' ⟨rfl,⟨nd,rfl⟩⟩;refine ⟨_,rfl,?_⟩) | ((with_reducible refine aU (f:=53) rfl ?_);refine bP (some 29) rfl rfl Try.func53 (by kernel_rfl) rfl #[.int .i64 a3] rfl (by (try simp only [List.map_toArray,List.map_cons,List.map_nil]);first | done | rfl | (simp only [List.length_drop,List.length_take];rfl) | (simp only [ByteArray.size_append,Int.natCast_add];rfl) | (rw [B.dX] <;> first | rfl | omega | (simp only [decide_eq_false_iff_not,decide_eq_true_eq,Int.not_lt,Nat.not_lt,gt_iff_lt] at * <;> omega))) ?_;(with_reducible refine (aN.calls k a3 iM kP t171 _ A7.out).mono ?_);rintro e w16 ⟨rfl,hb⟩;refine ⟨_,rfl,?_⟩;have eP:=aj.mk (bI (by repeat (first | (with_reducible first | exact HB.out | apply ak | apply ah | apply au) | exact HB.out)) hb);clear HB;have HB:=eP;clear eP;(try clear hb);(try clear hb2);(try clear hk);(try clear hi)) | ((with_reducible refine gL (N:=12) rfl ?_);(try (refine jE (by rfl) ?_;dsimp only));refine fU ?hg (N:=12) ?hd (cs:=#[.int .i64 0,.int .i64 0,.int .i64 0]) (t:=119) ?hr ?_;(case hd=>rfl);(case hg=>rfl);(case hr=>first | (go_simp;done) | (go_simp;rfl));intro dK hg w17 gX hb;have eP:=aj.mk (bI (by repeat (first | (with_reducible first | exact HB.out | apply ak | apply ah | apply au) | exact HB.out)) hb);have iE:=aj.mk (gX);have jJ:=aj.mk ((by rw [hg];exact (bK (by repeat (first | (with_reducible first | exact HB.out | apply ak | apply ah | apply au) | exact HB.out))):w.heap.size ≤ dK));have jQ:=aj.mk ((by rw [hg];exact (bK (by repeat (first | (with_reducible first | exact HB.out | apply ak | apply ah | apply au) | exact HB.out))):w.heap.size ≤ dK));clear HB;have HB:=eP;have bR:=iE;have Bg:=jJ;have kU:=jQ;clear eP iE jJ jQ;clear hb gX hg;have I7:w17.cell? ⟨dK,0,none⟩ = some (.int .i64 0):=(aK bR.out 0).trans rfl;have I8:w17.cell? ⟨dK,1,none⟩ = some (.int .i64 0):=(aK bR.out 1).trans rfl;have I9:w17.cell? ⟨dK,2,none⟩ = some (.int .i64 0):=(aK bR.out 2).trans rfl;have Ja:=aA bR.out 0;have Jb:=aA bR.out 1;have Jc:=aA bR.out 2) | (go_at_call 93;(with_reducible refine (bn.calls k t167 true _ Ub.out).mono ?_);rintro e w' ⟨rfl,⟨nd,rfl⟩⟩))
      go_ret2
      exact ⟨by first | rfl | (simp [aI,aJ] <;> rfl) | (simp [*,aI,aJ] <;> rfl),by repeat (first | (with_reducible first | exact HB.out | apply ak | apply ah | apply au | refine aT ?_ kU.out) | exact HB.out)⟩
    ·replace c11:=Bool.eq_false_iff.mpr c11
     subst c11
     have H1:(some ((⟨#[]⟩:ByteArray),4)) = some (r1,r2):=by rw [if_neg (show ¬ (false = true) by decide)] at H;exact H
     clear H
     have H:=H1
     clear H1
     simp only [Option.some.injEq,Prod.mk.injEq] at H
     obtain ⟨rfl,rfl⟩:=H
     go_enter Try.func76,Try.ntmps76
     go_wp2_with (first | ((with_reducible refine aU (f:=79) rfl ?_);refine bP (some 23) rfl rfl Try.func79 (by kernel_rfl) rfl #[.string a0,.int .i64 a1,.int .i64 a2] rfl (by (try simp only [List.map_toArray,List.map_cons,List.map_nil]);first | done | rfl | (simp only [List.length_drop,List.length_take];rfl) | (simp only [ByteArray.size_append,Int.natCast_add];rfl) | (rw [B.dX] <;> first | rfl | omega | (simp only [decide_eq_false_iff_not,decide_eq_true_eq,Int.not_lt,Nat.not_lt,gt_iff_lt] at * <;> omega))) ?_;(with_reducible refine (bB.calls a0 a1 a2 t167 true _ A5.out).mono ?_);rintro e w' ⟨rfl,⟨nd,rfl⟩⟩;refine ⟨_,rfl,?_⟩) | ((with_reducible refine aU (f:=53) rfl ?_);refine bP (some 29) rfl rfl Try.func53 (by kernel_rfl) rfl #[.int .i64 a3] rfl (by (try simp only [List.map_toArray,List.map_cons,List.map_nil]);first | done | rfl | (simp only [List.length_drop,List.length_take];rfl) | (simp only [ByteArray.size_append,Int.natCast_add];rfl) | (rw [B.dX] <;> first | rfl | omega | (simp only [decide_eq_false_iff_not,decide_eq_true_eq,Int.not_lt,Nat.not_lt,gt_iff_lt] at * <;> omega))) ?_;(with_reducible refine (aN.calls k a3 iM kP t171 _ A7.out).mono ?_);rintro e w19 ⟨rfl,hb⟩;refine ⟨_,rfl,?_⟩;have eP:=aj.mk (bI (by repeat (first | (with_reducible first | exact HB.out | apply ak | apply ah | apply au) | exact HB.out)) hb);clear HB;have HB:=eP;clear eP;(try clear hb);(try clear hb2);(try clear hk);(try clear hi)) | ((with_reducible refine gL (N:=12) rfl ?_);(try (refine jE (by rfl) ?_;dsimp only));refine fU ?hg (N:=12) ?hd (cs:=#[.int .i64 0,.int .i64 0,.int .i64 0]) (t:=119) ?hr ?_;(case hd=>rfl);(case hg=>rfl);(case hr=>first | (go_simp;done) | (go_simp;rfl));intro dK hg w20 gX hb;have eP:=aj.mk (bI (by repeat (first | (with_reducible first | exact HB.out | apply ak | apply ah | apply au) | exact HB.out)) hb);have iE:=aj.mk (gX);have jJ:=aj.mk ((by rw [hg];exact (bK (by repeat (first | (with_reducible first | exact HB.out | apply ak | apply ah | apply au) | exact HB.out))):w.heap.size ≤ dK));have jQ:=aj.mk ((by rw [hg];exact (bK (by repeat (first | (with_reducible first | exact HB.out | apply ak | apply ah | apply au) | exact HB.out))):w.heap.size ≤ dK));clear HB;have HB:=eP;have bR:=iE;have Bg:=jJ;have kU:=jQ;clear eP iE jJ jQ;clear hb gX hg;have Rw:w20.cell? ⟨dK,0,none⟩ = some (.int .i64 0):=(aK bR.out 0).trans rfl;have Rx:w20.cell? ⟨dK,1,none⟩ = some (.int .i64 0):=(aK bR.out 1).trans rfl;have Ry:w20.cell? ⟨dK,2,none⟩ = some (.int .i64 0):=(aK bR.out 2).trans rfl;have Rz:=aA bR.out 0;have RA:=aA bR.out 1;have RB:=aA bR.out 2) | (go_at_call 93;(with_reducible refine (bn.calls k t167 false _ Ub.out).mono ?_);rintro e w' ⟨rfl,⟨nd,rfl⟩⟩))
     go_ret2
     exact ⟨by first | rfl | (simp [aI,aJ] <;> rfl) | (simp [*,aI,aJ] <;> rfl),by repeat (first | (with_reducible first | exact HB.out | apply ak | apply ah | apply au | refine aT ?_ kU.out) | exact HB.out)⟩
   ·rw [if_neg c9] at H
    have uy:(a3 == 16) = false:=beq_eq_false_iff_ne.mpr c9
    have EN:(a3 != 16) = true:=bne_iff_ne.mpr c9
    by_cases KP:(t167.size:Int) > 65535
    ·rw [if_pos KP] at H
     have Ug:decide (65535 < (t167.size:Int)) = true:=decide_eq_true KP
     have Uh:decide (65535 < t167.size) = true:=decide_eq_true (by omega)
     clear KP
     simp only [Option.some.injEq,Prod.mk.injEq] at H
     obtain ⟨rfl,rfl⟩:=H
     go_enter Try.func76,Try.ntmps76
     go_wp2_with (first | ((with_reducible refine aU (f:=79) rfl ?_);refine bP (some 23) rfl rfl Try.func79 (by kernel_rfl) rfl #[.string a0,.int .i64 a1,.int .i64 a2] rfl (by (try simp only [List.map_toArray,List.map_cons,List.map_nil]);first | done | rfl | (simp only [List.length_drop,List.length_take];rfl) | (simp only [ByteArray.size_append,Int.natCast_add];rfl) | (rw [B.dX] <;> first | rfl | omega | (simp only [decide_eq_false_iff_not,decide_eq_true_eq,Int.not_lt,Nat.not_lt,gt_iff_lt] at * <;> omega))) ?_;(with_reducible refine (bB.calls a0 a1 a2 t167 true _ A5.out).mono ?_);rintro e w' ⟨rfl,⟨nd,rfl⟩⟩;refine ⟨_,rfl,?_⟩) | ((with_reducible refine aU (f:=53) rfl ?_);refine bP (some 29) rfl rfl Try.func53 (by kernel_rfl) rfl #[.int .i64 a3] rfl (by (try simp only [List.map_toArray,List.map_cons,List.map_nil]);first | done | rfl | (simp only [List.length_drop,List.length_take];rfl) | (simp only [ByteArray.size_append,Int.natCast_add];rfl) | (rw [B.dX] <;> first | rfl | omega | (simp only [decide_eq_false_iff_not,decide_eq_true_eq,Int.not_lt,Nat.not_lt,gt_iff_lt] at * <;> omega))) ?_;(with_reducible refine (aN.calls k a3 iM kP t171 _ A7.out).mono ?_);rintro e w23 ⟨rfl,hb⟩;refine ⟨_,rfl,?_⟩;have eP:=aj.mk (bI (by repeat (first | (with_reducible first | exact HB.out | apply ak | apply ah | apply au) | exact HB.out)) hb);clear HB;have HB:=eP;clear eP;(try clear hb);(try clear hb2);(try clear hk);(try clear hi)) | ((with_reducible refine gL (N:=12) rfl ?_);(try (refine jE (by rfl) ?_;dsimp only));refine fU ?hg (N:=12) ?hd (cs:=#[.int .i64 0,.int .i64 0,.int .i64 0]) (t:=119) ?hr ?_;(case hd=>rfl);(case hg=>rfl);(case hr=>first | (go_simp;done) | (go_simp;rfl));intro dK hg w24 gX hb;have eP:=aj.mk (bI (by repeat (first | (with_reducible first | exact HB.out | apply ak | apply ah | apply au) | exact HB.out)) hb);have iE:=aj.mk (gX);have jJ:=aj.mk ((by rw [hg];exact (bK (by repeat (first | (with_reducible first | exact HB.out | apply ak | apply ah | apply au) | exact HB.out))):w.heap.size ≤ dK));have jQ:=aj.mk ((by rw [hg];exact (bK (by repeat (first | (with_reducible first | exact HB.out | apply ak | apply ah | apply au) | exact HB.out))):w.heap.size ≤ dK));clear HB;have HB:=eP;have bR:=iE;have Bg:=jJ;have kU:=jQ;clear eP iE jJ jQ;clear hb gX hg;have RD:w24.cell? ⟨dK,0,none⟩ = some (.int .i64 0):=(aK bR.out 0).trans rfl;have RF:w24.cell? ⟨dK,1,none⟩ = some (.int .i64 0):=(aK bR.out 1).trans rfl;have RG:w24.cell? ⟨dK,2,none⟩ = some (.int .i64 0):=(aK bR.out 2).trans rfl;have RH:=aA bR.out 0;have RI:=aA bR.out 1;have RJ:=aA bR.out 2))
     go_ret2
     exact ⟨by first | rfl | (simp [aI,aJ] <;> rfl) | (simp [*,aI,aJ] <;> rfl),by repeat (first | (with_reducible first | exact HB.out | apply ak | apply ah | apply au | refine aT ?_ kU.out) | exact HB.out)⟩
    ·rw [if_neg KP] at H
     have Ug:decide (65535 < (t167.size:Int)) = false:=decide_eq_false KP
     have Uh:decide (65535 < t167.size) = false:=decide_eq_false (by omega)
     clear KP
     simp only [Option.some.injEq,Prod.mk.injEq] at H
     obtain ⟨rfl,rfl⟩:=H
     go_enter Try.func76,Try.ntmps76
     go_wp2_with (first | ((with_reducible refine aU (f:=79) rfl ?_);refine bP (some 23) rfl rfl Try.func79 (by kernel_rfl) rfl #[.string a0,.int .i64 a1,.int .i64 a2] rfl (by (try simp only [List.map_toArray,List.map_cons,List.map_nil]);first | done | rfl | (simp only [List.length_drop,List.length_take];rfl) | (simp only [ByteArray.size_append,Int.natCast_add];rfl) | (rw [B.dX] <;> first | rfl | omega | (simp only [decide_eq_false_iff_not,decide_eq_true_eq,Int.not_lt,Nat.not_lt,gt_iff_lt] at * <;> omega))) ?_;(with_reducible refine (bB.calls a0 a1 a2 t167 true _ A5.out).mono ?_);rintro e w' ⟨rfl,⟨nd,rfl⟩⟩;refine ⟨_,rfl,?_⟩) | ((with_reducible refine aU (f:=53) rfl ?_);refine bP (some 29) rfl rfl Try.func53 (by kernel_rfl) rfl #[.int .i64 a3] rfl (by (try simp only [List.map_toArray,List.map_cons,List.map_nil]);first | done | rfl | (simp only [List.length_drop,List.length_take];rfl) | (simp only [ByteArray.size_append,Int.natCast_add];rfl) | (rw [B.dX] <;> first | rfl | omega | (simp only [decide_eq_false_iff_not,decide_eq_true_eq,Int.not_lt,Nat.not_lt,gt_iff_lt] at * <;> omega))) ?_;(with_reducible refine (aN.calls k a3 iM kP t171 _ A7.out).mono ?_);rintro e w26 ⟨rfl,hb⟩;refine ⟨_,rfl,?_⟩;have eP:=aj.mk (bI (by repeat (first | (with_reducible first | exact HB.out | apply ak | apply ah | apply au) | exact HB.out)) hb);clear HB;have HB:=eP;clear eP;(try clear hb);(try clear hb2);(try clear hk);(try clear hi)) | ((with_reducible refine gL (N:=12) rfl ?_);(try (refine jE (by rfl) ?_;dsimp only));refine fU ?hg (N:=12) ?hd (cs:=#[.int .i64 0,.int .i64 0,.int .i64 0]) (t:=119) ?hr ?_;(case hd=>rfl);(case hg=>rfl);(case hr=>first | (go_simp;done) | (go_simp;rfl));intro dK hg w27 gX hb;have eP:=aj.mk (bI (by repeat (first | (with_reducible first | exact HB.out | apply ak | apply ah | apply au) | exact HB.out)) hb);have iE:=aj.mk (gX);have jJ:=aj.mk ((by rw [hg];exact (bK (by repeat (first | (with_reducible first | exact HB.out | apply ak | apply ah | apply au) | exact HB.out))):w.heap.size ≤ dK));have jQ:=aj.mk ((by rw [hg];exact (bK (by repeat (first | (with_reducible first | exact HB.out | apply ak | apply ah | apply au) | exact HB.out))):w.heap.size ≤ dK));clear HB;have HB:=eP;have bR:=iE;have Bg:=jJ;have kU:=jQ;clear eP iE jJ jQ;clear hb gX hg;have RL:w27.cell? ⟨dK,0,none⟩ = some (.int .i64 0):=(aK bR.out 0).trans rfl;have RN:w27.cell? ⟨dK,1,none⟩ = some (.int .i64 0):=(aK bR.out 1).trans rfl;have RO:w27.cell? ⟨dK,2,none⟩ = some (.int .i64 0):=(aK bR.out 2).trans rfl;have RP:=aA bR.out 0;have RQ:=aA bR.out 1;have RS:=aA bR.out 2))
     go_ret2
     exact ⟨by first | rfl | (simp [aI,aJ] <;> rfl) | (simp [*,aI,aJ] <;> rfl),by repeat (first | (with_reducible first | exact HB.out | apply ak | apply ah | apply au | refine aT ?_ kU.out) | exact HB.out)⟩
  ·rw [if_neg c8] at H
   have vG:(iM == 0 && (kP == 0 && (t171 == 0))) = false:=by simpa using c8
   (try (have vH:decide (iM = 0 && (kP == 0 && (t171 == 0))) = false:=by simpa using c8))
   (try (have NI:(iM == 0 && (kP == 0 && (t171 == 0))) = false:=by simpa using c8))
   (try (have aaE:¬ (iM = 0 && (kP == 0 && (t171 == 0))):=by simpa using c8))
   clear c8
   by_cases WT:iM > a2
   ·rw [if_pos WT] at H
    have Ui:decide (a2 < iM) = true:=decide_eq_true WT
    clear WT
    simp only [Option.some.injEq,Prod.mk.injEq] at H
    obtain ⟨rfl,rfl⟩:=H
    go_enter Try.func76,Try.ntmps76
    go_wp2_with (first | ((with_reducible refine aU (f:=79) rfl ?_);refine bP (some 23) rfl rfl Try.func79 (by kernel_rfl) rfl #[.string a0,.int .i64 a1,.int .i64 a2] rfl (by (try simp only [List.map_toArray,List.map_cons,List.map_nil]);first | done | rfl | (simp only [List.length_drop,List.length_take];rfl) | (simp only [ByteArray.size_append,Int.natCast_add];rfl) | (rw [B.dX] <;> first | rfl | omega | (simp only [decide_eq_false_iff_not,decide_eq_true_eq,Int.not_lt,Nat.not_lt,gt_iff_lt] at * <;> omega))) ?_;(with_reducible refine (bB.calls a0 a1 a2 t167 true _ A5.out).mono ?_);rintro e w' ⟨rfl,⟨nd,rfl⟩⟩;refine ⟨_,rfl,?_⟩) | ((with_reducible refine aU (f:=53) rfl ?_);refine bP (some 29) rfl rfl Try.func53 (by kernel_rfl) rfl #[.int .i64 a3] rfl (by (try simp only [List.map_toArray,List.map_cons,List.map_nil]);first | done | rfl | (simp only [List.length_drop,List.length_take];rfl) | (simp only [ByteArray.size_append,Int.natCast_add];rfl) | (rw [B.dX] <;> first | rfl | omega | (simp only [decide_eq_false_iff_not,decide_eq_true_eq,Int.not_lt,Nat.not_lt,gt_iff_lt] at * <;> omega))) ?_;(with_reducible refine (aN.calls k a3 iM kP t171 _ A7.out).mono ?_);rintro e w30 ⟨rfl,hb⟩;refine ⟨_,rfl,?_⟩;have eP:=aj.mk (bI (by repeat (first | (with_reducible first | exact HB.out | apply ak | apply ah | apply au) | exact HB.out)) hb);clear HB;have HB:=eP;clear eP;(try clear hb);(try clear hb2);(try clear hk);(try clear hi)) | ((with_reducible refine gL (N:=12) rfl ?_);(try (refine jE (by rfl) ?_;dsimp only));refine fU ?hg (N:=12) ?hd (cs:=#[.int .i64 0,.int .i64 0,.int .i64 0]) (t:=119) ?hr ?_;(case hd=>rfl);(case hg=>rfl);(case hr=>first | (go_simp;done) | (go_simp;rfl));intro dK hg w31 gX hb;have eP:=aj.mk (bI (by repeat (first | (with_reducible first | exact HB.out | apply ak | apply ah | apply au) | exact HB.out)) hb);have iE:=aj.mk (gX);have jJ:=aj.mk ((by rw [hg];exact (bK (by repeat (first | (with_reducible first | exact HB.out | apply ak | apply ah | apply au) | exact HB.out))):w.heap.size ≤ dK));have jQ:=aj.mk ((by rw [hg];exact (bK (by repeat (first | (with_reducible first | exact HB.out | apply ak | apply ah | apply au) | exact HB.out))):w.heap.size ≤ dK));clear HB;have HB:=eP;have bR:=iE;have Bg:=jJ;have kU:=jQ;clear eP iE jJ jQ;clear hb gX hg;have IX:w31.cell? ⟨dK,0,none⟩ = some (.int .i64 0):=(aK bR.out 0).trans rfl;have IY:w31.cell? ⟨dK,1,none⟩ = some (.int .i64 0):=(aK bR.out 1).trans rfl;have IZ:w31.cell? ⟨dK,2,none⟩ = some (.int .i64 0):=(aK bR.out 2).trans rfl;have I4:=aA bR.out 0;have I5:=aA bR.out 1;have I6:=aA bR.out 2))
    go_ret2
    exact ⟨by first | rfl | (simp [aI,aJ] <;> rfl) | (simp [*,aI,aJ] <;> rfl),by repeat (first | (with_reducible first | exact HB.out | apply ak | apply ah | apply au | refine aT ?_ kU.out) | exact HB.out)⟩
   ·rw [if_neg WT] at H
    have Ui:decide (a2 < iM) = false:=decide_eq_false WT
    clear WT
    by_cases Gf:0 ≤ iM
    ·rw [if_pos Gf] at H
     have abv:=eq_true Gf
     have abw:decide (0 ≤ iM) = true:=decide_eq_true Gf
     clear Gf
     by_cases c34:iM ≤ (t167.size:Int)
     ·rw [if_pos c34] at H
      have abx:=eq_true c34
      have aby:decide (iM ≤ (t167.size:Int)) = true:=decide_eq_true c34
      clear c34
      have H':=aj.mk H
      clear H
      go_enter Try.func76,Try.ntmps76
      go_wp2_with (first | ((with_reducible refine aU (f:=79) rfl ?_);refine bP (some 23) rfl rfl Try.func79 (by kernel_rfl) rfl #[.string a0,.int .i64 a1,.int .i64 a2] rfl (by (try simp only [List.map_toArray,List.map_cons,List.map_nil]);first | done | rfl | (simp only [List.length_drop,List.length_take];rfl) | (simp only [ByteArray.size_append,Int.natCast_add];rfl) | (rw [B.dX] <;> first | rfl | omega | (simp only [decide_eq_false_iff_not,decide_eq_true_eq,Int.not_lt,Nat.not_lt,gt_iff_lt] at * <;> omega))) ?_;(with_reducible refine (bB.calls a0 a1 a2 t167 true _ A5.out).mono ?_);rintro e w' ⟨rfl,⟨nd,rfl⟩⟩;refine ⟨_,rfl,?_⟩) | ((with_reducible refine aU (f:=53) rfl ?_);refine bP (some 29) rfl rfl Try.func53 (by kernel_rfl) rfl #[.int .i64 a3] rfl (by (try simp only [List.map_toArray,List.map_cons,List.map_nil]);first | done | rfl | (simp only [List.length_drop,List.length_take];rfl) | (simp only [ByteArray.size_append,Int.natCast_add];rfl) | (rw [B.dX] <;> first | rfl | omega | (simp only [decide_eq_false_iff_not,decide_eq_true_eq,Int.not_lt,Nat.not_lt,gt_iff_lt] at * <;> omega))) ?_;(with_reducible refine (aN.calls k a3 iM kP t171 _ A7.out).mono ?_);rintro e w35 ⟨rfl,hb⟩;refine ⟨_,rfl,?_⟩;have eP:=aj.mk (bI (by repeat (first | (with_reducible first | exact HB.out | apply ak | apply ah | apply au) | exact HB.out)) hb);clear HB;have HB:=eP;clear eP;(try clear hb);(try clear hb2);(try clear hk);(try clear hi)) | ((with_reducible refine gL (N:=12) rfl ?_);(try (refine jE (by rfl) ?_;dsimp only));refine fU ?hg (N:=12) ?hd (cs:=#[.int .i64 0,.int .i64 0,.int .i64 0]) (t:=119) ?hr ?_;(case hd=>rfl);(case hg=>rfl);(case hr=>first | (go_simp;done) | (go_simp;rfl));intro dK hg w36 gX hb;have eP:=aj.mk (bI (by repeat (first | (with_reducible first | exact HB.out | apply ak | apply ah | apply au) | exact HB.out)) hb);have iE:=aj.mk (gX);have jJ:=aj.mk ((by rw [hg];exact (bK (by repeat (first | (with_reducible first | exact HB.out | apply ak | apply ah | apply au) | exact HB.out))):w.heap.size ≤ dK));have jQ:=aj.mk ((by rw [hg];exact (bK (by repeat (first | (with_reducible first | exact HB.out | apply ak | apply ah | apply au) | exact HB.out))):w.heap.size ≤ dK));clear HB;have HB:=eP;have bR:=iE;have Bg:=jJ;have kU:=jQ;clear eP iE jJ jQ;clear hb gX hg;have RU:w36.cell? ⟨dK,0,none⟩ = some (.int .i64 0):=(aK bR.out 0).trans rfl;have RV:w36.cell? ⟨dK,1,none⟩ = some (.int .i64 0):=(aK bR.out 1).trans rfl;have RX:w36.cell? ⟨dK,2,none⟩ = some (.int .i64 0):=(aK bR.out 2).trans rfl;have RY:=aA bR.out 0;have RZ:=aA bR.out 1;have R3:=aA bR.out 2))
      go_loopg [13,14,15] k (fun kq v13 v14 v15 w'=>∃ (dG:ByteArray) (bO:Int) (wG:Int),v13 = .string dG ∧ v14 = .int .i64 bO ∧ v15 = .int .i64 wG ∧ aj (aV.l0 kq a0 a1 a2 dG bO wG iM kP t171 = some (r1,r2)) ∧ aj (kq ≤ k) ∧ aj (w'.heap[dK]? = some (.cells #[.int .i64 iM,.int .i64 kP,.int .i64 t171] 119 (0,0))) ∧ aj (Below w.heap.size w w'))
      case atStart=>exact ⟨(t167.extract 0 (iM:Int).toNat),(wrap64 (a1 + iM)),(0),(by first | rfl | (simp;done) | (simp [*];done) | (simp [B.aX];done) | (simp [B.aY];done)),(by first | rfl | (simp;done) | (simp [*];done) | (simp [B.aX];done) | (simp [B.aY];done)),(by first | rfl | (simp;done) | (simp [*];done) | (simp [B.aX];done) | (simp [B.aY];done)),H',⟨Nat.le_refl _⟩,⟨by (with_reducible repeat (first | refine aG ?_ _ | refine aH ?_ | refine aD ?_ _));refine bU (cs:=#[.int .i64 iM,.int .i64 kP,.int .i64 0]) ?_ 2 _ rfl;(with_reducible repeat (first | refine aG ?_ _ | refine aH ?_ | refine aD ?_ _));refine bU (cs:=#[.int .i64 iM,.int .i64 0,.int .i64 0]) ?_ 1 _ rfl;(with_reducible repeat (first | refine aG ?_ _ | refine aH ?_ | refine aD ?_ _));refine bU (cs:=#[.int .i64 0,.int .i64 0,.int .i64 0]) ?_ 0 _ rfl;(with_reducible repeat (first | refine aG ?_ _ | refine aH ?_ | refine aD ?_ _));exact bR.out⟩,⟨by repeat (first | (with_reducible first | exact HB.out | apply ak | apply ah | apply au | refine aT ?_ kU.out) | exact HB.out)⟩⟩
      case round =>
       clear H'
       try clear c1
       try clear c2
       try clear p2
       try clear c3
       try clear c5
       try clear c6
       try clear p6
       try clear c7
       try clear c8
       try clear vG
       try clear vH
       try clear NI
       try clear c9
       try clear uy
       try clear EN
       try clear c11
       try clear c12
       try clear uz
       try clear uD
       try clear KP
       try clear Ug
       try clear Uh
       try clear WT
       try clear Ui
       try clear Gf
       try clear abv
       try clear abw
       try clear c34
       try clear abx
       try clear aby
       try clear C8
       try clear C9
       try clear Da
       try clear I7
       try clear I8
       try clear I9
       try clear Rw
       try clear Rx
       try clear Ry
       try clear RD
       try clear RF
       try clear RG
       try clear RL
       try clear RN
       try clear RO
       try clear IX
       try clear IY
       try clear IZ
       try clear RU
       try clear RV
       try clear RX
       try clear Db
       try clear Dc
       try clear Df
       try clear Ja
       try clear Jb
       try clear Jc
       try clear Rz
       try clear RA
       try clear RB
       try clear RH
       try clear RI
       try clear RJ
       try clear RP
       try clear RQ
       try clear RS
       try clear I4
       try clear I5
       try clear I6
       try clear RY
       try clear RZ
       try clear R3
       obtain ⟨dG,bO,wG,rfl,rfl,rfl,HA,wB,bR,HB⟩:=hrel
       cases gk with
       | zero=>exact absurd HA.out (by simp [aV.l0])
       | succ k1 =>
        have H:=HA.out
        clear HA
        simp only [aV.l0] at H
        by_cases Ec:wG < kP
        ·rw [if_pos Ec] at H
         have Ue:decide (wG < kP) = true:=decide_eq_true Ec
         clear Ec
         replace H:=zbm H
         obtain ⟨⟨E8,t175,E9⟩,abz,H⟩:=H
         replace H:(if E9 = 0 then (if dG.size + E8.size ≤ 9223372036854775807 then (aV.l0 k1 a0 a1 a2 (dG ++ E8) t175 (wrap64 (wG + 1)) iM kP t171) else (none)) else (some ((⟨#[]⟩:ByteArray),4))) = some (r1,r2):=H
         have A39:=aj.mk abz
         clear abz
         by_cases c40:E9 = 0
         ·rw [if_pos c40] at H
          have abA:(E9 == 0) = true:=beq_iff_eq.mpr c40
          have abB:(E9 != 0) = false:=bne_eq_false_iff_eq.mpr c40
          clear c40
          by_cases JI:dG.size + E8.size ≤ 9223372036854775807
          ·rw [if_pos JI] at H
           have ahZ:=eq_true JI
           have ah0:decide (dG.size + E8.size ≤ 9223372036854775807) = true:=decide_eq_true JI
           try have ah1:(9223372036854775807 < dG.size + E8.size) = False:=eq_false (Nat.not_lt.2 JI)
           have H':=aj.mk H
           clear H
           have Rc:wr.cell? ⟨dK,0,none⟩ = some (.int .i64 iM):=(aK bR.out 0).trans rfl
           have Rf:wr.cell? ⟨dK,1,none⟩ = some (.int .i64 kP):=(aK bR.out 1).trans rfl
           have Rh:wr.cell? ⟨dK,2,none⟩ = some (.int .i64 t171):=(aK bR.out 2).trans rfl
           have Ri:=aA bR.out 0
           have Rj:=aA bR.out 1
           have Rk:=aA bR.out 2
           go_wp2_with (first | ((with_reducible refine aU (f:=54) rfl ?_);refine bP (some 67) rfl rfl Try.func54 (by kernel_rfl) rfl #[.string a0,.int .i64 bO] rfl (by (try simp only [List.map_toArray,List.map_cons,List.map_nil]);first | done | rfl | (simp only [List.length_drop,List.length_take];rfl) | (simp only [ByteArray.size_append,Int.natCast_add];rfl) | (rw [B.dX] <;> first | rfl | omega | (simp only [decide_eq_false_iff_not,decide_eq_true_eq,Int.not_lt,Nat.not_lt,gt_iff_lt] at * <;> omega))) ?_;(with_reducible refine (aR.calls k1 a0 bO E8 t175 E9 _ A39.out).mono ?_);rintro e w' ⟨rfl,⟨nd,rfl⟩⟩;refine ⟨_,rfl,?_⟩))
           go_roundg k1
           case measure=>have:=wB.out;omega
           case rel=>exact ⟨(dG ++ E8),(t175),(wrap64 (wG + 1)),(by first | rfl | (simp;done) | (simp [*];done) | (simp [B.aX];done) | (simp [B.aY];done)),(by first | rfl | (simp;done) | (simp [*];done) | (simp [B.aX];done) | (simp [B.aY];done)),(by first | rfl | (simp;done) | (simp [*];done) | (simp [B.aX];done) | (simp [B.aY];done)),H',⟨by have:=wB.out;omega⟩,⟨by (with_reducible repeat (first | refine aG ?_ _ | refine aH ?_ | refine aD ?_ _));exact bR.out⟩,⟨by repeat (first | (with_reducible first | exact HB.out | apply ak | apply ah | apply au | refine aT ?_ kU.out) | exact HB.out)⟩⟩
          ·rw [if_neg JI] at H
           exact absurd H (by simp)
         ·rw [if_neg c40] at H
          have abA:(E9 == 0) = false:=beq_eq_false_iff_ne.mpr c40
          have abB:(E9 != 0) = true:=bne_iff_ne.mpr c40
          simp only [Option.some.injEq,Prod.mk.injEq] at H
          obtain ⟨rfl,rfl⟩:=H
          have aeb:wr.cell? ⟨dK,0,none⟩ = some (.int .i64 iM):=(aK bR.out 0).trans rfl
          have aec:wr.cell? ⟨dK,1,none⟩ = some (.int .i64 kP):=(aK bR.out 1).trans rfl
          have aed:wr.cell? ⟨dK,2,none⟩ = some (.int .i64 t171):=(aK bR.out 2).trans rfl
          have aee:=aA bR.out 0
          have aef:=aA bR.out 1
          have aeg:=aA bR.out 2
          go_wp2_with (first | ((with_reducible refine aU (f:=54) rfl ?_);refine bP (some 67) rfl rfl Try.func54 (by kernel_rfl) rfl #[.string a0,.int .i64 bO] rfl (by (try simp only [List.map_toArray,List.map_cons,List.map_nil]);first | done | rfl | (simp only [List.length_drop,List.length_take];rfl) | (simp only [ByteArray.size_append,Int.natCast_add];rfl) | (rw [B.dX] <;> first | rfl | omega | (simp only [decide_eq_false_iff_not,decide_eq_true_eq,Int.not_lt,Nat.not_lt,gt_iff_lt] at * <;> omega))) ?_;(with_reducible refine (aR.calls k1 a0 bO E8 t175 E9 _ A39.out).mono ?_);rintro e w' ⟨rfl,⟨nd,rfl⟩⟩;refine ⟨_,rfl,?_⟩))
          go_ret2
          exact ⟨by first | rfl | (simp [aI,aJ] <;> rfl) | (simp [*,aI,aJ] <;> rfl),by repeat (first | (with_reducible first | exact HB.out | apply ak | apply ah | apply au | refine aT ?_ kU.out) | exact HB.out)⟩
        ·rw [if_neg Ec] at H
         have Ue:decide (wG < kP) = false:=decide_eq_false Ec
         clear Ec
         by_cases FE:(wrap64 (bO + t171)) = (wrap64 (a1 + a2))
         ·rw [if_pos FE] at H
          have abC:((wrap64 (bO + t171)) == (wrap64 (a1 + a2))) = true:=beq_iff_eq.mpr FE
          have abD:((wrap64 (bO + t171)) != (wrap64 (a1 + a2))) = false:=bne_eq_false_iff_eq.mpr FE
          (try (have abE:(((bO + t171)) == ((a1 + a2))) = true:=by have h_:((wrap64 (bO + t171)) == (wrap64 (a1 + a2))) = true:=beq_iff_eq.mpr FE;rw [B.dX (by omega) (by omega)] at h_;rw [B.dX (by omega) (by omega)] at h_;exact h_))
          (try (have abF:(((bO + t171)) != ((a1 + a2))) = false:=by have h_:((wrap64 (bO + t171)) != (wrap64 (a1 + a2))) = false:=bne_eq_false_iff_eq.mpr FE;rw [B.dX (by omega) (by omega)] at h_;rw [B.dX (by omega) (by omega)] at h_;exact h_))
          clear FE
          by_cases c45:0 ≤ bO
          ·rw [if_pos c45] at H
           have ah2:=eq_true c45
           have ah3:decide (0 ≤ bO) = true:=decide_eq_true c45
           clear c45
           by_cases c46:bO ≤ (wrap64 (a1 + a2))
           ·rw [if_pos c46] at H
            have ah4:=eq_true c46
            have ah5:decide (bO ≤ (wrap64 (a1 + a2))) = true:=decide_eq_true c46
            by_cases c47:(wrap64 (a1 + a2)) ≤ (a0.size:Int)
            ·rw [if_pos c47] at H
             have ah6:=eq_true c47
             have ah7:decide ((wrap64 (a1 + a2)) ≤ (a0.size:Int)) = true:=decide_eq_true c47
             by_cases c48:dG.size + (a0.extract (bO:Int).toNat ((wrap64 (a1 + a2)):Int).toNat).size ≤ 9223372036854775807
             ·rw [if_pos c48] at H
              have ah8:=eq_true c48
              have ah9:decide (dG.size + (a0.extract (bO:Int).toNat ((wrap64 (a1 + a2)):Int).toNat).size ≤ 9223372036854775807) = true:=decide_eq_true c48
              try have aia:(9223372036854775807 < dG.size + (a0.extract (bO:Int).toNat ((wrap64 (a1 + a2)):Int).toNat).size) = False:=eq_false (Nat.not_lt.2 c48)
              by_cases c49:((dG ++ (a0.extract (bO:Int).toNat ((wrap64 (a1 + a2)):Int).toNat)).size:Int) > 65535
              ·rw [if_pos c49] at H
               have abG:decide (65535 < ((dG ++ (a0.extract (bO:Int).toNat ((wrap64 (a1 + a2)):Int).toNat)).size:Int)) = true:=decide_eq_true c49
               have abH:decide (65535 < (dG ++ (a0.extract (bO:Int).toNat ((wrap64 (a1 + a2)):Int).toNat)).size) = true:=decide_eq_true (by omega)
               (try (have abI:decide (65535 < ((dG.size:Int) + ((a0.extract (bO:Int).toNat ((wrap64 (a1 + a2)):Int).toNat).size:Int))) = true:=by have h_:decide (65535 < ((dG ++ (a0.extract (bO:Int).toNat ((wrap64 (a1 + a2)):Int).toNat)).size:Int)) = true:=decide_eq_true c49;rw [show ((dG ++ (a0.extract (bO:Int).toNat ((wrap64 (a1 + a2)):Int).toNat)).size:Int) = ((dG.size:Int) + ((a0.extract (bO:Int).toNat ((wrap64 (a1 + a2)):Int).toNat).size:Int)) from by (simp only [ByteArray.size_append,Int.natCast_add];first | done | rfl)] at h_;(first | exact h_ | (simp only [Int.add_sub_cancel] at h_;exact h_))))
               (try (have abJ:decide (65535 < ((dG.size:Int) + ((((wrap64 (a1 + a2)):Int).toNat - (bO:Int).toNat:Nat):Int))) = true:=by have h_:decide (65535 < ((dG ++ (a0.extract (bO:Int).toNat ((wrap64 (a1 + a2)):Int).toNat)).size:Int)) = true:=decide_eq_true c49;rw [show ((dG ++ (a0.extract (bO:Int).toNat ((wrap64 (a1 + a2)):Int).toNat)).size:Int) = ((dG.size:Int) + ((a0.extract (bO:Int).toNat ((wrap64 (a1 + a2)):Int).toNat).size:Int)) from by (simp only [ByteArray.size_append,Int.natCast_add];first | done | rfl)] at h_;rw [show ((a0.extract (bO:Int).toNat ((wrap64 (a1 + a2)):Int).toNat).size:Int) = ((((wrap64 (a1 + a2)):Int).toNat - (bO:Int).toNat:Nat):Int) from by (have h1_:(wrap64 (a1 + a2)) ≤ (a0.size:Int):=of_decide_eq_true (by assumption);rw [ByteArray.size_extract];omega)] at h_;exact h_))
               (try (have abK:decide (65535 < ((dG ++ (a0.extract (bO:Int).toNat (((a1 + a2)):Int).toNat)).size:Int)) = true:=by have h_:decide (65535 < ((dG ++ (a0.extract (bO:Int).toNat ((wrap64 (a1 + a2)):Int).toNat)).size:Int)) = true:=decide_eq_true c49;rw [B.dX (by omega) (by omega)] at h_;exact h_))
               (try (have abL:decide (65535 < (dG ++ (a0.extract (bO:Int).toNat (((a1 + a2)):Int).toNat)).size) = true:=by have h_:decide (65535 < (dG ++ (a0.extract (bO:Int).toNat ((wrap64 (a1 + a2)):Int).toNat)).size) = true:=decide_eq_true (by omega);rw [B.dX (by omega) (by omega)] at h_;exact h_))
               (try (have abM:decide (65535 < ((dG.size:Int) + ((a0.extract (bO:Int).toNat (((a1 + a2)):Int).toNat).size:Int))) = true:=by have h_:decide (65535 < ((dG.size:Int) + ((a0.extract (bO:Int).toNat ((wrap64 (a1 + a2)):Int).toNat).size:Int))) = true:=by have h_:decide (65535 < ((dG ++ (a0.extract (bO:Int).toNat ((wrap64 (a1 + a2)):Int).toNat)).size:Int)) = true:=decide_eq_true c49;rw [show ((dG ++ (a0.extract (bO:Int).toNat ((wrap64 (a1 + a2)):Int).toNat)).size:Int) = ((dG.size:Int) + ((a0.extract (bO:Int).toNat ((wrap64 (a1 + a2)):Int).toNat).size:Int)) from by (simp only [ByteArray.size_append,Int.natCast_add];first | done | rfl)] at h_;(first | exact h_ | (simp only [Int.add_sub_cancel] at h_;exact h_));rw [B.dX (by omega) (by omega)] at h_;exact h_))
               (try (have abN:decide (65535 < ((dG.size:Int) + (((((a1 + a2)):Int).toNat - (bO:Int).toNat:Nat):Int))) = true:=by have h_:decide (65535 < ((dG.size:Int) + ((((wrap64 (a1 + a2)):Int).toNat - (bO:Int).toNat:Nat):Int))) = true:=by have h_:decide (65535 < ((dG ++ (a0.extract (bO:Int).toNat ((wrap64 (a1 + a2)):Int).toNat)).size:Int)) = true:=decide_eq_true c49;rw [show ((dG ++ (a0.extract (bO:Int).toNat ((wrap64 (a1 + a2)):Int).toNat)).size:Int) = ((dG.size:Int) + ((a0.extract (bO:Int).toNat ((wrap64 (a1 + a2)):Int).toNat).size:Int)) from by (simp only [ByteArray.size_append,Int.natCast_add];first | done | rfl)] at h_;rw [show ((a0.extract (bO:Int).toNat ((wrap64 (a1 + a2)):Int).toNat).size:Int) = ((((wrap64 (a1 + a2)):Int).toNat - (bO:Int).toNat:Nat):Int) from by (have h1_:(wrap64 (a1 + a2)) ≤ (a0.size:Int):=of_decide_eq_true (by assumption);rw [ByteArray.size_extract];omega)] at h_;exact h_;rw [B.dX (by omega) (by omega)] at h_;exact h_))
               clear c49
               simp only [Option.some.injEq,Prod.mk.injEq] at H
               obtain ⟨rfl,rfl⟩:=H
               have aeh:wr.cell? ⟨dK,0,none⟩ = some (.int .i64 iM):=(aK bR.out 0).trans rfl
               have aei:wr.cell? ⟨dK,1,none⟩ = some (.int .i64 kP):=(aK bR.out 1).trans rfl
               have aej:wr.cell? ⟨dK,2,none⟩ = some (.int .i64 t171):=(aK bR.out 2).trans rfl
               have aek:=aA bR.out 0
               have ael:=aA bR.out 1
               have aem:=aA bR.out 2
               go_wp2
               go_ret2
               exact ⟨by first | rfl | (simp [aI,aJ] <;> rfl) | (simp [*,aI,aJ] <;> rfl),by repeat (first | (with_reducible first | exact HB.out | apply ak | apply ah | apply au | refine aT ?_ kU.out) | exact HB.out)⟩
              ·rw [if_neg c49] at H
               have abG:decide (65535 < ((dG ++ (a0.extract (bO:Int).toNat ((wrap64 (a1 + a2)):Int).toNat)).size:Int)) = false:=decide_eq_false c49
               have abH:decide (65535 < (dG ++ (a0.extract (bO:Int).toNat ((wrap64 (a1 + a2)):Int).toNat)).size) = false:=decide_eq_false (by omega)
               (try (have abI:decide (65535 < ((dG.size:Int) + ((a0.extract (bO:Int).toNat ((wrap64 (a1 + a2)):Int).toNat).size:Int))) = false:=by have h_:decide (65535 < ((dG ++ (a0.extract (bO:Int).toNat ((wrap64 (a1 + a2)):Int).toNat)).size:Int)) = false:=decide_eq_false c49;rw [show ((dG ++ (a0.extract (bO:Int).toNat ((wrap64 (a1 + a2)):Int).toNat)).size:Int) = ((dG.size:Int) + ((a0.extract (bO:Int).toNat ((wrap64 (a1 + a2)):Int).toNat).size:Int)) from by (simp only [ByteArray.size_append,Int.natCast_add];first | done | rfl)] at h_;(first | exact h_ | (simp only [Int.add_sub_cancel] at h_;exact h_))))
               (try (have abJ:decide (65535 < ((dG.size:Int) + ((((wrap64 (a1 + a2)):Int).toNat - (bO:Int).toNat:Nat):Int))) = false:=by have h_:decide (65535 < ((dG ++ (a0.extract (bO:Int).toNat ((wrap64 (a1 + a2)):Int).toNat)).size:Int)) = false:=decide_eq_false c49;rw [show ((dG ++ (a0.extract (bO:Int).toNat ((wrap64 (a1 + a2)):Int).toNat)).size:Int) = ((dG.size:Int) + ((a0.extract (bO:Int).toNat ((wrap64 (a1 + a2)):Int).toNat).size:Int)) from by (simp only [ByteArray.size_append,Int.natCast_add];first | done | rfl)] at h_;rw [show ((a0.extract (bO:Int).toNat ((wrap64 (a1 + a2)):Int).toNat).size:Int) = ((((wrap64 (a1 + a2)):Int).toNat - (bO:Int).toNat:Nat):Int) from by (have h1_:(wrap64 (a1 + a2)) ≤ (a0.size:Int):=of_decide_eq_true (by assumption);rw [ByteArray.size_extract];omega)] at h_;exact h_))
               (try (have abK:decide (65535 < ((dG ++ (a0.extract (bO:Int).toNat (((a1 + a2)):Int).toNat)).size:Int)) = false:=by have h_:decide (65535 < ((dG ++ (a0.extract (bO:Int).toNat ((wrap64 (a1 + a2)):Int).toNat)).size:Int)) = false:=decide_eq_false c49;rw [B.dX (by omega) (by omega)] at h_;exact h_))
               (try (have abL:decide (65535 < (dG ++ (a0.extract (bO:Int).toNat (((a1 + a2)):Int).toNat)).size) = false:=by have h_:decide (65535 < (dG ++ (a0.extract (bO:Int).toNat ((wrap64 (a1 + a2)):Int).toNat)).size) = false:=decide_eq_false (by omega);rw [B.dX (by omega) (by omega)] at h_;exact h_))
               (try (have abM:decide (65535 < ((dG.size:Int) + ((a0.extract (bO:Int).toNat (((a1 + a2)):Int).toNat).size:Int))) = false:=by have h_:decide (65535 < ((dG.size:Int) + ((a0.extract (bO:Int).toNat ((wrap64 (a1 + a2)):Int).toNat).size:Int))) = false:=by have h_:decide (65535 < ((dG ++ (a0.extract (bO:Int).toNat ((wrap64 (a1 + a2)):Int).toNat)).size:Int)) = false:=decide_eq_false c49;rw [show ((dG ++ (a0.extract (bO:Int).toNat ((wrap64 (a1 + a2)):Int).toNat)).size:Int) = ((dG.size:Int) + ((a0.extract (bO:Int).toNat ((wrap64 (a1 + a2)):Int).toNat).size:Int)) from by (simp only [ByteArray.size_append,Int.natCast_add];first | done | rfl)] at h_;(first | exact h_ | (simp only [Int.add_sub_cancel] at h_;exact h_));rw [B.dX (by omega) (by omega)] at h_;exact h_))
               (try (have abN:decide (65535 < ((dG.size:Int) + (((((a1 + a2)):Int).toNat - (bO:Int).toNat:Nat):Int))) = false:=by have h_:decide (65535 < ((dG.size:Int) + ((((wrap64 (a1 + a2)):Int).toNat - (bO:Int).toNat:Nat):Int))) = false:=by have h_:decide (65535 < ((dG ++ (a0.extract (bO:Int).toNat ((wrap64 (a1 + a2)):Int).toNat)).size:Int)) = false:=decide_eq_false c49;rw [show ((dG ++ (a0.extract (bO:Int).toNat ((wrap64 (a1 + a2)):Int).toNat)).size:Int) = ((dG.size:Int) + ((a0.extract (bO:Int).toNat ((wrap64 (a1 + a2)):Int).toNat).size:Int)) from by (simp only [ByteArray.size_append,Int.natCast_add];first | done | rfl)] at h_;rw [show ((a0.extract (bO:Int).toNat ((wrap64 (a1 + a2)):Int).toNat).size:Int) = ((((wrap64 (a1 + a2)):Int).toNat - (bO:Int).toNat:Nat):Int) from by (have h1_:(wrap64 (a1 + a2)) ≤ (a0.size:Int):=of_decide_eq_true (by assumption);rw [ByteArray.size_extract];omega)] at h_;exact h_;rw [B.dX (by omega) (by omega)] at h_;exact h_))
               clear c49
               simp only [Option.some.injEq,Prod.mk.injEq] at H
               obtain ⟨rfl,rfl⟩:=H
               have aen:wr.cell? ⟨dK,0,none⟩ = some (.int .i64 iM):=(aK bR.out 0).trans rfl
               have aeo:wr.cell? ⟨dK,1,none⟩ = some (.int .i64 kP):=(aK bR.out 1).trans rfl
               have aep:wr.cell? ⟨dK,2,none⟩ = some (.int .i64 t171):=(aK bR.out 2).trans rfl
               have aer:=aA bR.out 0
               have aes:=aA bR.out 1
               have aeu:=aA bR.out 2
               go_wp2
               go_ret2
               exact ⟨by first | rfl | (simp [aI,aJ] <;> rfl) | (simp [*,aI,aJ] <;> rfl),by repeat (first | (with_reducible first | exact HB.out | apply ak | apply ah | apply au | refine aT ?_ kU.out) | exact HB.out)⟩
             ·rw [if_neg c48] at H
              exact absurd H (by simp)
            ·rw [if_neg c47] at H
             exact absurd H (by simp)
           ·rw [if_neg c46] at H
            exact absurd H (by simp)
          ·rw [if_neg c45] at H
           exact absurd H (by simp)
         ·rw [if_neg FE] at H
          have abC:((wrap64 (bO + t171)) == (wrap64 (a1 + a2))) = false:=beq_eq_false_iff_ne.mpr FE
          have abD:((wrap64 (bO + t171)) != (wrap64 (a1 + a2))) = true:=bne_iff_ne.mpr FE
          (try (have abE:(((bO + t171)) == ((a1 + a2))) = false:=by have h_:((wrap64 (bO + t171)) == (wrap64 (a1 + a2))) = false:=beq_eq_false_iff_ne.mpr FE;rw [B.dX (by omega) (by omega)] at h_;rw [B.dX (by omega) (by omega)] at h_;exact h_))
          (try (have abF:(((bO + t171)) != ((a1 + a2))) = true:=by have h_:((wrap64 (bO + t171)) != (wrap64 (a1 + a2))) = true:=bne_iff_ne.mpr FE;rw [B.dX (by omega) (by omega)] at h_;rw [B.dX (by omega) (by omega)] at h_;exact h_))
          simp only [Option.some.injEq,Prod.mk.injEq] at H
          obtain ⟨rfl,rfl⟩:=H
          have aev:wr.cell? ⟨dK,0,none⟩ = some (.int .i64 iM):=(aK bR.out 0).trans rfl
          have aew:wr.cell? ⟨dK,1,none⟩ = some (.int .i64 kP):=(aK bR.out 1).trans rfl
          have aex:wr.cell? ⟨dK,2,none⟩ = some (.int .i64 t171):=(aK bR.out 2).trans rfl
          have aey:=aA bR.out 0
          have aez:=aA bR.out 1
          have aeA:=aA bR.out 2
          go_wp2
          go_ret2
          exact ⟨by first | rfl | (simp [aI,aJ] <;> rfl) | (simp [*,aI,aJ] <;> rfl),by repeat (first | (with_reducible first | exact HB.out | apply ak | apply ah | apply au | refine aT ?_ kU.out) | exact HB.out)⟩
     ·rw [if_neg c34] at H
      exact absurd H (by simp)
    ·rw [if_neg Gf] at H
     exact absurd H (by simp)
 ·replace c6:=Bool.eq_false_iff.mpr c6
  subst c6
  have H1:(some ((⟨#[]⟩:ByteArray),2)) = some (r1,r2):=by rw [if_neg (show ¬ (false = true) by decide)] at H;exact H
  clear H
  have H:=H1
  clear H1
  simp only [Option.some.injEq,Prod.mk.injEq] at H
  obtain ⟨rfl,rfl⟩:=H
  go_enter Try.func76,Try.ntmps76
  go_wp2_with (first | ((with_reducible refine aU (f:=79) rfl ?_);refine bP (some 23) rfl rfl Try.func79 (by kernel_rfl) rfl #[.string a0,.int .i64 a1,.int .i64 a2] rfl (by (try simp only [List.map_toArray,List.map_cons,List.map_nil]);first | done | rfl | (simp only [List.length_drop,List.length_take];rfl) | (simp only [ByteArray.size_append,Int.natCast_add];rfl) | (rw [B.dX] <;> first | rfl | omega | (simp only [decide_eq_false_iff_not,decide_eq_true_eq,Int.not_lt,Nat.not_lt,gt_iff_lt] at * <;> omega))) ?_;(with_reducible refine (bB.calls a0 a1 a2 t167 false _ A5.out).mono ?_);rintro e w' ⟨rfl,⟨nd,rfl⟩⟩;refine ⟨_,rfl,?_⟩))
  go_ret2
  exact ⟨by first | rfl | (simp [aI,aJ] <;> rfl) | (simp [*,aI,aJ] <;> rfl),by repeat (first | (with_reducible first | exact HB.out | apply ak | apply ah | apply au) | exact HB.out)⟩
def dA.f (k:Nat) (a0:Int) (a1:ByteArray):Option (Bool):=if (a1.size:Int) > 65535 then (some false) else ((aV.f k a1 0 (a1.size:Int) a0).bind fun Fa=>(if Fa.2 = 0 then (some (Fa.1.toList == a1.toList)) else (some false)))
set_option maxHeartbeats 8000000 in
set_option maxRecDepth 100000 in
theorem dA.calls (k:Nat) (a0:Int) (a1:ByteArray) (r:Bool) (w:World) (h:dA.f k a0 a1 = some r) :
  Calls Try.prog 52 #[.int .i64 a0,.string a1] w fun e w'=>e = .returned (.bool r) ∧ Below w.heap.size w w':=by
 have HB:=aj.mk (Below.refl w.heap.size w)
 have H:(if (a1.size:Int) > 65535 then (some false) else ((aV.f k a1 0 (a1.size:Int) a0).bind fun Fa=>(if Fa.2 = 0 then (some (Fa.1.toList == a1.toList)) else (some false)))) = some r:=h
 clear h
 by_cases c3:(a1.size:Int) > 65535
 ·rw [if_pos c3] at H
  have qX:decide (65535 < (a1.size:Int)) = true:=decide_eq_true c3
  have CQ:decide (65535 < a1.size) = true:=decide_eq_true (by omega)
  clear c3
  obtain rfl:=Option.some.inj H
  go_enter Try.func52,Try.ntmps52
  go_wp2
  go_ret
  exact ⟨by first | rfl | (simp [aI,aJ] <;> rfl) | (simp [*,aI,aJ] <;> rfl),by repeat (first | (with_reducible first | exact HB.out | apply ak | apply ah | apply au) | exact HB.out)⟩
 ·rw [if_neg c3] at H
  have qX:decide (65535 < (a1.size:Int)) = false:=decide_eq_false c3
  have CQ:decide (65535 < a1.size) = false:=decide_eq_false (by omega)
  clear c3
  replace H:=zbm H
  obtain ⟨⟨WU,Fb⟩,EO,H⟩:=H
  replace H:(if Fb = 0 then (some (WU.toList == a1.toList)) else (some false)) = some r:=H
  have A4:=aj.mk EO
  clear EO
  by_cases c5:Fb = 0
  ·rw [if_pos c5] at H
   have qg:(Fb == 0) = true:=beq_iff_eq.mpr c5
   have vJ:(Fb != 0) = false:=bne_eq_false_iff_eq.mpr c5
   clear c5
   obtain rfl:=Option.some.inj H
   go_enter Try.func52,Try.ntmps52
   go_wp2_with (first | ((with_reducible refine aU (f:=76) rfl ?_);refine bP (some 15) rfl rfl Try.func76 (by kernel_rfl) rfl #[.string a1,.int .i64 0,.int .i64 (a1.size:Int),.int .i64 a0] rfl (by (try simp only [List.map_toArray,List.map_cons,List.map_nil]);first | done | rfl | (simp only [List.length_drop,List.length_take];rfl) | (simp only [ByteArray.size_append,Int.natCast_add];rfl) | (rw [B.dX] <;> first | rfl | omega | (simp only [decide_eq_false_iff_not,decide_eq_true_eq,Int.not_lt,Nat.not_lt,gt_iff_lt] at * <;> omega))) ?_;(with_reducible refine (aV.calls k a1 0 (a1.size:Int) a0 WU Fb _ A4.out).mono ?_);rintro e w6 ⟨rfl,hb⟩;refine ⟨_,rfl,?_⟩;have eP:=aj.mk (bI (by repeat (first | (with_reducible first | exact HB.out | apply ak | apply ah | apply au) | exact HB.out)) hb);clear HB;have HB:=eP;clear eP;(try clear hb);(try clear hb2);(try clear hk);(try clear hi)))
   go_ret
   exact ⟨by first | rfl | (simp [aI,aJ] <;> rfl) | (simp [*,aI,aJ] <;> rfl),by repeat (first | (with_reducible first | exact HB.out | apply ak | apply ah | apply au) | exact HB.out)⟩
  ·rw [if_neg c5] at H
   have qg:(Fb == 0) = false:=beq_eq_false_iff_ne.mpr c5
   have vJ:(Fb != 0) = true:=bne_iff_ne.mpr c5
   obtain rfl:=Option.some.inj H
   go_enter Try.func52,Try.ntmps52
   go_wp2_with (first | ((with_reducible refine aU (f:=76) rfl ?_);refine bP (some 15) rfl rfl Try.func76 (by kernel_rfl) rfl #[.string a1,.int .i64 0,.int .i64 (a1.size:Int),.int .i64 a0] rfl (by (try simp only [List.map_toArray,List.map_cons,List.map_nil]);first | done | rfl | (simp only [List.length_drop,List.length_take];rfl) | (simp only [ByteArray.size_append,Int.natCast_add];rfl) | (rw [B.dX] <;> first | rfl | omega | (simp only [decide_eq_false_iff_not,decide_eq_true_eq,Int.not_lt,Nat.not_lt,gt_iff_lt] at * <;> omega))) ?_;(with_reducible refine (aV.calls k a1 0 (a1.size:Int) a0 WU Fb _ A4.out).mono ?_);rintro e w7 ⟨rfl,hb⟩;refine ⟨_,rfl,?_⟩;have eP:=aj.mk (bI (by repeat (first | (with_reducible first | exact HB.out | apply ak | apply ah | apply au) | exact HB.out)) hb);clear HB;have HB:=eP;clear eP;(try clear hb);(try clear hb2);(try clear hk);(try clear hi)))
   go_ret
   exact ⟨by first | rfl | (simp [aI,aJ] <;> rfl) | (simp [*,aI,aJ] <;> rfl),by repeat (first | (with_reducible first | exact HB.out | apply ak | apply ah | apply au) | exact HB.out)⟩
def bD.l0 : Nat → ByteArray → List ByteArray → Int → Int → Int → Int → Int → Option (List ByteArray)
 | 0,_,_,_,_,_,_,_=>none
 | k + 1,x1,x5,x7,x8,R4,Jg,R5=>if x8 < Jg then ((aR.f k x1 x7).bind fun Uj=>(if x5.length < 8796093022208 then (bD.l0 k x1 (x5 ++ [Uj.1]) Uj.2.1 (wrap64 (x8 + 1)) R4 Jg R5) else (none))) else (some x5)
def bD.f (k:Nat) (a0:Int) (a1:ByteArray):Option (List ByteArray):=(dA.f k a0 a1).bind fun Kt=>(if Kt = true then ((aN.f k a0).bind fun kQ=>(bD.l0 k a1 ([]:List ByteArray) kQ.1 0 kQ.1 kQ.2.1 kQ.2.2)) else (some ([]:List ByteArray)))
set_option maxHeartbeats 8000000 in
set_option maxRecDepth 100000 in
theorem bD.calls (k:Nat) (a0:Int) (a1:ByteArray) (r:List ByteArray) (w:World) (h:bD.f k a0 a1 = some r) :
  Calls Try.prog 30 #[.int .i64 a0,.string a1] w fun e w'=>∃ Ny:Value,e = .returned (Ny) ∧ Kd.R Kd.string 9 w' w.heap.size (fun _=>True) Ny r ∧ Below w.heap.size w w':=by
 have Uf:=Try.underlying119
 have HB:=aj.mk (Below.refl w.heap.size w)
 have H:((dA.f k a0 a1).bind fun Kt=>(if Kt = true then ((aN.f k a0).bind fun kQ=>(bD.l0 k a1 ([]:List ByteArray) kQ.1 0 kQ.1 kQ.2.1 kQ.2.2)) else (some ([]:List ByteArray)))) = some r:=h
 clear h
 replace H:=zbm H
 obtain ⟨Kt,Ua,H⟩:=H
 replace H:(if Kt = true then ((aN.f k a0).bind fun kQ=>(bD.l0 k a1 ([]:List ByteArray) kQ.1 0 kQ.1 kQ.2.1 kQ.2.2)) else (some ([]:List ByteArray))) = some r:=H
 have A3:=aj.mk Ua
 clear Ua
 by_cases c4:Kt = true
 ·subst c4
  have H1:((aN.f k a0).bind fun kQ=>(bD.l0 k a1 ([]:List ByteArray) kQ.1 0 kQ.1 kQ.2.1 kQ.2.2)) = some r:=by rw [if_pos rfl] at H;exact H
  clear H
  have H:=H1
  clear H1
  replace H:=zbm H
  obtain ⟨⟨vK,vL,t182⟩,A50,H⟩:=H
  replace H:(bD.l0 k a1 ([]:List ByteArray) vK 0 vK vL t182) = some r:=H
  have A5:=aj.mk A50
  clear A50
  have H':=aj.mk H
  clear H
  go_enter Try.func30,Try.ntmps30
  go_wp2_with (first | ((with_reducible refine aU (f:=52) rfl ?_);refine bP (some 14) rfl rfl Try.func52 (by kernel_rfl) rfl #[.int .i64 a0,.string a1] rfl (by (try simp only [List.map_toArray,List.map_cons,List.map_nil]);first | done | rfl | (simp only [List.length_drop,List.length_take];rfl) | (simp only [ByteArray.size_append,Int.natCast_add];rfl) | (rw [B.dX] <;> first | rfl | omega | (simp only [decide_eq_false_iff_not,decide_eq_true_eq,Int.not_lt,Nat.not_lt,gt_iff_lt] at * <;> omega))) ?_;(with_reducible refine (dA.calls k a0 a1 true _ A3.out).mono ?_);rintro e w6 ⟨rfl,hb⟩;refine ⟨_,rfl,?_⟩;have eP:=aj.mk (bI (by repeat (first | (with_reducible first | exact HB.out | apply ak | apply ah | apply au) | exact HB.out)) hb);clear HB;have HB:=eP;clear eP;(try clear hb);(try clear hb2);(try clear hk);(try clear hi)) | ((with_reducible refine aU (f:=53) rfl ?_);refine bP (some 17) rfl rfl Try.func53 (by kernel_rfl) rfl #[.int .i64 a0] rfl (by (try simp only [List.map_toArray,List.map_cons,List.map_nil]);first | done | rfl | (simp only [List.length_drop,List.length_take];rfl) | (simp only [ByteArray.size_append,Int.natCast_add];rfl) | (rw [B.dX] <;> first | rfl | omega | (simp only [decide_eq_false_iff_not,decide_eq_true_eq,Int.not_lt,Nat.not_lt,gt_iff_lt] at * <;> omega))) ?_;(with_reducible refine (aN.calls k a0 vK vL t182 _ A5.out).mono ?_);rintro e w7 ⟨rfl,hb⟩;refine ⟨_,rfl,?_⟩;have eP:=aj.mk (bI (by repeat (first | (with_reducible first | exact HB.out | apply ak | apply ah | apply au) | exact HB.out)) hb);clear HB;have HB:=eP;clear eP;(try clear hb);(try clear hb2);(try clear hk);(try clear hi)) | ((with_reducible refine gL (N:=6) rfl ?_);refine fU ?hg (N:=6) ?hd (cs:=#[.int .i64 0,.int .i64 0,.int .i64 0]) (t:=119) ?hr ?_;(case hd=>rfl);(case hg=>rfl);(case hr=>first | (go_simp;done) | (go_simp;rfl));intro oq hg w8 gX hb;have eP:=aj.mk (bI (by repeat (first | (with_reducible first | exact HB.out | apply ak | apply ah | apply au) | exact HB.out)) hb);have iE:=aj.mk (gX);have jJ:=aj.mk ((by rw [hg];exact (bK (by repeat (first | (with_reducible first | exact HB.out | apply ak | apply ah | apply au) | exact HB.out))):w.heap.size ≤ oq));have jQ:=aj.mk ((by rw [hg];exact (bK (by repeat (first | (with_reducible first | exact HB.out | apply ak | apply ah | apply au) | exact HB.out))):w.heap.size ≤ oq));clear HB;have HB:=eP;have iZ:=iE;have aib:=jJ;have Fe:=jQ;clear eP iE jJ jQ;clear hb gX hg;have N9:w8.cell? ⟨oq,0,none⟩ = some (.int .i64 0):=(aK iZ.out 0).trans rfl;have Oa:w8.cell? ⟨oq,1,none⟩ = some (.int .i64 0):=(aK iZ.out 1).trans rfl;have Oc:w8.cell? ⟨oq,2,none⟩ = some (.int .i64 0):=(aK iZ.out 2).trans rfl;have Od:=aA iZ.out 0;have Oe:=aA iZ.out 1;have Og:=aA iZ.out 2))
  go_loopg [5,7,8] k (fun kq v5 v7 v8 w'=>∃ (Fg:List ByteArray) (eG:Int) (jg:Int),v7 = .int .i64 eG ∧ v8 = .int .i64 jg ∧ aj (bD.l0 kq a1 Fg eG jg vK vL t182 = some r) ∧ aj (kq ≤ k) ∧ aj (Kd.R Kd.string 9 w' w.heap.size (fun _=>True) v5 Fg) ∧ aj (w'.heap[oq]? = some (.cells #[.int .i64 vK,.int .i64 vL,.int .i64 t182] 119 (0,0))) ∧ aj (Below w.heap.size w w'))
  case atStart=>exact ⟨(([]:List ByteArray)),(vK),(0),(by first | rfl | (simp;done) | (simp [*];done) | (simp [B.aX];done) | (simp [B.aY];done)),(by first | rfl | (simp;done) | (simp [*];done) | (simp [B.aX];done) | (simp [B.aY];done)),H',⟨Nat.le_refl _⟩,⟨by first | exact Kd.jM _ _ _ _ _ | exact Kd.lD _ _ _ _ _ | exact Kd.lF _ _ _ _ _ | exact Kd.lu _ _ _ _ _ | exact Kd.lC _ _ _ _ _⟩,⟨by (with_reducible repeat (first | refine aG ?_ _ | refine aH ?_ | refine aD ?_ _));refine bU (cs:=#[.int .i64 vK,.int .i64 vL,.int .i64 0]) ?_ 2 _ rfl;(with_reducible repeat (first | refine aG ?_ _ | refine aH ?_ | refine aD ?_ _));refine bU (cs:=#[.int .i64 vK,.int .i64 0,.int .i64 0]) ?_ 1 _ rfl;(with_reducible repeat (first | refine aG ?_ _ | refine aH ?_ | refine aD ?_ _));refine bU (cs:=#[.int .i64 0,.int .i64 0,.int .i64 0]) ?_ 0 _ rfl;(with_reducible repeat (first | refine aG ?_ _ | refine aH ?_ | refine aD ?_ _));exact iZ.out⟩,⟨by repeat (first | (with_reducible first | exact HB.out | apply ak | apply ah | apply au | refine aT ?_ Fe.out) | exact HB.out)⟩⟩
  case round =>
   clear H'
   try clear p2
   try clear c3
   try clear c4
   try clear c5
   try clear N9
   try clear Oa
   try clear Oc
   try clear Od
   try clear Oe
   try clear Og
   obtain ⟨Fg,eG,jg,rfl,rfl,HA,wB,R6,iZ,HB⟩:=hrel
   cases gk with
   | zero=>exact absurd HA.out (by simp [bD.l0])
   | succ k1 =>
    have H:=HA.out
    clear HA
    simp only [bD.l0] at H
    by_cases c10:jg < vL
    ·rw [if_pos c10] at H
     have rG:decide (jg < vL) = true:=decide_eq_true c10
     clear c10
     replace H:=zbm H
     obtain ⟨⟨Oh,R7,aga⟩,abO,H⟩:=H
     replace H:(if Fg.length < 8796093022208 then (bD.l0 k1 a1 (Fg ++ [Oh]) R7 (wrap64 (jg + 1)) vK vL t182) else (none)) = some r:=H
     have A11:=aj.mk abO
     clear abO
     by_cases c12:Fg.length < 8796093022208
     ·rw [if_pos c12] at H
      have abP:=aj.mk c12
      clear c12
      obtain ⟨abQ,Fh⟩:∃ y_:List ByteArray,y_ = (Fg ++ [Oh]):=⟨_,rfl⟩
      replace H:(bD.l0 k1 a1 abQ R7 (wrap64 (jg + 1)) vK vL t182) = some r:=by first | (rw [Fh];with_reducible exact H) | (have GJ:=(Option.bind_some _ _).symm.trans H;rw [Fh];with_reducible exact GJ) | (have GJ:=(Option.bind_some _ _).symm.trans H;with_reducible exact GJ) | with_reducible exact H | (rw [Fh];exact H) | exact H
      have abR:=aj.mk Fh
      clear Fh
      have H':=aj.mk H
      clear H
      have Rm:wr.cell? ⟨oq,0,none⟩ = some (.int .i64 vK):=(aK iZ.out 0).trans rfl
      have Ro:wr.cell? ⟨oq,1,none⟩ = some (.int .i64 vL):=(aK iZ.out 1).trans rfl
      have Rp:wr.cell? ⟨oq,2,none⟩ = some (.int .i64 t182):=(aK iZ.out 2).trans rfl
      have Rq:=aA iZ.out 0
      have Rt:=aA iZ.out 1
      have Ru:=aA iZ.out 2
      go_wp2_with (first | ((with_reducible refine aU (f:=54) rfl ?_);refine bP (some 29) rfl rfl Try.func54 (by kernel_rfl) rfl #[.string a1,.int .i64 eG] rfl (by (try simp only [List.map_toArray,List.map_cons,List.map_nil]);first | done | rfl | (simp only [List.length_drop,List.length_take];rfl) | (simp only [ByteArray.size_append,Int.natCast_add];rfl) | (rw [B.dX] <;> first | rfl | omega | (simp only [decide_eq_false_iff_not,decide_eq_true_eq,Int.not_lt,Nat.not_lt,gt_iff_lt] at * <;> omega))) ?_;(with_reducible refine (aR.calls k1 a1 eG Oh R7 aga _ A11.out).mono ?_);rintro e w' ⟨rfl,⟨nd,rfl⟩⟩;refine ⟨_,rfl,?_⟩) | ((with_reducible refine oK (b:=.append) (xs:=#[.tmp 33,.tmp 35]) rfl ?_);at_builtin;refine Kd.yT Kd.string (w0:=w) w.heap.size rfl (.tmp 33) (.tmp 35) 25 9 (.string ⟨#[]⟩) 16 rfl Try.underlying25 Iz rfl (by decide) (by omega) u5 Fg Oh [.string Oh] (fun _=>True) (fun _=>False) rfl rfl ?aP (fun _ hk=>hk.elim) ?aF ?aO ?aB ?aS ?aL ?_;(case aP=>exact rfl);(case aB=>exact (by repeat (first | (with_reducible first | exact HB.out | apply ak | apply ah | apply au | refine aT ?_ Fe.out) | exact HB.out)));(case aF=>exact (fun _ _=>trivial));(case aO=>exact (by (with_reducible repeat (first | apply Kd.fJ | apply Kd.gy | apply Kd.gI));exact R6.out));(case aS=>exact (bK (by repeat (first | (with_reducible first | exact HB.out | apply ak | apply ah | apply au | refine aT ?_ Fe.out) | exact HB.out))));(case aL=>have:=abP.out;omega);intro aix w14 ho hb hg hat;rw [← abR.out] at ho;have eP:=aj.mk (qF (g:=oq) (o:=.cells #[.int .i64 vK,.int .i64 vL,.int .i64 t182] 119 (0,0)) (by (with_reducible repeat (first | refine aG ?_ _ | refine aH ?_ | refine aD ?_ _));exact iZ.out) hg (Kd.QB R6.out iZ.out (by decide)));have iE:=aj.mk (hb);have jJ:=aj.mk (ho);clear iZ;clear HB;clear R6;have iZ:=eP;have HB:=iE;have abS:=jJ;clear eP iE jJ;clear ho hb hg hat))
      go_roundg k1
      case measure=>have:=wB.out;omega
      case rel=>exact ⟨(abQ),(R7),(wrap64 (jg + 1)),(by first | rfl | (simp;done) | (simp [*];done) | (simp [B.aX];done) | (simp [B.aY];done)),(by first | rfl | (simp;done) | (simp [*];done) | (simp [B.aX];done) | (simp [B.aY];done)),H',⟨by have:=wB.out;omega⟩,⟨by (with_reducible repeat (first | apply Kd.fJ | apply Kd.gy | apply Kd.gI));exact abS.out⟩,⟨by (with_reducible repeat (first | refine aG ?_ _ | refine aH ?_ | refine aD ?_ _));exact iZ.out⟩,⟨by repeat (first | (with_reducible first | exact HB.out | apply ak | apply ah | apply au | refine aT ?_ Fe.out) | exact HB.out)⟩⟩
     ·rw [if_neg c12] at H
      exact absurd H (by simp)
    ·rw [if_neg c10] at H
     have rG:decide (jg < vL) = false:=decide_eq_false c10
     clear c10
     obtain rfl:=Option.some.inj H
     have C8:wr.cell? ⟨oq,0,none⟩ = some (.int .i64 vK):=(aK iZ.out 0).trans rfl
     have C9:wr.cell? ⟨oq,1,none⟩ = some (.int .i64 vL):=(aK iZ.out 1).trans rfl
     have Da:wr.cell? ⟨oq,2,none⟩ = some (.int .i64 t182):=(aK iZ.out 2).trans rfl
     have Db:=aA iZ.out 0
     have Dc:=aA iZ.out 1
     have Df:=aA iZ.out 2
     go_wp2
     go_ret
     exact ⟨_,by first | rfl | (simp [aI,aJ] <;> rfl) | (simp [*,aI,aJ] <;> rfl),by (with_reducible repeat (first | apply Kd.fJ | apply Kd.gy | apply Kd.gI));exact R6.out,by repeat (first | (with_reducible first | exact HB.out | apply ak | apply ah | apply au | refine aT ?_ Fe.out) | exact HB.out)⟩
 ·replace c4:=Bool.eq_false_iff.mpr c4
  subst c4
  have H1:(some ([]:List ByteArray)) = some r:=by rw [if_neg (show ¬ (false = true) by decide)] at H;exact H
  clear H
  have H:=H1
  clear H1
  obtain rfl:=Option.some.inj H
  go_enter Try.func30,Try.ntmps30
  go_wp2_with (first | ((with_reducible refine aU (f:=52) rfl ?_);refine bP (some 14) rfl rfl Try.func52 (by kernel_rfl) rfl #[.int .i64 a0,.string a1] rfl (by (try simp only [List.map_toArray,List.map_cons,List.map_nil]);first | done | rfl | (simp only [List.length_drop,List.length_take];rfl) | (simp only [ByteArray.size_append,Int.natCast_add];rfl) | (rw [B.dX] <;> first | rfl | omega | (simp only [decide_eq_false_iff_not,decide_eq_true_eq,Int.not_lt,Nat.not_lt,gt_iff_lt] at * <;> omega))) ?_;(with_reducible refine (dA.calls k a0 a1 false _ A3.out).mono ?_);rintro e w16 ⟨rfl,hb⟩;refine ⟨_,rfl,?_⟩;have eP:=aj.mk (bI (by repeat (first | (with_reducible first | exact HB.out | apply ak | apply ah | apply au) | exact HB.out)) hb);clear HB;have HB:=eP;clear eP;(try clear hb);(try clear hb2);(try clear hk);(try clear hi)))
  go_ret
  exact ⟨_,by first | rfl | (simp [aI,aJ] <;> rfl) | (simp [*,aI,aJ] <;> rfl),by first | exact Kd.jM _ _ _ _ _ | exact Kd.lD _ _ _ _ _ | exact Kd.lF _ _ _ _ _ | exact Kd.lu _ _ _ _ _ | exact Kd.lC _ _ _ _ _,by repeat (first | (with_reducible first | exact HB.out | apply ak | apply ah | apply au) | exact HB.out)⟩
end Go.Proofs.Ytfokaoeinpnagaa.ZQ
namespace Go.Proofs.Ytfokaoeinpnagaa.ZQ
open Go.RowKit Go.Proofs.YtfokaoeinpnagaaW.bE Go.Proofs.YtfokaoeinpnagaaW.dB Go.Proofs.YtfokaoeinpnagaaW.dU Go.Proofs.Ytfokaoeinpnagaa.B
def vM (msg:ByteArray) (i:Int):ByteArray × Int × Int:=(bC.f (rounds i) msg i).getD (⟨#[]⟩,0,0)
theorem Uk (msg:ByteArray) (i:Int) (hm:msg.size ≤ 100000):bC.f (rounds i) msg i = some (vM msg i):=by
 obtain ⟨R,h1,_⟩:=Bc (rounds i) msg i hm (Nat.le_refl _)
 unfold vM;rw [h1];rfl
theorem Oi (k:Nat) (msg:ByteArray) (i:Int) (hm:msg.size ≤ 100000) (hk:rounds i ≤ k):bC.f k msg i = some (vM msg i):=EU hk (Uk msg i hm)
theorem vN (k:Nat) (msg:ByteArray) (i:Int) (hm:msg.size ≤ 100000) (hk:rounds i ≤ k):aR.f k msg i = some (vM msg i):=by
 obtain ⟨R,h1,h2⟩:=Bc k msg i hm hk
 rw [Oi k msg i hm hk] at h1
 rw [h2,h1]
theorem uJ (msg:ByteArray) (i:Int) (hm:msg.size ≤ 100000) :
  ((vM msg i).2.2 = 0 ∧ jc (vM msg i).1 = true ∧ 0 ≤ i ∧ i < (vM msg i).2.1 ∧ (vM msg i).2.1 ≤ (msg.size:Int)) ∨ (((vM msg i).2.2 = 2 ∨ (vM msg i).2.2 = 3) ∧ (vM msg i).1 = ⟨#[]⟩ ∧ (vM msg i).2.1 = 0):=GQ hm (Uk msg i hm)
def zu (msg:ByteArray) (e:Int):Nat → Int → List ByteArray → Option (List ByteArray × Int)
 | 0,i,l=>some (l,i)
 | n + 1,i,l=>if (vM msg i).2.2 = 0 then (if (vM msg i).2.1 > e then none else zu msg e n (vM msg i).2.1 (l ++ [(vM msg i).1])) else none
theorem ou (msg:ByteArray) (e:Int) (hm:msg.size ≤ 100000):∀ (n:Nat) (i:Int) (l:List ByteArray) (R:List ByteArray × Int),zu msg e n i l = some R → i ≤ e → i ≤ R.2 ∧ R.2 ≤ e ∧ R.1.length = l.length + n ∧ (∃ l',R.1 = l ++ l' ∧ ∀ x ∈ l',jc x = true)
 | 0,i,l,R,h,hi=>by cases h;exact ⟨Int.le_refl _,hi,rfl,[],by simp,by simp⟩
 | n + 1,i,l,R,h,hi=>by
  rw [zu] at h
  by_cases h0:(vM msg i).2.2 = 0
  ·rw [if_pos h0] at h
   by_cases h1:(vM msg i).2.1 > e
   ·rw [if_pos h1] at h;cases h
   ·rw [if_neg h1] at h
    obtain ⟨a1,a2,a3,l',a4,a5⟩:=ou msg e hm n _ _ R h (by omega)
    rcases uJ msg i hm with ⟨_,b2,_,b4,_⟩ | ⟨b1,_⟩
    ·refine ⟨by omega,a2,by rw [a3,List.length_append,List.length_singleton];omega,(vM msg i).1 :: l',by rw [a4];simp,?_⟩
     intro x hx
     rcases List.mem_cons.mp hx with rfl | hx
     ·exact b2
     ·exact a5 x hx
    ·omega
  ·rw [if_neg h0] at h;cases h
def K0 : Nat:=101000
theorem qO {msg:ByteArray} {i:Int} {k:Nat} (hm:msg.size ≤ 100000) (hi:i ≤ (msg.size:Int)) (hk:K0 ≤ k):rounds i ≤ k:=by unfold rounds;unfold K0 at hk;omega
theorem Dg (msg:ByteArray) (e s0 s1 s2:Int) (a b:ByteArray) (hm:msg.size ≤ 100000) (he:e ≤ (msg.size:Int)) (h2:0 ≤ s2 ∧ s2 ≤ 1000) (c:Int) (hc:c ≤ 100):∀ (n k:Nat) (i x:Int) (l:List ByteArray),K0 + n ≤ k → x + n = c → 0 ≤ x → 0 ≤ i → i ≤ e → l.length + n ≤ 1000 →
  bS.l0 (k + 1) msg i e c x s0 s1 s2 a b l = (match zu msg e n i l with
   | some R=>some (a,msg.extract R.2.toNat e.toNat,R.1,(((msg.extract R.2.toNat e.toNat).size:Int) == s2))
   | none=>some (⟨#[]⟩,⟨#[]⟩,[],false))
 | 0,k,i,x,l,hk,hx,hx0,hi,hie,hl=>by
  rw [bS.l0,if_neg (by omega),if_pos hi,if_pos hie,if_pos he,zu]
 | n + 1,k,i,x,l,hk,hx,hx0,hi,hie,hl=>by
  obtain ⟨k,rfl⟩:∃ m,k = m + 1:=⟨k - 1,by omega⟩
  rw [bS.l0,if_pos (by omega),Oi (k + 1) msg i hm (qO hm (by omega) (by omega)),zu]
  simp only [Option.bind_some]
  by_cases h0:(vM msg i).2.2 = 0
  ·rw [if_pos h0,if_pos h0]
   by_cases h1:(vM msg i).2.1 > e
   ·rw [if_pos h1,if_pos h1]
   ·rcases uJ msg i hm with ⟨_,_,_,b4,_⟩ | ⟨b1,_⟩
    ·rw [if_neg h1,if_neg h1,if_pos (by omega),dX (by omega) (by omega)]
     exact Dg msg e s0 s1 s2 a b hm he h2 c hc n k _ (x + 1) _ (by omega) (by omega) (by omega) (by omega) (by omega) (by rw [List.length_append,List.length_singleton];omega)
    ·omega
  ·rw [if_neg h0,if_neg h0]
def Oj (s:ByteArray):Nat → Int → Bool
 | 0,_=>false
 | k + 1,i=>if i < (s.size:Int) then Oj s k (i + 1 + bt s i) else decide (i = s.size)
def GY (s:ByteArray):Bool:=decide (0 < s.size) && Oj s (s.size + 1) 0
theorem WV (s:ByteArray) {k:Nat} {i:Int} (h:(s.size:Int) < i):Oj s k i = false:=by
 cases k with
 | zero=>rfl
 | succ k=>rw [Oj,if_neg (by omega)];simp;omega
theorem Ol (s:ByteArray) (hs:s.size ≤ 100000) (d:Nat):∀ (k m:Nat) (i:Int),0 ≤ i → i ≤ (s.size:Int) → s.size - i.toNat ≤ d → d + 1 ≤ k → d + 1 ≤ m → dI.l0 k (s.extract i.toNat s.size) = some (Oj s m i):=by
 induction d with
 | zero =>
  intro k m i h0 h1 h2 hk hm
  obtain ⟨k,rfl⟩:∃ j,k = j + 1:=⟨k - 1,by omega⟩
  obtain ⟨m,rfl⟩:∃ j,m = j + 1:=⟨m - 1,by omega⟩
  rw [dI.l0,if_pos (toList_nil.mpr (by rw [ByteArray.size_extract];omega)),Oj,if_neg (by omega),decide_eq_true (by omega)]
 | succ d ih =>
  intro k m i h0 h1 h2 hk hm
  obtain ⟨k,rfl⟩:∃ j,k = j + 1:=⟨k - 1,by omega⟩
  obtain ⟨m,rfl⟩:∃ j,m = j + 1:=⟨m - 1,by omega⟩
  have hz:(s.extract i.toNat s.size).size = s.size - i.toNat:=by rw [ByteArray.size_extract];omega
  by_cases hi:i < (s.size:Int)
  ·have hb:bt (s.extract i.toNat s.size) 0 = bt s i:=by
    rw [mP (by omega) (by omega)];congr 1;omega
   have hr:=gB s i
   rw [dI.l0,if_neg (by rw [toList_nil];omega),if_pos (by omega),hb,dX (n:=bt s i) (by omega) (by omega),dX (n:=1 + bt s i) (by omega) (by omega),Oj,if_pos hi]
   by_cases h3:1 + bt s i > ((s.extract i.toNat s.size).size:Int)
   ·rw [if_pos h3,WV s (by omega)]
   ·rw [if_neg h3,if_pos (by omega),if_pos (by omega)]
    have e:(s.extract i.toNat s.size).extract (1 + bt s i).toNat (s.extract i.toNat s.size).size = s.extract (i + 1 + bt s i).toNat s.size:=by
     rw [ByteArray.extract_extract,hz]
     congr 1 <;> omega
    rw [e]
    exact ih k m _ (by omega) (by omega) (by omega) (by omega) (by omega)
  ·rw [dI.l0,if_pos (toList_nil.mpr (by omega)),Oj,if_neg hi,decide_eq_true (by omega)]
theorem Om (k:Nat) (hk:K0 ≤ k) (s:ByteArray) (hs:s.size ≤ 100000):dI.f k s = some (GY s):=by
 unfold dI.f GY
 by_cases h:s.toList = ([]:List UInt8)
 ·rw [if_pos h];rw [toList_nil] at h;rw [h];rfl
 ·rw [if_neg h]
  rw [toList_nil] at h
  unfold K0 at hk
  have:=Ol s hs s.size k (s.size + 1) 0 (by omega) (by omega) (by omega) (by omega) (by omega)
  rw [show (0:Int).toNat = 0 from rfl,ByteArray.extract_zero_size] at this
  rw [this,decide_eq_true (by omega),Bool.true_and]
theorem Dh (s:ByteArray) (hs:s.size ≤ 100000) (d:Nat):∀ (k m:Nat) (i:Int),0 ≤ i → (i:Int) ≤ s.size + 300 → 0 < i ∨ 0 < s.size → s.size - i.toNat ≤ d → d + 1 ≤ k → d + 1 ≤ m → bn.l0 k s i = some (Oj s m i):=by
 induction d with
 | zero =>
  intro k m i h0 h1 hp h2 hk hm
  obtain ⟨k,rfl⟩:∃ j,k = j + 1:=⟨k - 1,by omega⟩
  obtain ⟨m,rfl⟩:∃ j,m = j + 1:=⟨m - 1,by omega⟩
  have hlt:¬ i < (s.size:Int):=by omega
  rw [bn.l0,if_neg hlt,Oj,if_neg hlt]
  by_cases h:i = (s.size:Int)
  ·rw [if_pos h,decide_eq_true (by omega),decide_eq_true h]
  ·rw [if_neg h,decide_eq_false h]
 | succ d ih =>
  intro k m i h0 h1 hp h2 hk hm
  obtain ⟨k,rfl⟩:∃ j,k = j + 1:=⟨k - 1,by omega⟩
  obtain ⟨m,rfl⟩:∃ j,m = j + 1:=⟨m - 1,by omega⟩
  have hr:=gB s i
  rw [bn.l0,Oj]
  by_cases hi:i < (s.size:Int)
  ·rw [if_pos hi,if_pos hi,if_pos h0,dX (n:=bt s i) (by omega) (by omega),dX (n:=i + 1) (by omega) (by omega),dX (by omega) (by omega)]
   exact ih k m _ (by omega) (by omega) (by omega) (by omega) (by omega) (by omega)
  ·rw [if_neg hi,if_neg hi]
   by_cases h:i = (s.size:Int)
   ·rw [if_pos h,decide_eq_true (by omega),decide_eq_true h]
   ·rw [if_neg h,decide_eq_false h]
theorem Di (k:Nat) (hk:K0 ≤ k) (s:ByteArray) (hs:s.size ≤ 100000):bn.f k s = some (GY s):=by
 unfold bn.f GY
 unfold K0 at hk
 by_cases h:0 < s.size
 ·rw [Dh s hs s.size k (s.size + 1) 0 (by omega) (by omega) (by omega) (by omega) (by omega) (by omega),decide_eq_true h,Bool.true_and]
 ·obtain ⟨k,rfl⟩:∃ j,k = j + 1:=⟨k - 1,by omega⟩
  rw [bn.l0,if_neg (by omega),if_pos (by omega),decide_eq_false h];rfl
end Go.Proofs.Ytfokaoeinpnagaa.ZQ
namespace Go.Proofs.Ytfokaoeinpnagaa.ZQ
open Go.RowKit Go.Proofs.YtfokaoeinpnagaaW.bE Go.Proofs.YtfokaoeinpnagaaW.dB Go.Proofs.YtfokaoeinpnagaaW.dU Go.Proofs.Ytfokaoeinpnagaa.B
theorem GZ (l m:List ByteArray):strings_Join.cat (l ++ m) = strings_Join.cat l ++ strings_Join.cat m:=by
 induction l with
 | nil=>exact (empty_append _).symm
 | cons x l ih=>rw [List.cons_append,strings_Join.cat,ih,strings_Join.cat,ByteArray.append_assoc]
theorem Jh (x:ByteArray):strings_Join.cat [x] = x:=append_empty x
theorem qm {n:ByteArray} (h:jc n = true):n.size ≤ 255:=by
 obtain ⟨l,_,_,hz⟩:=uw.mp h;exact hz
theorem zw : ∀ {l:List ByteArray},(∀ x ∈ l,jc x = true) → (strings_Join.cat l).size ≤ 255 * l.length
 | [],_=>Nat.zero_le _
 | x :: l,h=>by
  have h1:=qm (h x (by simp))
  have h2:=zw (l:=l) (fun y hy=>h y (by simp [hy]))
  rw [strings_Join.cat,ByteArray.size_append,List.length_cons]
  omega
def vO (d:ByteArray):ByteArray × Int:=if (d.size:Int) > 65535 then (⟨#[]⟩,4) else (d,0)
theorem vP (d:ByteArray):(if (d.size:Int) > 65535 then some ((⟨#[]⟩:ByteArray),(4:Int)) else some (d,0)) = some (vO d):=by
 unfold vO;split <;> rfl
def Dj (msg:ByteArray) (i size:Int) (s:Int × Int × Int):ByteArray × Int :=
 if s.1 ≤ size then (match zu msg (i + size) s.2.1.toNat (i + s.1) [] with
  | some R=>if R.2 + s.2.2 = i + size then vO (msg.extract i.toNat (i + s.1).toNat ++ strings_Join.cat R.1 ++ msg.extract R.2.toNat (i + size).toNat) else (⟨#[]⟩,4)
  | none=>(⟨#[]⟩,4)) else (⟨#[]⟩,4)
def wZ (msg:ByteArray) (i size kind:Int):ByteArray × Int :=
 if gJ msg i size then (match ay.uP kind with
  | some s=>Dj msg i size s
  | none=>if kind = 16 then (if GY (msg.extract i.toNat (i + size).toNat) = true then vO (msg.extract i.toNat (i + size).toNat) else (⟨#[]⟩,4)) else vO (msg.extract i.toNat (i + size).toNat))
 else (⟨#[]⟩,2)
theorem kY {kind:Int} {s:Int × Int × Int} (h:ay.uP kind = some s):0 ≤ s.1 ∧ s.1 ≤ 16 ∧ 0 ≤ s.2.1 ∧ s.2.1 ≤ 2 ∧ 0 ≤ s.2.2 ∧ s.2.2 ≤ 20 ∧ kind ≠ 16 ∧ (s.1 = 0 → s.2.1 = 0 → False):=by
 unfold ay.uP at h
 repeat' split at h
 all_goals (first | (cases h;subst_vars;decide) | cases h)
theorem WW (k:Nat) (hk:K0 ≤ k) (kind:Int) (hkind:kind ≠ 16) (d:ByteArray):ay.fin k kind d true = some (vO d):=by
 unfold ay.fin
 rw [if_pos rfl,if_neg hkind,vP]
theorem vQ (k:Nat) (kind:Int) (d:ByteArray):ay.fin k kind d false = some (⟨#[]⟩,4):=by
 unfold ay.fin;rw [if_neg Bool.false_ne_true]
theorem Bh (msg:ByteArray) (i size kind:Int) (k:Nat) (hk:K0 ≤ k) (hm:msg.size ≤ 100000) (f:ByteArray → Option Bool) (hf:∀ s,s.size ≤ 100000 → f s = some (GY s)) (t:ByteArray) (ht:t.size ≤ 100000) :
  (if kind = 16 then ((f t).bind fun b=>if b = true then (if (t.size:Int) > 65535 then some ((⟨#[]⟩:ByteArray),(4:Int)) else some (t,0)) else some (⟨#[]⟩,4)) else (if (t.size:Int) > 65535 then some (⟨#[]⟩,4) else some (t,0))) =
   some (if kind = 16 then (if GY t = true then vO t else (⟨#[]⟩,4)) else vO t):=by
 rw [hf t ht,vP]
 simp only [Option.bind_some]
 split
 ·split <;> rfl
 ·rfl
theorem Ku (k:Nat) (hk:K0 + 10 ≤ k) (msg:ByteArray) (i size kind:Int) (hm:msg.size ≤ 100000) (ht:gJ msg i size) (s:Int × Int × Int) (hs:ay.uP kind = some s):ay.g k msg i size kind s = some (Dj msg i size s):=by
 obtain ⟨h0,h1,h2⟩:=ht
 obtain ⟨a1,a2,a3,a4,a5,a6,a7,a8⟩:=kY hs
 obtain ⟨s0,s1,s2⟩:=s
 simp only at a1 a2 a3 a4 a5 a6 a8
 have e1:wrap64 (i + size) = i + size:=dX (by omega) (by omega)
 have e2:wrap64 (i + size - i) = size:=by rw [dX (by omega) (by omega)];omega
 have e3:wrap64 (i + s0) = i + s0:=dX (by omega) (by omega)
 unfold ay.g bS.f Dj
 simp only [e1,e2,e3]
 by_cases c:s0 ≤ size
 ·rw [if_pos c,if_pos c,if_pos h0,if_pos (by omega),if_pos (by omega)]
  obtain ⟨k,rfl⟩:∃ j,k = j + 1:=⟨k - 1,by omega⟩
  rw [Dg msg (i + size) s0 s1 s2 _ _ hm h2 ⟨a5,by omega⟩ s1 (by omega) s1.toNat k (i + s0) 0 [] (by omega) (by omega) (Int.le_refl _) (by omega) (by omega) (by simp only [List.length_nil];omega)]
  have hz:(msg.extract i.toNat (i + s0).toNat).size ≤ 16:=by rw [ByteArray.size_extract];omega
  cases hr:zu msg (i + size) s1.toNat (i + s0) [] with
  | none =>
   simp only [Option.bind_some]
   rw [if_pos (by decide),if_pos (by decide),vQ]
  | some R =>
   obtain ⟨b1,b2,b3,l',b4,b5⟩:=ou msg _ hm _ _ _ R hr (by omega)
   have hcz:=zw b5
   rw [List.nil_append] at b4
   rw [← b4] at hcz
   rw [List.length_nil,Nat.zero_add] at b3
   have hbz:(msg.extract R.2.toNat (i + size).toNat).size = (i + size - R.2).toNat:=by rw [ByteArray.size_extract];omega
   simp only [Option.bind_some]
   rw [if_pos (by omega),if_pos (by omega)]
   by_cases d:R.2 + s2 = i + size
   ·rw [if_pos d,show (((msg.extract R.2.toNat (i + size).toNat).size:Int) == s2) = true from beq_iff_eq.mpr (by omega),WW k.succ (by omega) kind a7]
   ·rw [if_neg d,show (((msg.extract R.2.toNat (i + size).toNat).size:Int) == s2) = false from beq_eq_false_iff_ne.mpr (by omega),vQ]
 ·rw [if_neg c,if_neg c]
  simp only [Option.bind_some]
  rw [if_pos (by decide),if_pos (by decide),vQ]
theorem WX (k:Nat) (hk:K0 + 10 ≤ k) (msg:ByteArray) (i size kind:Int) (hm:msg.size ≤ 100000):ay.f k msg i size kind = some (wZ msg i size kind):=by
 unfold ay.f wZ
 rw [uG msg i size (by omega)]
 simp only [Option.bind_some]
 by_cases ht:gJ msg i size
 ·rw [if_pos ht,if_pos ht]
  simp only [if_true]
  cases hs:ay.uP kind with
  | some s=>exact Ku k hk msg i size kind hm ht s hs
  | none =>
   have hz:(msg.extract i.toNat (i + size).toNat).size ≤ 100000:=by rw [ByteArray.size_extract];omega
   have:=Bh msg i size kind k (by omega) hm (dI.f k) (fun s h=>Om k (by omega) s h) _ hz
   unfold ay.fin
   rw [if_pos rfl]
   exact this
 ·rw [if_neg ht,if_neg ht];rfl
theorem uK (k:Nat) (hk:1 ≤ k) (kind:Int):aN.f k kind = some ((ay.uP kind).getD (0,0,0)):=by
 obtain ⟨k,rfl⟩:∃ j,k = j + 1:=⟨k - 1,by omega⟩
 unfold aN.f ay.uP
 simp only [aN.j0]
 by_cases h1:kind = 1
 ·subst h1;rfl
 by_cases h2:kind = 28
 ·subst h2;rfl
 by_cases h3:kind = 2
 ·subst h3;rfl
 by_cases h4:kind = 5
 ·subst h4;rfl
 by_cases h5:kind = 12
 ·subst h5;rfl
 by_cases h6:kind = 6
 ·subst h6;rfl
 by_cases h7:kind = 15
 ·subst h7;rfl
 by_cases h8:kind = 33
 ·subst h8;rfl
 simp [h1,h2,h3,h4,h5,h6,h7,h8]
theorem Fj (msg:ByteArray) (i size s0 s1 s2:Int) (hm:msg.size ≤ 100000) (ht:gJ msg i size) (h2:0 ≤ s2 ∧ s2 ≤ 1000) (hs:s1 ≤ 100):∀ (n k:Nat) (j x:Int) (out:ByteArray),K0 + n ≤ k → x + n = s1 → 0 ≤ x → i + size < j → j ≤ (msg.size:Int) → out.size + 300 * n ≤ 1000000 →
  aV.l0 (k + 1) msg i size out j x s0 s1 s2 = some (⟨#[]⟩,4)
 | 0,k,j,x,out,hk,hx,hx0,hj,hjm,ho=>by
  obtain ⟨t0,t1,t2⟩:=ht
  rw [aV.l0,if_neg (by omega),dX (n:=j + s2) (by omega) (by omega),dX (n:=i + size) (by omega) (by omega),if_neg (by omega)]
 | n + 1,k,j,x,out,hk,hx,hx0,hj,hjm,ho=>by
  obtain ⟨k,rfl⟩:∃ m,k = m + 1:=⟨k - 1,by omega⟩
  rw [aV.l0,if_pos (by omega),vN (k + 1) msg j hm (qO hm (by omega) (by omega))]
  simp only [Option.bind_some]
  rcases uJ msg j hm with ⟨b1,b2,_,b4,b5⟩ | ⟨b1,_⟩
  ·have hz:=qm b2
   rw [if_pos b1,if_pos (by omega),dX (n:=x + 1) (by omega) (by omega)]
   exact Fj msg i size s0 s1 s2 hm ht h2 hs n k _ _ _ (by omega) (by omega) (by omega) (by omega) b5 (by rw [ByteArray.size_append];omega)
  ·rw [if_neg (by omega)]
theorem Oo (msg:ByteArray) (i size s0 s1 s2:Int) (a:ByteArray) (hm:msg.size ≤ 100000) (ht:gJ msg i size) (h2:0 ≤ s2 ∧ s2 ≤ 1000) (hs:s1 ≤ 100):∀ (n k:Nat) (j x:Int) (l:List ByteArray),K0 + n ≤ k → x + n = s1 → 0 ≤ x → 0 ≤ j → j ≤ i + size → (a ++ strings_Join.cat l).size + 300 * n ≤ 800000 →
  aV.l0 (k + 1) msg i size (a ++ strings_Join.cat l) j x s0 s1 s2 = some (match zu msg (i + size) n j l with
   | some R=>if R.2 + s2 = i + size then vO (a ++ strings_Join.cat R.1 ++ msg.extract R.2.toNat (i + size).toNat) else (⟨#[]⟩,4)
   | none=>(⟨#[]⟩,4))
 | 0,k,j,x,l,hk,hx,hx0,hj0,hj,ho=>by
  obtain ⟨t0,t1,t2⟩:=ht
  rw [aV.l0,if_neg (by omega),dX (n:=j + s2) (by omega) (by omega),dX (n:=i + size) (by omega) (by omega),zu]
  simp only
  by_cases c:j + s2 = i + size
  ·have hz:(msg.extract j.toNat (i + size).toNat).size ≤ 100000:=by rw [ByteArray.size_extract];omega
   rw [if_pos c,if_pos c,if_pos hj0,if_pos hj,if_pos t2,if_pos (by omega),vP]
  ·rw [if_neg c,if_neg c]
 | n + 1,k,j,x,l,hk,hx,hx0,hj0,hj,ho=>by
  have ht0:=ht
  obtain ⟨t0,t1,t2⟩:=ht
  obtain ⟨k,rfl⟩:∃ m,k = m + 1:=⟨k - 1,by omega⟩
  rw [aV.l0,if_pos (by omega),vN (k + 1) msg j hm (qO hm (by omega) (by omega)),zu]
  simp only [Option.bind_some]
  rcases uJ msg j hm with ⟨b1,b2,_,b4,b5⟩ | ⟨b1,_⟩
  ·have hz:=qm b2
   rw [if_pos b1,if_pos b1,if_pos (by omega),dX (n:=x + 1) (by omega) (by omega)]
   by_cases c:(vM msg j).2.1 > i + size
   ·rw [if_pos c]
    exact Fj msg i size s0 s1 s2 hm ht0 h2 hs n k _ _ _ (by omega) (by omega) (by omega) (by omega) b5 (by rw [ByteArray.size_append];omega)
   ·rw [if_neg c]
    have e:a ++ strings_Join.cat l ++ (vM msg j).1 = a ++ strings_Join.cat (l ++ [(vM msg j).1]):=by rw [GZ,Jh,ByteArray.append_assoc]
    rw [e]
    exact Oo msg i size s0 s1 s2 a hm ht0 h2 hs n k _ _ _ (by omega) (by omega) (by omega) (by omega) (by omega) (by rw [← e,ByteArray.size_append];omega)
  ·rw [if_neg (by omega),if_neg (by omega)]
theorem G5 (k:Nat) (hk:K0 + 10 ≤ k) (msg:ByteArray) (i size kind:Int) (hm:msg.size ≤ 100000):aV.f k msg i size kind = some (wZ msg i size kind):=by
 unfold aV.f wZ
 rw [qh msg i size (by omega),uK k (by omega)]
 simp only [Option.bind_some]
 by_cases ht:gJ msg i size
 ·rw [if_pos ht,if_pos ht]
  simp only [if_true]
  obtain ⟨t0,t1,t2⟩:=ht
  have hz:(msg.extract i.toNat (i + size).toNat).size = size.toNat:=by rw [ByteArray.size_extract];omega
  cases hs:ay.uP kind with
  | none =>
   simp only [Option.getD_none]
   rw [if_pos (by decide)]
   exact Bh msg i size kind k (by omega) hm (bn.f k) (fun s h=>Di k (by omega) s h) _ (by omega)
  | some s =>
   obtain ⟨a1,a2,a3,a4,a5,a6,a7,a8⟩:=kY hs
   obtain ⟨s0,s1,s2⟩:=s
   simp only at a1 a2 a3 a4 a5 a6 a8
   simp only [Option.getD_some]
   have main:(if s0 > size then some ((⟨#[]⟩:ByteArray),(4:Int)) else (if 0 ≤ s0 then (if s0 ≤ ((msg.extract i.toNat (i + size).toNat).size:Int) then (aV.l0 k msg i size ((msg.extract i.toNat (i + size).toNat).extract 0 (s0:Int).toNat) (wrap64 (i + s0)) 0 s0 s1 s2) else none) else none)) = some (Dj msg i size (s0,s1,s2)):=by
    unfold Dj
    simp only
    by_cases c:s0 > size
    ·rw [if_pos c,if_neg (by omega)]
    ·rw [if_neg c,if_pos a1,if_pos (by omega),if_pos (by omega),dX (by omega) (by omega)]
     obtain ⟨k,rfl⟩:∃ j,k = j + 1:=⟨k - 1,by omega⟩
     have e:(msg.extract i.toNat (i + size).toNat).extract 0 s0.toNat = msg.extract i.toNat (i + s0).toNat:=by
      rw [ByteArray.extract_extract];congr 1 <;> omega
     have hz2:(msg.extract i.toNat (i + s0).toNat).size ≤ 16:=by rw [ByteArray.size_extract];omega
     have h:=Oo msg i size s0 s1 s2 (msg.extract i.toNat (i + s0).toNat) hm ⟨t0,t1,t2⟩ ⟨a5,by omega⟩ (by omega) s1.toNat k (i + s0) 0 [] (by omega) (by omega) (Int.le_refl _) (by omega) (by omega) (by simp only [strings_Join.cat,append_empty];omega)
     simp only [strings_Join.cat,append_empty] at h
     rw [e,h]
   have hne:¬ ((s0 == 0 && (s1 == 0 && (s2 == 0))) = true):=by
    intro h
    simp only [Bool.and_eq_true,beq_iff_eq] at h
    exact a8 h.1 h.2.1
   rw [if_neg hne]
   exact main
 ·rw [if_neg ht,if_neg ht];rfl
end Go.Proofs.Ytfokaoeinpnagaa.ZQ
namespace Go.Proofs.Ytfokaoeinpnagaa.ZQ
open Go.RowKit Go.Proofs.YtfokaoeinpnagaaW.bE Go.Proofs.YtfokaoeinpnagaaW.dB Go.Proofs.YtfokaoeinpnagaaW.dU Go.Proofs.Ytfokaoeinpnagaa.B
def vX (kind:Int) (d:ByteArray):Bool:=decide (d.size ≤ 65535) && (decide ((wZ d 0 d.size kind).2 = 0) && decide ((wZ d 0 d.size kind).1 = d))
theorem qP {kind:Int} {d:ByteArray}:vX kind d = true ↔ d.size ≤ 65535 ∧ wZ d 0 d.size kind = (d,0):=by
 unfold vX
 simp only [Bool.and_eq_true,decide_eq_true_eq]
 constructor
 ·rintro ⟨h1,h2,h3⟩;exact ⟨h1,Prod.ext h3 h2⟩
 ·rintro ⟨h1,h2⟩;rw [h2];exact ⟨h1,rfl,rfl⟩
theorem Bj (k:Nat) (hk:K0 + 10 ≤ k) (kind:Int) (d:ByteArray):iU.f k kind d = some (vX kind d):=by
 unfold iU.f vX
 by_cases h:(d.size:Int) > 65535
 ·rw [if_pos h,decide_eq_false (by omega)];rfl
 ·rw [if_neg h,WX k hk d 0 _ kind (by omega),decide_eq_true (by omega),Bool.true_and]
  simp only [Option.bind_some]
  by_cases h0:(wZ d 0 d.size kind).2 = 0
  ·rw [if_pos h0,decide_eq_true h0,zh,Bool.true_and]
  ·rw [if_neg h0,decide_eq_false h0,Bool.false_and]
theorem rM (k:Nat) (hk:K0 + 10 ≤ k) (kind:Int) (d:ByteArray):dA.f k kind d = some (vX kind d):=by
 unfold dA.f vX
 by_cases h:(d.size:Int) > 65535
 ·rw [if_pos h,decide_eq_false (by omega)];rfl
 ·rw [if_neg h,G5 k hk d 0 _ kind (by omega),decide_eq_true (by omega),Bool.true_and]
  simp only [Option.bind_some]
  by_cases h0:(wZ d 0 d.size kind).2 = 0
  ·rw [if_pos h0,decide_eq_true h0,zh,Bool.true_and]
  ·rw [if_neg h0,decide_eq_false h0,Bool.false_and]
theorem oP (d:ByteArray):gJ d 0 d.size:=⟨Int.le_refl _,by omega,by omega⟩
theorem Bl {x d:ByteArray} (h:vO x = (d,0)):x = d ∧ x.size ≤ 65535:=by
 unfold vO at h
 split at h
 ·have:=congrArg Prod.snd h;cases this
 ·exact ⟨congrArg Prod.fst h,by omega⟩
theorem R8 {d:ByteArray} (h:d.size ≤ 65535):vO d = (d,0):=by unfold vO;rw [if_neg (by omega)]
theorem uL {kind:Int} {d:ByteArray} {s:Int × Int × Int} (h:vX kind d = true) (hs:ay.uP kind = some s) :
  ∃ R,s.1 ≤ (d.size:Int) ∧ zu d d.size s.2.1.toNat s.1 [] = some R ∧ R.2 + s.2.2 = d.size ∧ d = d.extract 0 s.1.toNat ++ strings_Join.cat R.1 ++ d.extract R.2.toNat d.size ∧ s.1 ≤ R.2 ∧ R.2 ≤ (d.size:Int) ∧ R.1.length = s.2.1.toNat ∧ (∀ x ∈ R.1,jc x = true) ∧ R.2 = s.1 + (strings_Join.cat R.1).size:=by
 obtain ⟨h0,h1⟩:=qP.mp h
 unfold wZ Dj at h1
 rw [if_pos (oP d),hs] at h1
 simp only [Int.zero_add,Int.toNat_natCast] at h1
 obtain ⟨a1,a2,a3,a4,a5,a6,a7,a8⟩:=kY hs
 by_cases c:s.1 ≤ (d.size:Int)
 ·rw [if_pos c] at h1
  cases hr:zu d d.size s.2.1.toNat s.1 [] with
  | none=>rw [hr] at h1;have:=congrArg Prod.snd h1;cases this
  | some R =>
   rw [hr] at h1
   simp only at h1
   by_cases e:R.2 + s.2.2 = d.size
   ·rw [if_pos e] at h1
    obtain ⟨h2,_⟩:=Bl h1
    obtain ⟨b1,b2,b3,l',b4,b5⟩:=ou d _ (by omega) _ _ _ R hr c
    rw [List.nil_append] at b4
    rw [← b4] at b5
    have hz:=congrArg ByteArray.size h2
    simp only [ByteArray.size_append,ByteArray.size_extract] at hz
    refine ⟨R,c,rfl,e,h2.symm,b1,b2,by rw [b3];simp,b5,?_⟩
    simp only [show (0:Int).toNat = 0 from rfl] at hz
    omega
   ·rw [if_neg e] at h1;have:=congrArg Prod.snd h1;cases this
 ·rw [if_neg c] at h1;have:=congrArg Prod.snd h1;cases this
def prt (kind:Int) (d:ByteArray):ByteArray × ByteArray × List ByteArray × Bool :=
 if vX kind d = true then (match ay.uP kind with
  | some s=>(match zu d d.size s.2.1.toNat s.1 [] with
   | some R=>(d.extract 0 s.1.toNat,d.extract R.2.toNat d.size,R.1,true)
   | none=>(⟨#[]⟩,⟨#[]⟩,[],false))
  | none=>(d,⟨#[]⟩,[],true)) else (⟨#[]⟩,⟨#[]⟩,[],false)
theorem xg (k:Nat) (hk:K0 + 20 ≤ k) (d:ByteArray) (hd:d.size ≤ 65535) (s0 s1 s2:Int) (a1:0 ≤ s0) (a3:0 ≤ s1) (a4:s1 ≤ 2) (a5:0 ≤ s2) (a6:s2 ≤ 20) (R:List ByteArray × Int) (c1:s0 ≤ (d.size:Int)) (c2:zu d d.size s1.toNat s0 [] = some R) (c3:R.2 + s2 = d.size) :
  bS.f k d 0 (d.size:Int) s0 s1 s2 = some (d.extract 0 s0.toNat,d.extract R.2.toNat d.size,R.1,true):=by
 unfold bS.f
 have e2:wrap64 ((d.size:Int) - 0) = d.size:=by rw [dX (by omega) (by omega)];omega
 have e3:wrap64 (0 + s0) = s0:=by rw [dX (by omega) (by omega)];omega
 obtain ⟨b1,b2,_⟩:=ou d _ (by omega) _ _ _ R c2 c1
 have hz:((d.extract R.2.toNat d.size).size:Int) = s2:=by rw [ByteArray.size_extract];omega
 obtain ⟨k,rfl⟩:∃ j,k = j + 1:=⟨k - 1,by omega⟩
 have h:=Dg d d.size s0 s1 s2 (d.extract 0 s0.toNat) ⟨#[]⟩ (by omega) (Int.le_refl _) ⟨a5,by omega⟩ s1 (by omega) s1.toNat k s0 0 [] (by omega) (by omega) (Int.le_refl _) a1 c1 (by simp only [List.length_nil];omega)
 rw [c2] at h
 simp only [Int.toNat_natCast] at h
 rw [show (((d.extract R.2.toNat d.size).size:Int) == s2) = true from beq_iff_eq.mpr hz] at h
 rw [e2,if_pos c1,if_pos (Int.le_refl _),e3,if_pos a1,if_pos c1]
 exact h
theorem Bo (k:Nat) (hk:K0 + 20 ≤ k) (kind:Int) (d:ByteArray):bW.f k kind d = some (prt kind d):=by
 unfold bW.f prt
 rw [Bj k (by omega)]
 simp only [Option.bind_some]
 by_cases h:vX kind d = true
 ·rw [if_pos h,if_pos h]
  cases hs:ay.uP kind with
  | none=>rfl
  | some s =>
   obtain ⟨R,c1,c2,c3,c4,c5,c6,c7,c8,c9⟩:=uL h hs
   obtain ⟨a1,a2,a3,a4,a5,a6,a7,a8⟩:=kY hs
   obtain ⟨h0,_⟩:=qP.mp h
   obtain ⟨s0,s1,s2⟩:=s
   simp only at a1 a2 a3 a4 a5 a6 c1 c2 c3 c5
   simp only [c2]
   exact xg k hk d h0 s0 s1 s2 a1 a3 a4 a5 a6 R c1 c2 c3
 ·rw [if_neg h,if_neg h]
theorem Oq (k:Nat) (hk:K0 + 20 ≤ k) (kind:Int) (d:ByteArray):mX.f k kind d = some (prt kind d).2.2.1:=by
 unfold mX.f;rw [Bo k hk];rfl
theorem Kv {kind:Int} {d:ByteArray}:(∀ x ∈ (prt kind d).2.2.1,jc x = true) ∧ (prt kind d).2.2.1.length ≤ 2:=by
 unfold prt
 by_cases h:vX kind d = true
 ·rw [if_pos h]
  cases hs:ay.uP kind with
  | none=>exact ⟨by simp,by simp⟩
  | some s =>
   obtain ⟨R,c1,c2,c3,c4,c5,c6,c7,c8,c9⟩:=uL h hs
   obtain ⟨a1,a2,a3,a4,a5,a6,a7,a8⟩:=kY hs
   simp only [c2]
   exact ⟨c8,by omega⟩
 ·rw [if_neg h];exact ⟨by simp,by simp⟩
theorem wH (k:Nat) (hk:600 ≤ k) (n:ByteArray) (hs:n.size ≤ 1000000000):mU.f k n = some (if jc n = true then jU n else ⟨#[]⟩):=by
 unfold mU.f
 rw [ES k hk n hs,WB n hs]
 simp only [Option.bind_some]
 split <;> rfl
theorem G6 (k:Nat) (hk:600 ≤ k) (n:ByteArray) (hs:n.size ≤ 1000000000):gM.f k n = some (if jc n = true then jU n else ⟨#[]⟩):=by
 unfold gM.f
 rw [uE k hk n hs,NP n hs]
 simp only [Option.bind_some]
 split <;> rfl
theorem all_eq (k:Nat) (hk:600 ≤ k):∀ l:List ByteArray,(∀ x ∈ l,jc x = true) → eH.all k l = some (l.map jU)
 | [],_=>rfl
 | x :: l,h=>by
  have hx:=h x (by simp)
  have hz:=qm hx
  rw [eH.all,wH k hk x (by omega),if_pos hx]
  simp only [Option.bind_some]
  rw [all_eq k hk l (fun y hy=>h y (by simp [hy]))]
  rfl
theorem oQ : ∀ l:List ByteArray,(strings_Join.cat (l.map jU)).size = (strings_Join.cat l).size
 | []=>rfl
 | x :: l=>by rw [List.map_cons,strings_Join.cat,strings_Join.cat,ByteArray.size_append,ByteArray.size_append,qL,oQ l]
def lw (kind:Int) (d:ByteArray):ByteArray:=(prt kind d).1 ++ strings_Join.cat ((prt kind d).2.2.1.map jU) ++ (prt kind d).2.1
theorem Kw {kind:Int} {d:ByteArray}:(prt kind d).1.size ≤ 65535 ∧ (prt kind d).2.1.size ≤ 65535:=by
 unfold prt
 by_cases h:vX kind d = true
 ·obtain ⟨h0,_⟩:=qP.mp h
  rw [if_pos h]
  cases hs:ay.uP kind with
  | none=>exact ⟨h0,by show (⟨#[]⟩:ByteArray).size ≤ 65535;decide⟩
  | some s =>
   obtain ⟨R,c1,c2,_⟩:=uL h hs
   simp only [c2]
   simp only [ByteArray.size_extract]
   omega
 ·rw [if_neg h];exact ⟨by decide,by decide⟩
theorem R9 (k:Nat) (hk:K0 + 20 ≤ k) (kind:Int) (d:ByteArray):eH.f k kind d = some (lw kind d):=by
 obtain ⟨p1,p2⟩:=@Kv kind d
 obtain ⟨p3,p4⟩:=@Kw kind d
 have hcz:=zw p1
 unfold eH.f
 rw [Bo k hk]
 simp only [Option.bind_some]
 rw [all_eq k (by unfold K0 at hk;omega) _ p1]
 simp only [Option.bind_some]
 unfold eH.fin lw
 rw [if_pos (by rw [oQ];omega),if_pos (by rw [List.length_map];omega)]
theorem uM (d:ByteArray) (e s0 s1 s2:Int) (hm:d.size ≤ 100000) (he:e ≤ (d.size:Int)) (hs:s1 ≤ 100):∀ (n k:Nat) (l:List ByteArray) (i x:Int) (R:List ByteArray × Int),K0 + n ≤ k → x + n = s1 → 0 ≤ x → i ≤ e → l.length + n ≤ 1000 → zu d e n i l = some R →
  bD.l0 (k + 1) d l i x s0 s1 s2 = some R.1
 | 0,k,l,i,x,R,hk,hx,hx0,hi,hl,h=>by
  cases h
  rw [bD.l0,if_neg (by omega)]
 | n + 1,k,l,i,x,R,hk,hx,hx0,hi,hl,h=>by
  obtain ⟨k,rfl⟩:∃ m,k = m + 1:=⟨k - 1,by omega⟩
  rw [zu] at h
  rw [bD.l0,if_pos (by omega),vN (k + 1) d i hm (qO hm (by omega) (by omega))]
  simp only [Option.bind_some]
  by_cases h0:(vM d i).2.2 = 0
  ·rw [if_pos h0] at h
   by_cases h1:(vM d i).2.1 > e
   ·rw [if_pos h1] at h;cases h
   ·rw [if_neg h1] at h
    rw [if_pos (by omega),dX (by omega) (by omega)]
    exact uM d e s0 s1 s2 hm he hs n k _ _ _ R (by omega) (by omega) (by omega) (by omega) (by rw [List.length_append,List.length_singleton];omega) h
  ·rw [if_neg h0] at h;cases h
theorem Dk (k:Nat) (hk:K0 + 20 ≤ k) (kind:Int) (d:ByteArray):bD.f k kind d = some (prt kind d).2.2.1:=by
 unfold bD.f prt
 rw [rM k (by omega),uK k (by omega)]
 simp only [Option.bind_some]
 obtain ⟨k,rfl⟩:∃ j,k = j + 1:=⟨k - 1,by omega⟩
 by_cases h:vX kind d = true
 ·rw [if_pos h,if_pos h]
  obtain ⟨h0,_⟩:=qP.mp h
  cases hs:ay.uP kind with
  | none =>
   rw [Option.getD_none,bD.l0,if_neg (by decide)]
  | some s =>
   obtain ⟨R,c1,c2,c3,c4,c5,c6,c7,c8,c9⟩:=uL h hs
   obtain ⟨a1,a2,a3,a4,a5,a6,a7,a8⟩:=kY hs
   simp only [c2,Option.getD_some]
   exact uM d d.size _ _ _ (by omega) (Int.le_refl _) (by omega) s.2.1.toNat k [] s.1 0 R (by omega) (by omega) (Int.le_refl _) c1 (by simp only [List.length_nil];omega) c2
 ·rw [if_neg h,if_neg h]
end Go.Proofs.Ytfokaoeinpnagaa.ZQ
namespace Go.Proofs.Ytfokaoeinpnagaa.Kc
open Go Go.RowKit Ev
open Go.Proofs.YtfokaoeinpnagaaW.bE in
theorem zx {Fz:Nat → Prop} {w:World}:∀ {r:List ByteArray} {inner:List Value},(inner.length = r.length * 1 ∧ ∀ j p,r[j]? = some p → (inner.drop (j * 1)).take 1 = [.string p]) → eu Fz w 1 (r.map fD) inner
 | [],inner,h=>by
  show inner = []
  exact List.eq_nil_of_length_eq_zero (by simpa using h.1)
 | x :: r,inner,h=>by
  have h0:=h.2 0 x rfl
  rw [Nat.zero_mul,List.drop_zero] at h0
  refine ⟨rfl,by rw [h0];exact ⟨rfl,trivial⟩,zx ⟨by have:=h.1;simp at this ⊢;omega,fun j p hj=>?_⟩⟩
  have:=h.2 (j + 1) p (by simpa using hj)
  rw [List.drop_drop,show 1 + j * 1 = (j + 1) * 1 from by omega]
  exact this
def gNm (g:Int → ByteArray → List ByteArray) (fK:List AV):Option (List AV × List AV):=match fK with
 | [.one (.f (.int .i64 k)),.one (.f (.str q))]=>if q.size ≤ 1000000 then some ([vl ((g k q).map fD)],fK) else none
 | _=>none
open Go.Proofs.YtfokaoeinpnagaaW.bE in
theorem Ji {f:FuncId} {g:Int → ByteArray → List ByteArray} (h:∀ k q w,q.size ≤ 1000000 → Calls Try.prog f #[.int .i64 k,.string q] w fun e w'=>∃ v:Value,e = .returned v ∧ Kd.R Kd.string 9 w' w.heap.size (fun _=>True) v (g k q) ∧ Below w.heap.size w w'):Sat Try.prog f (gNm g):=by
 intro fK rs rY hg Fz w vals bs ha hnd hap hfz
 unfold gNm at hg
 split at hg
 ·rename_i k q
  split at hg
  ·rename_i hq
   cases hg
   obtain ⟨e1,e2⟩:=yP (l:=[.int .i64 k,.str q]) ha
   subst e1;subst e2
   refine (h k q w hq).mono fun e w' ⟨v,he,hv,hb⟩=>?_
   subst he
   obtain ⟨-,inner,ho,hr⟩:=hv
   have hr':inner.length = (g k q).length * 1 ∧ ∀ j p,(g k q)[j]? = some p → (inner.drop (j * 1)).take 1 = [.string p]:=hr
   have hbl:∀ b ∈ Ev.oW v,w.heap.size ≤ b ∧ b < w'.heap.size:=fun b hb'=>by
    rcases ho.2 with ⟨rfl,_⟩ | ⟨y,cap,cur,rfl,hy,hh, -⟩
    ·exact absurd hb' (by simp [Ev.oW,Ev.blk])
    ·have e1:b = y:=by simpa [Ev.oW,Ev.blk] using hb'
     subst e1
     exact ⟨hy,(Array.getElem?_eq_some_iff.mp hh).1⟩
   have hsl:∃ A c,v = .slice A ((g k q).map fD).length c:=by
    rw [List.length_map]
    rcases ho.2 with ⟨rfl,hn⟩ | ⟨y,cap,cur,rfl,_⟩
    ·exact ⟨none,0,by rw [hn]⟩
    ·exact ⟨_,_,rfl⟩
   obtain ⟨A,c,hv⟩:=hsl
   have hro:jq Fz w' 1 ((g k q).map fD) v (Ev.oW v):=⟨by decide,9,inner,A,c,hv,by rw [List.length_map];exact ⟨ho.1,ho.2.imp id (fun ⟨y,cap,cur,h1,_,h3⟩=>⟨y,cap,cur,h1,Nat.zero_le _,h3⟩)⟩,zx hr',rfl⟩
   refine ⟨fun b=>Fz b ∨ (w.heap.size ≤ b ∧ b < w'.heap.size),[v],[],[],rfl,fun b h=>.inl h,fun b hb'=>?_,hb.size,fun b hb' _=>hb.block b hb',⟨hb.os,hb.output⟩,tQ (l:=[.int .i64 k,.str q]),?_,by simp,fun b hb'=>by simp at hb'⟩
   ·rcases hb' with h1 | h1
    ·exact ⟨Nat.lt_of_lt_of_le (hfz b h1) hb.size,.inl h1⟩
    ·exact ⟨h1.2,.inr (.inr h1.1)⟩
   ·exact ⟨[],[],⟨hro.fz (fun b h=>.inl h) (fun b hb'=>.inr (hbl b hb')),rfl⟩,rfl,rfl⟩
  ·cases hg
 ·cases hg
end Go.Proofs.Ytfokaoeinpnagaa.Kc
set_option maxRecDepth 100000
namespace Go.Proofs.Ytfokaoeinpnagaa.Kc
open Go Go.RowKit Ev
abbrev AG := List AV → Option (List AV × List AV)
def Ul (g:ByteArray → SV):AG:=fun fK=>match fK with
 | [.one (.f (.str q))]=>if q.size ≤ 1000000 then some (Gp [g q],Gp [.str q]) else none
 | _=>none
def WY (g:Int → ByteArray → SV):AG:=fun fK=>match fK with
 | [.one (.f (.int .i64 k)),.one (.f (.str q))]=>if q.size ≤ 1000000 then some (Gp [g k q],Gp [.int .i64 k,.str q]) else none
 | _=>none
theorem xH {f:FuncId} {g:ByteArray → SV} (h:∀ q w,q.size ≤ 1000000 → Calls Try.prog f #[.string q] w fun e w'=>e = .returned (encS (g q)) ∧ Below w.heap.size w w'):Sat Try.prog f (Ul g):=by
 refine Sat.wK fun fK r he=>?_
 unfold Ul at he
 split at he
 ·split at he
  ·cases he;rename_i q hq;exact ⟨[.str q],[g q],rfl,rfl,fun w=>h q w hq⟩
  ·cases he
 ·cases he
theorem Dl {f:FuncId} {g:Int → ByteArray → SV} (h:∀ k q w,q.size ≤ 1000000 → Calls Try.prog f #[.int .i64 k,.string q] w fun e w'=>e = .returned (encS (g k q)) ∧ Below w.heap.size w w'):Sat Try.prog f (WY g):=by
 refine Sat.wK fun fK r he=>?_
 unfold WY at he
 split at he
 ·split at he
  ·cases he;rename_i k q hq;exact ⟨[.int .i64 k,.str q],[g k q],rfl,rfl,fun w=>h k q w hq⟩
  ·cases he
 ·cases he
def Yn (g:ByteArray → Int → Int → Int × Bool):AG:=fun fK=>match fK with
 | [.one (.f (.str q)),.one (.f (.int .i64 a)),.one (.f (.int .i64 z))]=>if q.size ≤ 1000000 then some (Gp [.int .i64 (g q a z).1,.bool (g q a z).2],Gp [.str q,.int .i64 a,.int .i64 z]) else none
 | _=>none
theorem Jj {f:FuncId} {g:ByteArray → Int → Int → Int × Bool} (h:∀ q a z w,q.size ≤ 1000000 → Calls Try.prog f #[.string q,.int .i64 a,.int .i64 z] w fun e w'=>e = .returned (.tuple #[.int .i64 (g q a z).1,.bool (g q a z).2]) ∧ Below w.heap.size w w'):Sat Try.prog f (Yn g):=by
 refine Sat.wK fun fK r he=>?_
 unfold Yn at he
 split at he
 ·split at he
  ·cases he;rename_i q a z hq;exact ⟨[.str q,.int .i64 a,.int .i64 z],[.int .i64 (g q a z).1,.bool (g q a z).2],rfl,rfl,fun w=>h q a z w hq⟩
  ·cases he
 ·cases he
def Fp (s:ByteArray) (a z:Int):Int × Bool:=if ZQ.jN s a z then (ZQ.ig z.toNat s a,true) else (0,false)
def Ot (q:ByteArray):ByteArray:=if B.jc q = true then B.jU q else ⟨#[]⟩
def wI : Th:=⟨B.jc,Ot,ZQ.vX,ZQ.lw⟩
def nm₀ (k:Int) (q:ByteArray):List ByteArray:=(ZQ.prt k q).2.2.1
def leafs : List (FuncId × AG):=[
 (70,Ul fun q=>.bool (B.jc q)),(48,Ul fun q=>.str (Ot q)),
 (24,Ul fun q=>.bool (B.jc q)),(37,Ul fun q=>.str (Ot q)),
 (73,WY fun k q=>.bool (ZQ.vX k q)),(83,WY fun k q=>.str (ZQ.lw k q)),
 (52,WY fun k q=>.bool (ZQ.vX k q)),
 (68,Qu 1 false),(45,Qu 3 true),
 (80,Yn Fp),(77,Yn Fp),(29,gNm nm₀),(30,gNm nm₀)]
theorem Fq : ∀ p ∈ leafs,Sat Try.prog p.1 p.2:=by
 have hk:∀ q:ByteArray,q.size ≤ 1000000 → q.size ≤ 1000000000:=fun q h=>by omega
 intro p hp
 simp only [leafs,List.mem_cons,List.not_mem_nil,or_false] at hp
 rcases hp with rfl | rfl | rfl | rfl | rfl | rfl | rfl | rfl | rfl | rfl | rfl | rfl | rfl
 ·exact xH fun q w hq=>ZQ.iQ.calls 600 q _ w (ZQ.ES 600 (Nat.le_refl _) q (hk q hq))
 ·exact xH fun q w hq=>ZQ.mU.calls 600 q _ w (ZQ.wH 600 (Nat.le_refl _) q (hk q hq))
 ·exact xH fun q w hq=>ZQ.dz.calls 600 q _ w (ZQ.uE 600 (Nat.le_refl _) q (hk q hq))
 ·exact xH fun q w hq=>ZQ.gM.calls 600 q _ w (ZQ.G6 600 (Nat.le_refl _) q (hk q hq))
 ·exact Dl fun k q w hq=>ZQ.iU.calls _ k q _ w (ZQ.Bj (ZQ.K0 + 20) (by omega) k q)
 ·exact Dl fun k q w hq=>ZQ.eH.calls _ k q _ w (ZQ.R9 (ZQ.K0 + 20) (by omega) k q)
 ·exact Dl fun k q w hq=>ZQ.dA.calls _ k q _ w (ZQ.rM (ZQ.K0 + 20) (by omega) k q)
 ·exact Qv
 ·exact Qw
 ·refine Jj fun q a z w hq=>?_
  have h:=ZQ.get_eq 9 (Nat.le_refl _) q a z (by omega)
  exact (ZQ.bg.calls 9 q a z _ _ w h).mono fun e w' hh=>⟨hh.1,hh.2.below⟩
 ·refine Jj fun q a z w hq=>?_
  have h:=ZQ.sw 9 (Nat.le_refl _) q a z hq
  exact (ZQ.av.calls 9 q a z _ _ w h).mono fun e w' hh=>⟨hh.1,hh.2.below⟩
 ·exact Ji fun k q w hq=>ZQ.mX.calls _ k q _ w (ZQ.Oq (ZQ.K0 + 20) (by omega) k q)
 ·exact Ji fun k q w hq=>ZQ.bD.calls _ k q _ w (ZQ.Dk (ZQ.K0 + 20) (by omega) k q)
theorem zy : ∀ p ∈ leafs,∃ fn,Try.prog.funcs[p.1]? = some fn ∧ (fn.name == "runtime.NumGoroutine") = false ∧ fn.body.isSome = true:=by
 intro p hp
 simp only [leafs,List.mem_cons,List.not_mem_nil,or_false] at hp
 rcases hp with rfl | rfl | rfl | rfl | rfl | rfl | rfl | rfl | rfl | rfl | rfl | rfl | rfl
 ·exact ⟨Try.f70,by kernel_rfl,by kernel_rfl,by kernel_rfl⟩
 ·exact ⟨Try.f48,by kernel_rfl,by kernel_rfl,by kernel_rfl⟩
 ·exact ⟨Try.f24,by kernel_rfl,by kernel_rfl,by kernel_rfl⟩
 ·exact ⟨Try.f37,by kernel_rfl,by kernel_rfl,by kernel_rfl⟩
 ·exact ⟨Try.f73,by kernel_rfl,by kernel_rfl,by kernel_rfl⟩
 ·exact ⟨Try.f83,by kernel_rfl,by kernel_rfl,by kernel_rfl⟩
 ·exact ⟨Try.f52,by kernel_rfl,by kernel_rfl,by kernel_rfl⟩
 ·exact ⟨Try.f68,by kernel_rfl,by kernel_rfl,by kernel_rfl⟩
 ·exact ⟨Try.f45,by kernel_rfl,by kernel_rfl,by kernel_rfl⟩
 ·exact ⟨Try.f80,by kernel_rfl,by kernel_rfl,by kernel_rfl⟩
 ·exact ⟨Try.f77,by kernel_rfl,by kernel_rfl,by kernel_rfl⟩
 ·exact ⟨Try.f29,by kernel_rfl,by kernel_rfl,by kernel_rfl⟩
 ·exact ⟨Try.f30,by kernel_rfl,by kernel_rfl,by kernel_rfl⟩
def G7 : Env:=nU leafs
theorem Sb : iN Try.prog G7:=yQ Fq
theorem Ky : eD Try.prog G7:=sj zy
noncomputable def ins : List (FuncId × AG):=(21,wh G7 200000000000001 9) :: leafs
theorem WZ : ∀ p ∈ ins,Sat Try.prog p.1 p.2:=by
 intro p hp
 rcases List.mem_cons.mp hp with rfl | hp
 ·exact Qx Sb Ky _ _
 ·exact Fq p hp
theorem Ou : ∀ p ∈ ins,∃ fn,Try.prog.funcs[p.1]? = some fn ∧ (fn.name == "runtime.NumGoroutine") = false ∧ fn.body.isSome = true:=by
 intro p hp
 rcases List.mem_cons.mp hp with rfl | hp
 ·exact ⟨Try.f21,by kernel_rfl,by kernel_rfl,by kernel_rfl⟩
 ·exact zy p hp
noncomputable def ext1 : Env:=nU ins
theorem Sc : iN Try.prog ext1:=yQ WZ
theorem Kz : eD Try.prog ext1:=sj Ou
theorem abT : wI.Ok G7:=by
 constructor <;> intros <;> simp_all [G7,leafs,nU,Ul,WY,Gp,V4,wI,vs,vb,vi]
theorem W9 : wI.Ok ext1:=by
 constructor <;> intros <;> simp_all [ext1,ins,leafs,nU,Ul,WY,Gp,V4,wI,vs,vb,vi]
theorem Jk {α:Type} (sz:Nat) (own:Bool) (l:List α) (f:α → List FV) (hf:∀ x,(f x).length = sz) (h:l.length ≤ 1000000):Qu sz own [vl (l.map f)] = some ([.one (if own then .own sz (l.map f) else .f (.sl (l.map f)))],[vl (l.map f)]):=by
 have h1:((l.map f).all fun r=>r.length == sz) = true:=by
  rw [List.all_eq_true];intro r hr;obtain ⟨x, -,rfl⟩:=List.mem_map.mp hr;exact beq_iff_eq.mpr (hf x)
 show (if (l.map f).length ≤ 1000000 ∧ _ then _ else _) = _
 rw [if_pos ⟨by rw [List.length_map];exact h,h1⟩]
theorem abU (l:List ByteArray) (h:l.length ≤ 1000000):Qu 1 false [vl (l.map fD)] = some ([vl (l.map fD)],[vl (l.map fD)]):=Jk 1 false l fD (fun _=>rfl) h
theorem abV (l:List Qn) (h:l.length ≤ 1000000):Qu 3 true [vl (l.map rQ)] = some ([.one (.own 3 (l.map rQ))],[vl (l.map rQ)]):=Jk 3 true l rQ (fun _=>rfl) h
theorem abW : nS G7:=⟨fun l h=>abV l h,fun l h=>abU l h⟩
theorem Xa : nS ext1:=⟨fun l h=>abV l h,fun l h=>abU l h⟩
theorem Fu (fK:List AV):ext1 21 fK = wh G7 200000000000001 (0 + 9) fK:=by
 unfold ext1 ins nU;rw [if_pos rfl]
theorem Sd : El wI ext1 where
 p0 now x r:=by rw [Fu];exact M0 now x r
 p1 s now x r h1 h2 h3 _ h4 h5 h6:=by rw [Fu];exact M4 abT abW s now x r (Nat.le_refl _) h1 h2 h3 h4 h5 h6
theorem Xb : Ne.Gj Fp ext1:=by
 refine ⟨fun s a z h=>?_,fun s a z h=>?_,fun s a z=>?_⟩
 ·simp [ext1,ins,leafs,nU,Yn,Gp,V4,h,vs,vb,vi]
 ·simp [ext1,ins,leafs,nU,Yn,Gp,V4,h,vs,vb,vi]
 ·unfold Fp
  split
  ·exact (ZQ.oM _ _ _).1
  ·exact Int.le_refl _
theorem Xc : Cq nm₀ ext1:=by
 constructor
 all_goals
  intro k q h
  simp [ext1,ins,leafs,nU,gNm,h,vs,vi]
end Go.Proofs.Ytfokaoeinpnagaa.Kc
namespace Go.Proofs.Ytfokaoeinpnagaa.ZQ
open Go.RowKit Go.Proofs.YtfokaoeinpnagaaW.bE Go.Proofs.YtfokaoeinpnagaaW.dB Go.Proofs.YtfokaoeinpnagaaW.dU Go.Proofs.Ytfokaoeinpnagaa.B
theorem Fv (xs:List Int) (h:∀ x ∈ xs,0 ≤ x ∧ x ≤ 255):numsOf (strOfNums xs) = xs:=by
 unfold numsOf
 rw [strOfNums_data,List.map_map]
 conv=>rhs;rw [← List.map_id xs]
 refine List.map_congr_left fun x hx=>?_
 have:=h x hx
 simp [UInt8.toNat_ofNat']
 omega
theorem Jl (b:Int) (h:0 ≤ b ∧ b ≤ 63):jU (sg b) = sg b:=by
 have e:numsOf (sg b) = [b]:=Fv [b] (by intro x hx;simp only [List.mem_singleton] at hx;omega)
 unfold jU
 rw [e]
 have:iC b = b:=by unfold iC;rw [if_neg (by omega)]
 rw [List.map_cons,List.map_nil,this]
 rfl
theorem KA : jU root = root:=by rw [IQ];exact Jl 0 (by omega)
theorem Sg {x:ByteArray} (h:zJ x):zJ (jU x):=by unfold zJ at *;rw [qL];exact h
theorem zA : ∀ (l:List ByteArray),(∀ x ∈ l,zJ x) → jU (enc l) = enc (l.map jU)
 | [],_=>by rw [xD,List.map_nil,xD,KA]
 | x :: l,h=>by
  have hx:=h x (by simp)
  rw [nY,wE,wE,zA l (fun y hy=>h y (by simp [hy])),List.map_cons,nY,qL,Jl _ (by have:=hx.2;omega)]
theorem Si {l:List ByteArray} (h:∀ x ∈ l,zJ x):∀ x ∈ l.map jU,zJ x:=by
 intro x hx
 obtain ⟨y,hy,rfl⟩:=List.mem_map.mp hx
 exact Sg (h y hy)
theorem Sj {n:ByteArray} (h:jc n = true):jc (jU n) = true:=by
 obtain ⟨l,rfl,hok,hz⟩:=uw.mp h
 rw [zA l hok]
 refine QN (Si hok) ?_
 rw [← zA l hok,qL];exact hz
end Go.Proofs.Ytfokaoeinpnagaa.ZQ
namespace Go.Proofs.Ytfokaoeinpnagaa.ZQ
open Go.RowKit Go.Proofs.YtfokaoeinpnagaaW.bE Go.Proofs.YtfokaoeinpnagaaW.dB Go.Proofs.YtfokaoeinpnagaaW.dU Go.Proofs.Ytfokaoeinpnagaa.B
theorem Sk (A C n:ByteArray) (hn:jc n = true) (hm:(A ++ (n ++ C)).size ≤ 100000):vM (A ++ (n ++ C)) A.size = (n,(A.size:Int) + n.size,0):=by
 obtain ⟨ls,rfl,hok,hz⟩:=uw.mp hn
 have hl:=GR ls
 have hpe:=EJ ls
 have h:bC.f (200000 + 1 + ls.length) (A ++ (enc ls ++ C)) A.size = some (enc ls,(A.size:Int) + (enc ls).size,0):=by
  refine (NV hm).mpr ?_
  have:=GU ls 200000 A C ⟨#[]⟩ A.size (-1) hok (by rw [empty_append];omega)
  rw [empty_append,if_pos rfl] at this
  exact this
 have hA:A.size ≤ 100000:=by rw [ByteArray.size_append] at hm;omega
 have h2:=Oi (200000 + 1 + ls.length) _ _ hm (by unfold rounds;omega:rounds (A.size:Int) ≤ _)
 rw [h] at h2
 exact (Option.some.inj h2).symm
theorem Jm (C:ByteArray) (e:Int):∀ (l:List ByteArray) (A:ByteArray) (acc:List ByteArray),(∀ x ∈ l,jc x = true) → (A ++ (strings_Join.cat l ++ C)).size ≤ 100000 → (A.size:Int) + (strings_Join.cat l).size ≤ e →
  zu (A ++ (strings_Join.cat l ++ C)) e l.length A.size acc = some (acc ++ l,(A.size:Int) + (strings_Join.cat l).size)
 | [],A,acc,_,_,_=>by
  rw [List.length_nil,zu,List.append_nil]
  have:(strings_Join.cat ([]:List ByteArray)).size = 0:=rfl
  rw [this,show (A.size:Int) + ((0:Nat):Int) = A.size from by omega]
 | x :: l,A,acc,h,hm,he=>by
  have hx:=h x (by simp)
  have ec:strings_Join.cat (x :: l) = x ++ strings_Join.cat l:=rfl
  have e1:A ++ (strings_Join.cat (x :: l) ++ C) = A ++ (x ++ (strings_Join.cat l ++ C)):=by rw [ec];simp only [ByteArray.append_assoc]
  have e2:A ++ (x ++ (strings_Join.cat l ++ C)) = (A ++ x) ++ (strings_Join.cat l ++ C):=by simp only [ByteArray.append_assoc]
  have hcz:(strings_Join.cat (x :: l)).size = x.size + (strings_Join.cat l).size:=by rw [ec,ByteArray.size_append]
  have hAx:(A ++ x).size = A.size + x.size:=ByteArray.size_append
  rw [e1] at hm ⊢
  have hr:=Sk A (strings_Join.cat l ++ C) x hx hm
  rw [List.length_cons,zu,hr]
  simp only [if_true]
  rw [if_neg (by omega)]
  have ih:=Jm C e l (A ++ x) (acc ++ [x]) (fun y hy=>h y (by simp [hy])) (by rw [← e2];exact hm) (by omega)
  rw [e2,show (A.size:Int) + (x.size:Int) = (((A ++ x).size:Nat):Int) from by omega,ih,hcz,hAx]
  refine congrArg some (Prod.ext ?_ ?_)
  ·simp
  ·simp only;omega
def Xd (s:Int × Int × Int) (a:ByteArray) (l:List ByteArray) (b:ByteArray):Prop :=
 (a.size:Int) = s.1 ∧ l.length = s.2.1.toNat ∧ (∀ x ∈ l,jc x = true) ∧ (b.size:Int) = s.2.2 ∧ (a ++ strings_Join.cat l ++ b).size ≤ 65535
theorem zB {kind:Int} {s:Int × Int × Int} (hs:ay.uP kind = some s) {a b:ByteArray} {l:List ByteArray} (h:Xd s a l b) :
  zu (a ++ strings_Join.cat l ++ b) ((a ++ strings_Join.cat l ++ b).size:Nat) s.2.1.toNat s.1 [] = some (l,s.1 + (strings_Join.cat l).size) ∧ vX kind (a ++ strings_Join.cat l ++ b) = true:=by
 obtain ⟨h1,h2,h3,h4,h5⟩:=h
 have ea:a ++ strings_Join.cat l ++ b = a ++ (strings_Join.cat l ++ b):=ByteArray.append_assoc
 have hsz:(a ++ strings_Join.cat l ++ b).size = a.size + (strings_Join.cat l).size + b.size:=by simp only [ByteArray.size_append]
 have hr:zu (a ++ strings_Join.cat l ++ b) ((a ++ strings_Join.cat l ++ b).size:Nat) s.2.1.toNat s.1 [] = some (l,s.1 + (strings_Join.cat l).size):=by
  rw [← h1,← h2,hsz,ea]
  have:=Jm b ((a.size + (strings_Join.cat l).size + b.size:Nat):Int) l a [] h3 (by rw [← ea];omega) (by omega)
  rw [List.nil_append] at this
  exact this
 refine ⟨hr,qP.mpr ⟨h5,?_⟩⟩
 unfold wZ Dj
 rw [if_pos (oP _),hs]
 simp only [Int.zero_add,Int.toNat_natCast]
 rw [if_pos (by omega),hr]
 simp only
 rw [if_pos (by omega)]
 have e1:(a ++ strings_Join.cat l ++ b).extract (0:Int).toNat s.1.toNat = a:=by
  rw [ea,show s.1.toNat = a.size from by omega,show (0:Int).toNat = 0 from rfl];exact nX _ _
 have e2:(a ++ strings_Join.cat l ++ b).extract (s.1 + ((strings_Join.cat l).size:Int)).toNat (a ++ strings_Join.cat l ++ b).size = b:=by
  rw [show (s.1 + ((strings_Join.cat l).size:Int)).toNat = (a ++ strings_Join.cat l).size from by rw [ByteArray.size_append];omega];exact kI _ _
 rw [e1,e2,R8 h5]
theorem vR {kind:Int} {s:Int × Int × Int} (hs:ay.uP kind = some s) {a b:ByteArray} {l:List ByteArray} (h:Xd s a l b):prt kind (a ++ strings_Join.cat l ++ b) = (a,b,l,true):=by
 obtain ⟨hr,hc⟩:=zB hs h
 obtain ⟨h1,h2,h3,h4,h5⟩:=h
 have ea:a ++ strings_Join.cat l ++ b = a ++ (strings_Join.cat l ++ b):=ByteArray.append_assoc
 unfold prt
 rw [if_pos hc,hs]
 simp only
 rw [hr]
 have e1:(a ++ strings_Join.cat l ++ b).extract 0 s.1.toNat = a:=by
  rw [ea,show s.1.toNat = a.size from by omega];exact nX _ _
 have e2:(a ++ strings_Join.cat l ++ b).extract (s.1 + ((strings_Join.cat l).size:Int)).toNat (a ++ strings_Join.cat l ++ b).size = b:=by
  rw [show (s.1 + ((strings_Join.cat l).size:Int)).toNat = (a ++ strings_Join.cat l).size from by rw [ByteArray.size_append];omega];exact kI _ _
 simp only
 rw [e1,e2]
theorem G8 {msg:ByteArray} (hm:msg.size ≤ 100000) {i size kind:Int} {s:Int × Int × Int} (ht:gJ msg i size) (hs:ay.uP kind = some s) {d:ByteArray} (h:Dj msg i size s = (d,0)) :
  ∃ a l b,Xd s a l b ∧ d = a ++ strings_Join.cat l ++ b:=by
 obtain ⟨h0,h1,h2⟩:=ht
 obtain ⟨a1,a2,a3,a4,a5,a6,a7,a8⟩:=kY hs
 unfold Dj at h
 by_cases c:s.1 ≤ size
 ·rw [if_pos c] at h
  cases hr:zu msg (i + size) s.2.1.toNat (i + s.1) [] with
  | none=>rw [hr] at h;have:=congrArg Prod.snd h;cases this
  | some R =>
   obtain ⟨b1,b2,b3,l',b4,b5⟩:=ou msg _ hm _ _ _ R hr (by omega)
   rw [List.nil_append] at b4
   rw [List.length_nil,Nat.zero_add] at b3
   rw [hr] at h
   simp only at h
   by_cases c2:R.2 + s.2.2 = i + size
   ·rw [if_pos c2] at h
    obtain ⟨e1,e2⟩:=Bl h
    refine ⟨_,R.1,_,⟨?_,b3,by rw [b4];exact b5,?_,e2⟩,e1.symm⟩
    ·rw [ByteArray.size_extract];omega
    ·rw [ByteArray.size_extract];omega
   ·rw [if_neg c2] at h;have:=congrArg Prod.snd h;cases this
 ·rw [if_neg c] at h;have:=congrArg Prod.snd h;cases this
theorem KC {kind:Int} {s:Int × Int × Int} (hs:ay.uP kind = some s) {d:ByteArray} (h:vX kind d = true):∃ a l b,Xd s a l b ∧ d = a ++ strings_Join.cat l ++ b:=by
 obtain ⟨h0,h1⟩:=qP.mp h
 unfold wZ at h1
 rw [if_pos (oP d),hs] at h1
 exact G8 (by omega) (oP d) hs h1
theorem Ov {kind:Int} {s:Int × Int × Int} (hs:ay.uP kind = some s) {a b:ByteArray} {l:List ByteArray} (h:Xd s a l b):lw kind (a ++ strings_Join.cat l ++ b) = a ++ strings_Join.cat (l.map jU) ++ b ∧ Xd s a (l.map jU) b:=by
 refine ⟨by unfold lw;rw [vR hs h],?_⟩
 obtain ⟨h1,h2,h3,h4,h5⟩:=h
 refine ⟨h1,by rw [List.length_map];exact h2,?_,h4,?_⟩
 ·intro x hx
  obtain ⟨y,hy,rfl⟩:=List.mem_map.mp hx
  exact Sj (h3 y hy)
 ·simp only [ByteArray.size_append] at h5 ⊢;rw [oQ];exact h5
end Go.Proofs.Ytfokaoeinpnagaa.ZQ
set_option maxRecDepth 100000
namespace Go.Proofs.Ytfokaoeinpnagaa.Kc
open Go Go.RowKit Ev
theorem Ow : ZQ.ay.uP 5 = some (0,1,0):=rfl
theorem KD (q:ByteArray):(⟨#[]⟩:ByteArray) ++ ZQ.strings_Join.cat [q] ++ ⟨#[]⟩ = q:=by
 rw [ZQ.Jh,B.append_empty,B.empty_append]
theorem Xe {q:ByteArray} (h:B.jc q = true):ZQ.Xd (0,1,0) ⟨#[]⟩ [q] ⟨#[]⟩ :=
 ⟨rfl,rfl,fun x hx=>by rw [List.mem_singleton] at hx;rw [hx];exact h,rfl,by rw [KD];have:=ZQ.qm h;omega⟩
theorem agb {q:ByteArray} (h:B.jc q = true):ZQ.vX 5 q = true:=by
 have:=(ZQ.zB Ow (Xe h)).2
 rwa [KD] at this
theorem nm5 {q:ByteArray} (h:B.jc q = true):nm₀ 5 q = [q]:=by
 have:=ZQ.vR Ow (Xe h)
 rw [KD] at this
 unfold nm₀
 rw [this]
theorem lw5 {q:ByteArray} (h:B.jc q = true):ZQ.lw 5 q = B.jU q:=by
 have:=(ZQ.Ov Ow (Xe h)).1
 rw [KD,List.map_cons,List.map_nil,KD] at this
 exact this
theorem abX {q:ByteArray} {t c:Int} (h:wI.key q t c = true):B.jc q = true ∧ B.jU q = q:=by
 unfold Th.key at h
 rw [decide_eq_true_eq] at h
 obtain ⟨h1,h2, -⟩:=h
 refine ⟨h1,?_⟩
 have h3:Ot q = q:=h2
 unfold Ot at h3
 rwa [if_pos (show B.jc q = true from h1)] at h3
theorem abY {d w:ByteArray} (h:(nm₀ 5 d).head? = some w):w = d:=by
 cases hc:ZQ.vX 5 d with
 | false =>
  unfold nm₀ ZQ.prt at h
  rw [hc] at h
  cases h
 | true =>
  obtain ⟨a,l,b,ho,rfl⟩:=ZQ.KC Ow hc
  unfold nm₀ at h
  rw [ZQ.vR Ow ho] at h
  obtain ⟨h1,h2,h3,h4,h5⟩:=ho
  have ha:a = ⟨#[]⟩:=ByteArray.size_eq_zero_iff.mp (by simpa using h1)
  have hb:b = ⟨#[]⟩:=ByteArray.size_eq_zero_iff.mp (by simpa using h4)
  match l,h2,h with
  | [x],_,h=>subst ha;subst hb;cases h;exact (KD _).symm
theorem Xf : Gu wI nm₀ where
 set q t c hk hq:=by
  obtain ⟨h1,h2⟩:=abX hk
  unfold Th.set Th.key Th.dat
  simp only [decide_eq_true_eq]
  refine ⟨⟨by decide +kernel,by decide +kernel,by decide,by decide⟩,⟨fun x hx=>?_,by simp⟩,by decide,by simp⟩
  rw [List.mem_singleton] at hx
  subst hx
  exact ⟨agb h1,(lw5 h1).trans h2⟩
 tg q t c hk hq:=by rw [nm5 (abX hk).1];rfl
 c1 d _ h:=abY h
theorem Sl : MS wI nm₀ Fp:=by constructor <;> decide +kernel
end Go.Proofs.Ytfokaoeinpnagaa.Kc
namespace Go.Proofs.Ytfokaoeinpnagaa.Ev
open Go Go.RowKit
structure Old (w w':World):Prop where
 os:w'.os = w.os
 output:w'.output = w.output
 size:w.heap.size ≤ w'.heap.size
 block:∀ k,k < w.heap.size → w'.heap[k]? = w.heap[k]?
theorem Old.frame {W w':World} (h:Old W w') (may:MemPlace → Prop):W.keptBut w' may:=by
 refine ⟨h.os,h.output,fun i hi=>?_⟩
 rw [h.block i hi]
 split <;> simp_all
theorem Old.same {W w':World} (h:Old W w') {p:MemPlace} (hp:p.block < W.heap.size):W.sameAt w' p:=by
 cases p with
 | cell b o=>exact World.cell?_of_block (w:=W) (h.block b hp)
 | map b=>exact h.block b hp
theorem Old.trod {H:Type} {enc:TypeId × Value → H} {P:Program} {t:TypeId} (hl:laidOutB P = true) (hr:P.readableRec t = true) (hrow:t < P.types.size) {W W':World} {v:Value} {d:DataW H} {ps:List MemPlace}
  (h:DataW.Trod enc P W 0 (fun _=>true) true t v d ps) (hb:Old W W') (hlt:∀ x ∈ ps,x.block < W.heap.size):DataW.Trod enc P W' 0 (fun b=>decide (b < W.heap.size)) true t v d ps :=
 WideElems.Trod_stays hl hr hrow h (fun x hx=>hb.same (hlt x hx)) (fun x hx=>by simpa using hlt x hx)
theorem KE {P:Program} {Γ:Env} (l5:iN P Γ) {f:FuncId} {fK rY:List AV} {b:Bool} {vals:List Value} {W:World} (h:Γ f fK = some ([.one (.f (.bool b))],rY)) (ha:fP (fun k=>k < W.heap.size) W fK vals []) :
  Calls P f vals.toArray W fun e W'=>e = .returned (.bool b) ∧ Old W W':=by
 refine (l5 f fK _ _ h (fun k=>k < W.heap.size) W vals [] ha List.nodup_nil (by simp) (fun _ h=>h)).mono fun e w' ⟨bJ,uX,b1,b2,he,hp⟩=>?_
 refine ⟨?_,hp.kp.1,hp.kp.2,hp.big,fun k hk=>hp.ext k hk (by simp)⟩
 match uX,hp.rs with
 | [v],⟨c1,c2,h1,h2,h3⟩=>rw [he,show v = .bool b from h1.1];rfl
def Jo (P:Program) {α:Type} (T:TypeId) (f:α → List FV) (G:α → Prop):Prop :=
 ∀ {H:Type} (enc:TypeId × Value → H) (w:World) (spare:Nat → Bool) (held:Bool) (fuel:Nat) (cs:List Value) (x:DataW H × List MemPlace),
  DataW.trod enc P w 0 spare held fuel T cs = some x → (∀ n ∈ x.1.weights P T,n ≤ reachBytes) → ∃ a:α,bZ (fun k=>k < w.heap.size) w (f a) cs ∧ G a
section
variable {P : Program}
theorem uN {k:IntKind} {T:TypeId} (h:P.underlying T = some (.int k)):Jo P T (fun n=>[FV.int k n]) (fun n=>(Lit.int k n).wf = true):=by
 intro H enc w spare held fuel cs x hx _
 obtain ⟨n,rfl,rfl,hw⟩:=DataW.trod_int h hx
 exact ⟨n,⟨by simp only [fB],trivial⟩,hw⟩
theorem Jp {T:TypeId} (h:P.underlying T = some .string):Jo P T (fun s=>[FV.str s]) (fun s=>s.size ≤ 140737488351232):=by
 intro H enc w spare held fuel cs x hx hz
 obtain ⟨s,rfl,rfl,hw⟩:=DataW.trod_string h hx
 refine ⟨s,⟨by simp only [fB],trivial⟩,?_⟩
 have:=hz s.data.toList.length (by simp [DataW.weights])
 rw [Array.length_toList] at this
 exact this
theorem oz {H:Type} {e:TypeId}:∀ {ds:List (DataW H)} {i:Nat} {d:DataW H},ds[i]? = some d → ∀ n ∈ d.weights P e,n ∈ DataW.weightsAll P e ds
 | [],i,d,h,_,_=>by simp at h
 | d0 :: ds,0,d,h,n,hn=>by
  simp at h;subst h
  exact List.mem_append.mpr (.inl hn)
 | d0 :: ds,i + 1,d,h,n,hn=>by
  simp at h
  exact List.mem_append.mpr (.inr (oz h n hn))
theorem wJ {H:Type} {ts:List TypeId} {ds:List (DataW H)} (h:(DataW.weightsEach P ts ds).all (· ≤ reachBytes) = true) {j:Nat} {t:TypeId} {d:DataW H} (ht:ts[j]? = some t) (hd:ds[j]? = some d) :
  ∀ n ∈ d.weights P t,n ≤ reachBytes:=fun n hn=>by
 have:=List.all_eq_true.1 h n (DataW.weights_mem_each ht hd n hn)
 simpa using this
theorem uO {α:Type} {Q:Nat → α → Prop}:∀ n,(∀ i,i < n → ∃ y,Q i y) → ∃ ys:List α,ys.length = n ∧ ∀ i y,ys[i]? = some y → Q i y
 | 0,_=>⟨[],rfl,by simp⟩
 | n + 1,h=>by
  obtain ⟨ys,hl,hq⟩:=uO n (fun i hi=>h i (by omega))
  obtain ⟨y,hy⟩:=h n (by omega)
  refine ⟨ys ++ [y],by simp [hl],fun i z hz=>?_⟩
  by_cases hi:i < n
  ·rw [List.getElem?_append_left (by omega)] at hz
   exact hq i z hz
  ·have hlt:=(List.getElem?_eq_some_iff.1 hz).1
   simp only [List.length_append,List.length_singleton] at hlt
   obtain rfl:i = n:=by omega
   rw [List.getElem?_append_right (by omega),hl,Nat.sub_self] at hz
   simp at hz
   subst hz
   exact hy
theorem Bp {Fz:Nat → Prop} {w:World} {b:Nat}:∀ (xs:List FV) (cs:List Value) (o:Nat),bZ Fz w xs cs → (∀ i u,cs[i]? = some u → w.cell? ⟨b,o + i,none⟩ = some u) → dW Fz w b o xs
 | [],_,_,_,_=>by simp only [dW]
 | x :: xs,[],_,h,_=>h.elim
 | x :: xs,c :: cs,o,h,hc=>by
  simp only [dW]
  exact ⟨⟨c,hc 0 c rfl,h.1⟩,Bp xs cs (o + 1) h.2 fun i u hi=>by rw [show o + 1 + i = o + (i + 1) from by omega];exact hc (i + 1) u hi⟩
theorem zC {Fz:Nat → Prop} {w:World} {sz b:Nat} {α:Type} {f:α → List FV} (hf:∀ a,(f a).length = sz):∀ (l:List α) (o:Nat),(∀ i y,l[i]? = some y → dW Fz w b (o + i * sz) (f y)) → cZ Fz w sz b o (l.map f)
 | [],_,_=>by simp only [List.map_nil,cZ]
 | y :: l,o,h=>by
  simp only [List.map_cons,cZ]
  refine ⟨hf y,by simpa using h 0 y rfl,zC hf l (o + sz) fun i z hz=>?_⟩
  rw [show o + sz + i * sz = o + (i + 1) * sz from by rw [Nat.add_mul];omega]
  exact h (i + 1) z hz
theorem KF (a:Addr) (x y:Nat):(a.add x).add y = a.add (x + y):=by
 unfold Addr.add
 by_cases hx:x = 0
 ·subst hx;simp
 ·by_cases hy:y = 0
  ·subst hy;simp [hx]
  ·simp [hx,hy,Nat.add_assoc]
theorem zD {w:World} {a:Addr} {u:Value} (h:w.cell? a = some u):a = ⟨a.block,a.off,none⟩ ∧ a.block < w.heap.size:=by
 unfold World.cell? at h
 split at h
 ·rename_i c _ _ hb
  split at h
  ·cases h
  ·rename_i hs
   obtain ⟨b,o,s⟩:=a
   cases s with
   | none=>exact ⟨rfl,by have:=(Array.getElem?_eq_some_iff.mp hb).1;exact this⟩
   | some s=>simp at hs
 ·cases h
theorem Bq {α:Type} {f:α → List FV} {T e:TypeId} {G:α → Prop} (sz:Nat) (h:P.underlying T = some (.slice e)) (hc:P.cellsOf e = sz) (h0:0 < sz) (hf:∀ a,(f a).length = sz) (hby:decide (1 ≤ P.bytesOf e) = true) (hd:Jo P e f G) :
  Jo P T (fun l:List α=>[FV.sl (l.map f)]) (fun l=>l.length ≤ 140737488351232 ∧ ∀ x ∈ l,G x):=by
 intro H enc w spare held fuel cs x hx hz
 rcases DataW.trod_slice h hx with ⟨rfl,rfl⟩ | ⟨a,len,cap,elems,rest,n,_,rfl,rfl,hb,hl,hm,hlen,hel,_,_⟩
 ·refine ⟨[],⟨?_,trivial⟩,by simp⟩
  simp only [fB]
  exact ⟨none,0,rfl,Nat.le_refl _,by simp,.inl rfl⟩
 ·have hw:∀ m ∈ (elems.length + rest.length) * P.bytesOf e :: (DataW.weightsAll P e (elems.map (·.1)) ++ DataW.weightsAll P e (rest.map (·.1))),m ≤ reachBytes:=by
   intro m hm'
   refine hz m ?_
   simp only [DataW.weights,h,List.length_map]
   exact hm'
  obtain ⟨ys,hyl,hys⟩:=uO (α:=α) (Q:=fun i y=>∃ c,w.cells? 0 (a.add (i * P.cellsOf e)) (P.cellsOf e) = some c ∧ bZ (fun k=>k < w.heap.size) w (f y) c ∧ G y) len (fun i hi=>by
   have h1:=hel i hi
   rw [List.getElem?_eq_getElem (by omega),Option.bind_eq_some_iff] at h1
   obtain ⟨c,hc1,hc2⟩:=h1
   obtain ⟨y,hy,hg⟩:=hd enc w spare held n c _ hc2 (fun m hm'=>by
    refine hw m (List.mem_cons_of_mem _ (List.mem_append.mpr (.inl ?_)))
    exact oz (i:=i) (d:=(elems[i]'(by omega)).1) (by rw [List.getElem?_map,List.getElem?_eq_getElem (by omega)];rfl) m hm')
   exact ⟨y,c,hc1,hy,hg⟩)
  have hlen1:(elems.length + rest.length) * P.bytesOf e ≤ reachBytes:=hw _ (by simp)
  have hlm:cap ≤ 9223372036854775807:=by unfold maxLen at hm;omega
  refine ⟨ys,⟨?_,trivial⟩,?_,?_⟩
  ·simp only [fB,List.length_map]
   refine ⟨some a,cap,by rw [hyl],by omega,by omega,?_⟩
   cases hy0:ys with
   | nil=>exact .inl rfl
   | cons y0 ys0 =>
    right
    obtain ⟨c0,k0,_,_⟩:=hys 0 y0 (by rw [hy0];rfl)
    rw [hc] at k0
    obtain ⟨_,kl,kc⟩:=World.cells?_some k0
    have k1:=kc 0 h0
    rw [List.getElem?_eq_getElem (by omega)] at k1
    obtain ⟨ea,eb⟩:=zD k1
    have ea0:(a.add (0 * sz)).add 0 = a:=by simp [Addr.add]
    rw [ea0] at ea eb
    refine ⟨a.block,a.off,sz,congrArg some ea,eb,?_⟩
    rw [← hy0]
    refine zC hf ys a.off fun i y hi=>?_
    obtain ⟨c,hc1,hk,_⟩:=hys i y hi
    rw [hc] at hc1
    obtain ⟨_,hcl,hcc⟩:=World.cells?_some hc1
    refine Bp _ c _ hk fun j u hj=>?_
    have hj':j < sz:=by have:=(List.getElem?_eq_some_iff.1 hj).1;omega
    have:=hcc j hj'
    rw [KF,hj] at this
    obtain ⟨e1,_⟩:=zD this
    rw [e1] at this
    have e2:a.add (i * sz + j) = ⟨a.block,a.off + i * sz + j,none⟩:=by
     rw [ea];unfold Addr.add;split
     ·rename_i hz;congr 1;simp only;omega
     ·congr 1;simp only;omega
    rw [e2] at this
    exact this
  ·rw [hyl,← hlen]
   have h1:elems.length * P.bytesOf e ≤ (elems.length + rest.length) * P.bytesOf e:=Nat.mul_le_mul_right _ (by omega)
   have h2:reachBytes = 140737488351232:=rfl
   have h3:elems.length * 1 ≤ elems.length * P.bytesOf e:=Nat.mul_le_mul_left _ (of_decide_eq_true hby)
   omega
  ·intro y hy
   obtain ⟨i,hi,rfl⟩:=List.mem_iff_getElem.1 hy
   obtain ⟨_,_,_,hg⟩:=hys i _ (List.getElem?_eq_getElem hi)
   exact hg
def Sm (P:Program) {α:Type} (sz:Nat) (f:α → List FV) (fs:List (TypeId × Nat)) (off:Nat) (G:α → Prop):Prop :=
 ∀ {H:Type} (enc:TypeId × Value → H) (w:World) (spare:Nat → Bool) (held:Bool) (n:Nat) (cs:List Value) (xs:List (DataW H × List MemPlace)),
  (∀ (i:Nat) (f:TypeId × Nat),fs[i]? = some f → DataW.trod enc P w 0 spare held n f.1 ((cs.drop f.2).take (P.cellsOf f.1)) = xs[i]?) → xs.length = fs.length →
  (∀ (i:Nat) (x:DataW H × List MemPlace) (f:TypeId × Nat),xs[i]? = some x → fs[i]? = some f → ∀ m ∈ x.1.weights P f.1,m ≤ reachBytes) → cs.length = off + sz → ∃ a,bZ (fun k=>k < w.heap.size) w (f a) (cs.drop off) ∧ G a
theorem vS {α:Type} {sz:Nat} {f:α → List FV} {t:TypeId} {off:Nat} {G:α → Prop} (hd:Jo P t f G) (hc:P.cellsOf t = sz):Sm P sz f [(t,off)] off G:=by
 intro H enc w spare held n cs xs hf hl hw hn
 match xs,hl with
 | [y],_ =>
  have h1:=hf 0 _ rfl
  have h2:(cs.drop off).take (P.cellsOf t) = cs.drop off:=List.take_of_length_le (by rw [List.length_drop];omega)
  rw [h2] at h1
  exact hd enc w spare held n _ y h1 (hw 0 y _ rfl rfl)
theorem Bt {Fz:Nat → Prop} {w:World}:∀ {xs ys:List FV} {cs ds:List Value},bZ Fz w xs cs → bZ Fz w ys ds → bZ Fz w (xs ++ ys) (cs ++ ds)
 | [],_,[],_,_,h=>h
 | [],_,_ :: _,_,h,_=>h.elim
 | _ :: _,_,[],_,h,_=>h.elim
 | x :: xs,ys,c :: cs,ds,h,k=>⟨h.1,Bt h.2 k⟩
theorem kZ {α β:Type} {sz sz':Nat} {f:α → List FV} {g:β → List FV} {t:TypeId} {fs:List (TypeId × Nat)} {off:Nat} {G:α → Prop} {G':β → Prop} (hd:Jo P t f G) (hc:P.cellsOf t = sz)
  (hr:Sm P sz' g fs (off + sz) G'):Sm P (sz + sz') (fun p:α × β=>f p.1 ++ g p.2) ((t,off) :: fs) off (fun p=>G p.1 ∧ G' p.2):=by
 intro H enc w spare held n cs xs hf hl hw hn
 match xs,hl with
 | y :: ys,hl =>
  have h1:=hf 0 _ rfl
  obtain ⟨a,ha,ga⟩:=hd enc w spare held n _ y h1 (hw 0 y _ rfl rfl)
  obtain ⟨b,hb,gb⟩:=hr enc w spare held n cs ys (fun i f hi=>hf (i + 1) f hi) (by simpa using hl) (fun i x f hx hfi=>hw (i + 1) x f hx hfi) (by omega)
  refine ⟨(a,b),?_,ga,gb⟩
  have e:cs.drop off = (cs.drop off).take (P.cellsOf t) ++ cs.drop (off + sz):=by rw [← List.drop_drop,hc,List.take_append_drop]
  rw [e]
  exact Bt ha hb
theorem sD {α:Type} {sz:Nat} {f:α → List FV} {T:TypeId} {fs:Array Field} {G:α → Prop} (h:P.underlying T = some (.struct fs)) (hc:P.cellsOf T = sz)
  (hd:Sm P sz f (fs.toList.map fun f=>(f.type,f.offset)) 0 G):Jo P T f G:=by
 intro H enc w spare held fuel cs x hx hz
 obtain ⟨xs,n,_,rfl,hl,hlen,hf⟩:=DataW.trod_struct h hx
 have hd':=hd enc w spare held n cs xs ?_ (by rw [List.length_map,Array.length_toList];exact hlen) ?_ (by rw [Nat.zero_add,← hc];exact hl)
 ·obtain ⟨a,ha,ga⟩:=hd'
  exact ⟨a,by simpa using ha,ga⟩
 ·intro i f hi
  rw [List.getElem?_map,Option.map_eq_some_iff] at hi
  obtain ⟨f',hf',rfl⟩:=hi
  exact hf i f' (by rw [← Array.getElem?_toList];exact hf')
 ·intro i x f hxi hfi m hm
  refine hz m ?_
  simp only [DataW.weights,h]
  refine DataW.weights_mem_each (j:=i) (t:=f.1) (d:=x.1) ?_ ?_ m hm
  ·rw [List.getElem?_map] at hfi ⊢
   rw [Option.map_eq_some_iff] at hfi ⊢
   obtain ⟨f',hf',rfl⟩:=hfi
   exact ⟨f',hf',rfl⟩
  ·rw [List.getElem?_map,hxi];rfl
theorem xI {α β:Type} {T:TypeId} {f:α → List FV} {f':β → List FV} {G:α → Prop} {G':β → Prop} (g:α → β) (hg:∀ a,f' (g a) = f a) (hG:∀ a,G a → G' (g a)) (hd:Jo P T f G):Jo P T f' G':=by
 intro H enc w spare held fuel cs x hx hz
 obtain ⟨a,ha,ga⟩:=hd enc w spare held fuel cs x hx hz
 exact ⟨g a,by rw [hg];exact ha,hG a ga⟩
theorem zF {w:World} {r:Reach} {base:Nat} {t:TypeId} {fs:Array Field} {v:Value} (ht:P.underlying t = some (.struct fs)) (h:Value.okWide P w r base t v):∃ cs,v = .agg cs:=by
 simp only [Value.okWide,ht] at h
 obtain ⟨cs,h1,_⟩:=h
 exact ⟨cs,h1⟩
theorem Fw {Fz:Nat → Prop} {w:World}:∀ {xs:List FV} {cs:List Value},bZ Fz w xs cs → lT Fz w (xs.map .f) cs []
 | [],[],_=>rfl
 | [],_ :: _,h=>h.elim
 | _ :: _,[],h=>h.elim
 | x :: xs,c :: cs,h=>⟨[],[],⟨h.1,rfl⟩,Fw h.2,rfl⟩
theorem Ox {Fz:Nat → Prop} {w:World} {xs:List FV} {cs:Array Value} (h:bZ Fz w xs cs.toList):pR Fz w (.agg (xs.map .f)) (.agg cs) []:=⟨cs,rfl,Fw h⟩
theorem Fx {Fz:Nat → Prop} {w:World} {x:FV} {v:Value} (h:fB Fz w x v):pR Fz w (.one (.f x)) v []:=⟨h,rfl⟩
theorem sF {Fz:Nat → Prop} {w:World} {x:AV} {v:Value} {xs:List AV} {vs:List Value} (h:pR Fz w x v []) (k:fP Fz w xs vs []):fP Fz w (x :: xs) (v :: vs) []:=⟨[],[],h,k,rfl⟩
theorem KG {Fz:Nat → Prop} {w:World}:fP Fz w [] [] []:=rfl
end
end Go.Proofs.Ytfokaoeinpnagaa.Ev
set_option maxRecDepth 100000
namespace Go.Proofs.Ytfokaoeinpnagaa.Kc
open Go Ev
theorem opQ : Jo Try.prog 24 rQ (fun _=>True) :=
 xI (fun p:ByteArray × Int × Int=>⟨p.1,p.2.1,p.2.2⟩) (by exact fun _=>rfl) (by exact fun _ _=>trivial) (sD Try.underlying24 (by kernel_rfl) (kZ (sz:=1) (sz':=2) (Jp Try.underlying9) (by kernel_rfl) (kZ (sz:=1) (sz':=1) (uN Try.underlying3) (by kernel_rfl) (vS (uN Try.underlying3) (by kernel_rfl)))))
theorem opD : Jo Try.prog 25 (fun d:List ByteArray=>[.sl (d.map fD)]) (fun d=>d.length ≤ 140737488351232) :=
 xI (fun d:List ByteArray=>d) (by exact fun _=>rfl) (by exact fun _ h=>h.1) (Bq 1 Try.underlying25 (by kernel_rfl) (by decide) (fun _=>rfl) (by kernel_rfl) (Jp Try.underlying9))
theorem opS : Jo Try.prog 27 rS (fun x=>x.d.length ≤ 140737488351232) :=
 xI (fun p:Qn × List ByteArray × Int=>⟨p.1.q,p.1.t,p.1.c,p.2.1,p.2.2⟩) (by exact fun _=>rfl) (by exact fun _ h=>h.2.1) (sD Try.underlying27 (by kernel_rfl) (kZ (sz:=3) (sz':=2) opQ (by kernel_rfl) (kZ (sz:=1) (sz':=1) opD (by kernel_rfl) (vS (uN Try.underlying3) (by kernel_rfl)))))
theorem opP : Jo Try.prog 51 rP (fun x=>x.s.d.length ≤ 140737488351232) :=
 xI (fun p:Int × Se × Int × Qn=>⟨p.1,p.2.1,p.2.2.1,p.2.2.2⟩) (by exact fun _=>rfl) (by exact fun _ h=>h.2.1) (sD Try.underlying51 (by kernel_rfl) (kZ (sz:=1) (sz':=9) (uN Try.underlying3) (by kernel_rfl) (kZ (sz:=5) (sz':=4) opS (by kernel_rfl) (kZ (sz:=1) (sz':=3) (uN Try.underlying3) (by kernel_rfl) (vS opQ (by kernel_rfl))))))
theorem agc : Jo Try.prog 47 (fun l:List Pt=>[.sl (l.map rP)]) (fun l=>l.length ≤ 140737488351232 ∧ ∀ x ∈ l,x.s.d.length ≤ 140737488351232) :=
 Bq 10 Try.underlying47 (by kernel_rfl) (by decide) (fun _=>rfl) (by kernel_rfl) opP
end Go.Proofs.Ytfokaoeinpnagaa.Kc

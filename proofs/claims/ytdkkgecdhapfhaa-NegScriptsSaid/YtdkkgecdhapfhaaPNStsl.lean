/- A part of the proof of NegScripts: cut, joined and given short names by a program of this session (wip/tools/pack.py); Lean checks it. No condition. -/
import Derived.Test.YtdkkgecdhapfhaaPNStsi
import Derived.Test.YtdkkgecdhapfhaaPNStsk
import Derived.Test.YtdkkgecdhapfhaaPNStsj
import Derived.Test.YtdkkgecdhapfhaaPNStsh
import Derived.Test.YtdkkgecdhapfhaaPNStse
import Derived.ProofKit
import Derived.OpenShut
import Derived.SizedLaws
import Derived.ChangeArms
import Derived.ChangeSlices
import Derived.Carry
import Derived.KernelRfl
import Derived.Test.YtdkkgecdhapfhaaPNStsd
set_option linter.unusedSectionVars false
set_option linter.unusedSimpArgs false
set_option linter.unusedVariables false
namespace Go.Proofs.Ytdkkgecdhapfhaa.ZQ
open Go.RowKit Go.Proofs.YtdkkgecdhapfhaaW.bD Go.Proofs.YtdkkgecdhapfhaaW.dM Go.Proofs.YtdkkgecdhapfhaaW.eP
attribute [local go_sem] jv jw kG kH iH iI jy jA
attribute [local go_sem high] WX
def aH.j0 : Nat → Int → Bool → Option (Int × Int × Int)
 | 0,_,_=>none
 | k + 1,x3,x4=>if x4 = true then (some (0,1,0)) else (if x3 = 6 then (some (0,2,20)) else (if x3 = 15 then (some (2,1,0)) else (if x3 = 33 then (some (6,1,0)) else (if x3 = 1 then (some (4,0,0)) else (if x3 = 28 then (some (16,0,0)) else (some (0,0,0)))))))
def aH.f (k:Nat) (a0:Int):Option (Int × Int × Int):=if a0 = 2 then (aH.j0 k a0 (a0 == 2)) else (if a0 = 5 then (aH.j0 k a0 (a0 == 5)) else (aH.j0 k a0 (a0 == 12)))
set_option maxHeartbeats 8000000 in
set_option maxRecDepth 100000 in
theorem aH.calls (k:Nat) (a0:Int) (r1:Int) (r2:Int) (r3:Int) (w:World) (h:aH.f k a0 = some (r1,r2,r3)) :
  Calls Try.prog 106 #[.int .i64 a0] w fun e w'=>e = .returned (.agg #[.int .i64 r1,.int .i64 r2,.int .i64 r3]) ∧ Below w.heap.size w w':=by
 have OB:=Try.underlying142
 have HB:=aj.mk (Below.refl w.heap.size w)
 have H:(if a0 = 2 then (aH.j0 k a0 (a0 == 2)) else (if a0 = 5 then (aH.j0 k a0 (a0 == 5)) else (aH.j0 k a0 (a0 == 12)))) = some (r1,r2,r3):=h
 clear h
 have WG:=aj.mk H
 clear H
 go_enter Try.func106,Try.ntmps106
 go_upto_if 4 with (first | ((with_reducible refine gK (N:=2) rfl ?_);refine fV ?hg (N:=2) ?hd (cs:=#[.int .i64 0,.int .i64 0,.int .i64 0]) (t:=142) ?hr ?_;(case hd=>rfl);(case hg=>rfl);(case hr=>first | (go_simp;done) | (go_simp;rfl));intro gY hg w3 gX hb;have d9:=aj.mk (bE (by repeat (first | (with_reducible first | exact HB.out | apply ak | apply ah | apply au) | exact HB.out)) hb);have ig:=aj.mk (gX);have jh:=aj.mk ((by rw [hg];exact (bL (by repeat (first | (with_reducible first | exact HB.out | apply ak | apply ah | apply au) | exact HB.out))):w.heap.size ≤ gY));have jL:=aj.mk ((by rw [hg];exact (bL (by repeat (first | (with_reducible first | exact HB.out | apply ak | apply ah | apply au) | exact HB.out))):w.heap.size ≤ gY));clear HB;have HB:=d9;have dW:=ig;have ahW:=jh;have rM:=jL;clear d9 ig jh jL;clear hb gX hg))
 (try simp only [Act.put,List.setIfInBounds_toArray,List.set_cons_zero,List.set_cons_succ])
 go_cut [4] (fun v4 wc=>∃ (kq:Nat) (qU:Bool),v4 = .bool qU ∧ aj (aH.j0 kq a0 qU = some (r1,r2,r3)) ∧ aj (kq ≤ k) ∧ aj (wc.heap[gY]? = some (.cells #[.int .i64 0,.int .i64 0,.int .i64 0] 142 (0,0))) ∧ aj (Below w.heap.size w wc))
 case first =>
  have H:=WG.out
  clear WG
  by_cases c4:a0 = 2
  ·rw [if_pos c4] at H
   have qW:(a0 == 2) = true:=beq_iff_eq.mpr c4
   have KJ:(a0 != 2) = false:=bne_eq_false_iff_eq.mpr c4
   clear c4
   (first | rw [qW] | rw [Oc] | (simp only [gT,iC];rw [qW]) | skip)
   have H':=aj.mk H
   clear H
   go_wp2
   go_meet
   case rel=>exact ⟨_,((a0 == 2)),(by first | rfl | (simp;done) | (simp [*];done) | (simp [B.aV];done) | (simp [B.aW];done)),H',⟨by first | omega | exact Nat.le_refl _⟩,⟨by (with_reducible repeat (first | refine aG ?_ _ | refine aI ?_ | refine aA ?_ _));exact dW.out⟩,⟨by repeat (first | (with_reducible first | exact HB.out | apply ak | apply ah | apply au | refine aR ?_ rM.out) | exact HB.out)⟩⟩
  ·rw [if_neg c4] at H
   have qW:(a0 == 2) = false:=beq_eq_false_iff_ne.mpr c4
   have KJ:(a0 != 2) = true:=bne_iff_ne.mpr c4
   (first | rw [qW] | rw [Oc] | (simp only [gT,iC];rw [qW]) | skip)
   by_cases c5:a0 = 5
   ·rw [if_pos c5] at H
    have qc:(a0 == 5) = true:=beq_iff_eq.mpr c5
    have vT:(a0 != 5) = false:=bne_eq_false_iff_eq.mpr c5
    clear c5
    have H':=aj.mk H
    clear H
    go_wp2
    go_meet
    case rel=>exact ⟨_,((a0 == 5)),(by first | rfl | (simp;done) | (simp [*];done) | (simp [B.aV];done) | (simp [B.aW];done)),H',⟨by first | omega | exact Nat.le_refl _⟩,⟨by (with_reducible repeat (first | refine aG ?_ _ | refine aI ?_ | refine aA ?_ _));exact dW.out⟩,⟨by repeat (first | (with_reducible first | exact HB.out | apply ak | apply ah | apply au | refine aR ?_ rM.out) | exact HB.out)⟩⟩
   ·rw [if_neg c5] at H
    have qc:(a0 == 5) = false:=beq_eq_false_iff_ne.mpr c5
    have vT:(a0 != 5) = true:=bne_iff_ne.mpr c5
    have H':=aj.mk H
    clear H
    go_wp2
    go_meet
    case rel=>exact ⟨_,((a0 == 12)),(by first | rfl | (simp;done) | (simp [*];done) | (simp [B.aV];done) | (simp [B.aW];done)),H',⟨by first | omega | exact Nat.le_refl _⟩,⟨by (with_reducible repeat (first | refine aG ?_ _ | refine aI ?_ | refine aA ?_ _));exact dW.out⟩,⟨by repeat (first | (with_reducible first | exact HB.out | apply ak | apply ah | apply au | refine aR ?_ rM.out) | exact HB.out)⟩⟩
 case rest =>
  clear WG
  try clear c1
  try clear p2
  try clear c4
  try clear qW
  try clear KJ
  try clear Oc
  try clear c5
  try clear qc
  try clear vT
  obtain ⟨kq,qU,rfl,HA,HJ1,dW,HB⟩:=hcut
  cases kq with
  | zero=>exact absurd HA.out (by simp [aH.j0])
  | succ kj1 =>
   have H:=HA.out
   clear HA
   simp only [aH.j0] at H
   by_cases c6:qU = true
   ·subst c6
    have H1:(some (0,1,0)) = some (r1,r2,r3):=by rw [if_pos rfl] at H;exact H
    clear H
    have H:=H1
    clear H1
    simp only [Option.some.injEq,Prod.mk.injEq] at H
    obtain ⟨rfl,rfl,rfl⟩:=H
    have af3:wc.cell? ⟨gY,0,none⟩ = some (.int .i64 0):=(aM dW.out 0).trans rfl
    have af4:wc.cell? ⟨gY,1,none⟩ = some (.int .i64 0):=(aM dW.out 1).trans rfl
    have af5:wc.cell? ⟨gY,2,none⟩ = some (.int .i64 0):=(aM dW.out 2).trans rfl
    have af6:=ay dW.out 0
    have af7:=ay dW.out 1
    have af8:=ay dW.out 2
    go_wp2
    refine bodyPost_ret (results_cell_row rfl _ _ gY 142 #[.int .i64 0,.int .i64 1,.int .i64 0] (0,0) _ rfl (by (with_reducible repeat (first | refine aG ?_ _ | refine aI ?_ | refine aA ?_ _));refine bV (cs:=#[.int .i64 0,.int .i64 1,.int .i64 0]) ?_ 2 _ rfl;(with_reducible repeat (first | refine aG ?_ _ | refine aI ?_ | refine aA ?_ _));refine bV (cs:=#[.int .i64 0,.int .i64 0,.int .i64 0]) ?_ 1 _ rfl;(with_reducible repeat (first | refine aG ?_ _ | refine aI ?_ | refine aA ?_ _));refine bV (cs:=#[.int .i64 0,.int .i64 0,.int .i64 0]) ?_ 0 _ rfl;(with_reducible repeat (first | refine aG ?_ _ | refine aI ?_ | refine aA ?_ _));exact dW.out) Try.underlying142 rfl (by kernel_rfl)) rfl ?_
    exact ⟨by first | rfl | (simp [aJ,aK] <;> rfl) | (simp [*,aJ,aK] <;> rfl),by repeat (first | (with_reducible first | exact HB.out | apply ak | apply ah | apply au | refine aR ?_ rM.out) | exact HB.out)⟩
   ·replace c6:=Bool.eq_false_iff.mpr c6
    subst c6
    have H1:(if a0 = 6 then (some (0,2,20)) else (if a0 = 15 then (some (2,1,0)) else (if a0 = 33 then (some (6,1,0)) else (if a0 = 1 then (some (4,0,0)) else (if a0 = 28 then (some (16,0,0)) else (some (0,0,0))))))) = some (r1,r2,r3):=by rw [if_neg (show ¬ (false = true) by decide)] at H;exact H
    clear H
    have H:=H1
    clear H1
    by_cases c8:a0 = 6
    ·rw [if_pos c8] at H
     have su:(a0 == 6) = true:=beq_iff_eq.mpr c8
     have sw:(a0 != 6) = false:=bne_eq_false_iff_eq.mpr c8
     clear c8
     simp only [Option.some.injEq,Prod.mk.injEq] at H
     obtain ⟨rfl,rfl,rfl⟩:=H
     have OC:wc.cell? ⟨gY,0,none⟩ = some (.int .i64 0):=(aM dW.out 0).trans rfl
     have OD:wc.cell? ⟨gY,1,none⟩ = some (.int .i64 0):=(aM dW.out 1).trans rfl
     have OE:wc.cell? ⟨gY,2,none⟩ = some (.int .i64 0):=(aM dW.out 2).trans rfl
     have OG:=ay dW.out 0
     have OH:=ay dW.out 1
     have OI:=ay dW.out 2
     go_wp2
     refine bodyPost_ret (results_cell_row rfl _ _ gY 142 #[.int .i64 0,.int .i64 2,.int .i64 20] (0,0) _ rfl (by (with_reducible repeat (first | refine aG ?_ _ | refine aI ?_ | refine aA ?_ _));refine bV (cs:=#[.int .i64 0,.int .i64 2,.int .i64 0]) ?_ 2 _ rfl;(with_reducible repeat (first | refine aG ?_ _ | refine aI ?_ | refine aA ?_ _));refine bV (cs:=#[.int .i64 0,.int .i64 0,.int .i64 0]) ?_ 1 _ rfl;(with_reducible repeat (first | refine aG ?_ _ | refine aI ?_ | refine aA ?_ _));refine bV (cs:=#[.int .i64 0,.int .i64 0,.int .i64 0]) ?_ 0 _ rfl;(with_reducible repeat (first | refine aG ?_ _ | refine aI ?_ | refine aA ?_ _));exact dW.out) Try.underlying142 rfl (by kernel_rfl)) rfl ?_
     exact ⟨by first | rfl | (simp [aJ,aK] <;> rfl) | (simp [*,aJ,aK] <;> rfl),by repeat (first | (with_reducible first | exact HB.out | apply ak | apply ah | apply au | refine aR ?_ rM.out) | exact HB.out)⟩
    ·rw [if_neg c8] at H
     have su:(a0 == 6) = false:=beq_eq_false_iff_ne.mpr c8
     have sw:(a0 != 6) = true:=bne_iff_ne.mpr c8
     by_cases c10:a0 = 15
     ·rw [if_pos c10] at H
      have rJ:(a0 == 15) = true:=beq_iff_eq.mpr c10
      have Bz:(a0 != 15) = false:=bne_eq_false_iff_eq.mpr c10
      clear c10
      simp only [Option.some.injEq,Prod.mk.injEq] at H
      obtain ⟨rfl,rfl,rfl⟩:=H
      have adW:wc.cell? ⟨gY,0,none⟩ = some (.int .i64 0):=(aM dW.out 0).trans rfl
      have adX:wc.cell? ⟨gY,1,none⟩ = some (.int .i64 0):=(aM dW.out 1).trans rfl
      have adY:wc.cell? ⟨gY,2,none⟩ = some (.int .i64 0):=(aM dW.out 2).trans rfl
      have adZ:=ay dW.out 0
      have ad1:=ay dW.out 1
      have ad2:=ay dW.out 2
      go_wp2
      refine bodyPost_ret (results_cell_row rfl _ _ gY 142 #[.int .i64 2,.int .i64 1,.int .i64 0] (0,0) _ rfl (by (with_reducible repeat (first | refine aG ?_ _ | refine aI ?_ | refine aA ?_ _));refine bV (cs:=#[.int .i64 2,.int .i64 1,.int .i64 0]) ?_ 2 _ rfl;(with_reducible repeat (first | refine aG ?_ _ | refine aI ?_ | refine aA ?_ _));refine bV (cs:=#[.int .i64 2,.int .i64 0,.int .i64 0]) ?_ 1 _ rfl;(with_reducible repeat (first | refine aG ?_ _ | refine aI ?_ | refine aA ?_ _));refine bV (cs:=#[.int .i64 0,.int .i64 0,.int .i64 0]) ?_ 0 _ rfl;(with_reducible repeat (first | refine aG ?_ _ | refine aI ?_ | refine aA ?_ _));exact dW.out) Try.underlying142 rfl (by kernel_rfl)) rfl ?_
      exact ⟨by first | rfl | (simp [aJ,aK] <;> rfl) | (simp [*,aJ,aK] <;> rfl),by repeat (first | (with_reducible first | exact HB.out | apply ak | apply ah | apply au | refine aR ?_ rM.out) | exact HB.out)⟩
     ·rw [if_neg c10] at H
      have rJ:(a0 == 15) = false:=beq_eq_false_iff_ne.mpr c10
      have Bz:(a0 != 15) = true:=bne_iff_ne.mpr c10
      by_cases c12:a0 = 33
      ·rw [if_pos c12] at H
       have uO:(a0 == 33) = true:=beq_iff_eq.mpr c12
       have uP:(a0 != 33) = false:=bne_eq_false_iff_eq.mpr c12
       clear c12
       simp only [Option.some.injEq,Prod.mk.injEq] at H
       obtain ⟨rfl,rfl,rfl⟩:=H
       have Du:wc.cell? ⟨gY,0,none⟩ = some (.int .i64 0):=(aM dW.out 0).trans rfl
       have Dv:wc.cell? ⟨gY,1,none⟩ = some (.int .i64 0):=(aM dW.out 1).trans rfl
       have Dw:wc.cell? ⟨gY,2,none⟩ = some (.int .i64 0):=(aM dW.out 2).trans rfl
       have Dx:=ay dW.out 0
       have Dy:=ay dW.out 1
       have Dz:=ay dW.out 2
       go_wp2
       refine bodyPost_ret (results_cell_row rfl _ _ gY 142 #[.int .i64 6,.int .i64 1,.int .i64 0] (0,0) _ rfl (by (with_reducible repeat (first | refine aG ?_ _ | refine aI ?_ | refine aA ?_ _));refine bV (cs:=#[.int .i64 6,.int .i64 1,.int .i64 0]) ?_ 2 _ rfl;(with_reducible repeat (first | refine aG ?_ _ | refine aI ?_ | refine aA ?_ _));refine bV (cs:=#[.int .i64 6,.int .i64 0,.int .i64 0]) ?_ 1 _ rfl;(with_reducible repeat (first | refine aG ?_ _ | refine aI ?_ | refine aA ?_ _));refine bV (cs:=#[.int .i64 0,.int .i64 0,.int .i64 0]) ?_ 0 _ rfl;(with_reducible repeat (first | refine aG ?_ _ | refine aI ?_ | refine aA ?_ _));exact dW.out) Try.underlying142 rfl (by kernel_rfl)) rfl ?_
       exact ⟨by first | rfl | (simp [aJ,aK] <;> rfl) | (simp [*,aJ,aK] <;> rfl),by repeat (first | (with_reducible first | exact HB.out | apply ak | apply ah | apply au | refine aR ?_ rM.out) | exact HB.out)⟩
      ·rw [if_neg c12] at H
       have uO:(a0 == 33) = false:=beq_eq_false_iff_ne.mpr c12
       have uP:(a0 != 33) = true:=bne_iff_ne.mpr c12
       by_cases c14:a0 = 1
       ·rw [if_pos c14] at H
        have BA:(a0 == 1) = true:=beq_iff_eq.mpr c14
        have Ug:(a0 != 1) = false:=bne_eq_false_iff_eq.mpr c14
        clear c14
        simp only [Option.some.injEq,Prod.mk.injEq] at H
        obtain ⟨rfl,rfl,rfl⟩:=H
        have DC:wc.cell? ⟨gY,0,none⟩ = some (.int .i64 0):=(aM dW.out 0).trans rfl
        have DF:wc.cell? ⟨gY,1,none⟩ = some (.int .i64 0):=(aM dW.out 1).trans rfl
        have DI:wc.cell? ⟨gY,2,none⟩ = some (.int .i64 0):=(aM dW.out 2).trans rfl
        have DJ:=ay dW.out 0
        have DK:=ay dW.out 1
        have DL:=ay dW.out 2
        go_wp2
        refine bodyPost_ret (results_cell_row rfl _ _ gY 142 #[.int .i64 4,.int .i64 0,.int .i64 0] (0,0) _ rfl (by (with_reducible repeat (first | refine aG ?_ _ | refine aI ?_ | refine aA ?_ _));refine bV (cs:=#[.int .i64 4,.int .i64 0,.int .i64 0]) ?_ 2 _ rfl;(with_reducible repeat (first | refine aG ?_ _ | refine aI ?_ | refine aA ?_ _));refine bV (cs:=#[.int .i64 4,.int .i64 0,.int .i64 0]) ?_ 1 _ rfl;(with_reducible repeat (first | refine aG ?_ _ | refine aI ?_ | refine aA ?_ _));refine bV (cs:=#[.int .i64 0,.int .i64 0,.int .i64 0]) ?_ 0 _ rfl;(with_reducible repeat (first | refine aG ?_ _ | refine aI ?_ | refine aA ?_ _));exact dW.out) Try.underlying142 rfl (by kernel_rfl)) rfl ?_
        exact ⟨by first | rfl | (simp [aJ,aK] <;> rfl) | (simp [*,aJ,aK] <;> rfl),by repeat (first | (with_reducible first | exact HB.out | apply ak | apply ah | apply au | refine aR ?_ rM.out) | exact HB.out)⟩
       ·rw [if_neg c14] at H
        have BA:(a0 == 1) = false:=beq_eq_false_iff_ne.mpr c14
        have Ug:(a0 != 1) = true:=bne_iff_ne.mpr c14
        by_cases c16:a0 = 28
        ·rw [if_pos c16] at H
         have Jf:(a0 == 28) = true:=beq_iff_eq.mpr c16
         have abr:(a0 != 28) = false:=bne_eq_false_iff_eq.mpr c16
         clear c16
         simp only [Option.some.injEq,Prod.mk.injEq] at H
         obtain ⟨rfl,rfl,rfl⟩:=H
         have ad3:wc.cell? ⟨gY,0,none⟩ = some (.int .i64 0):=(aM dW.out 0).trans rfl
         have ad4:wc.cell? ⟨gY,1,none⟩ = some (.int .i64 0):=(aM dW.out 1).trans rfl
         have ad5:wc.cell? ⟨gY,2,none⟩ = some (.int .i64 0):=(aM dW.out 2).trans rfl
         have ad6:=ay dW.out 0
         have ad7:=ay dW.out 1
         have ad8:=ay dW.out 2
         go_wp2
         refine bodyPost_ret (results_cell_row rfl _ _ gY 142 #[.int .i64 16,.int .i64 0,.int .i64 0] (0,0) _ rfl (by (with_reducible repeat (first | refine aG ?_ _ | refine aI ?_ | refine aA ?_ _));refine bV (cs:=#[.int .i64 16,.int .i64 0,.int .i64 0]) ?_ 2 _ rfl;(with_reducible repeat (first | refine aG ?_ _ | refine aI ?_ | refine aA ?_ _));refine bV (cs:=#[.int .i64 16,.int .i64 0,.int .i64 0]) ?_ 1 _ rfl;(with_reducible repeat (first | refine aG ?_ _ | refine aI ?_ | refine aA ?_ _));refine bV (cs:=#[.int .i64 0,.int .i64 0,.int .i64 0]) ?_ 0 _ rfl;(with_reducible repeat (first | refine aG ?_ _ | refine aI ?_ | refine aA ?_ _));exact dW.out) Try.underlying142 rfl (by kernel_rfl)) rfl ?_
         exact ⟨by first | rfl | (simp [aJ,aK] <;> rfl) | (simp [*,aJ,aK] <;> rfl),by repeat (first | (with_reducible first | exact HB.out | apply ak | apply ah | apply au | refine aR ?_ rM.out) | exact HB.out)⟩
        ·rw [if_neg c16] at H
         have Jf:(a0 == 28) = false:=beq_eq_false_iff_ne.mpr c16
         have abr:(a0 != 28) = true:=bne_iff_ne.mpr c16
         simp only [Option.some.injEq,Prod.mk.injEq] at H
         obtain ⟨rfl,rfl,rfl⟩:=H
         have Jv:wc.cell? ⟨gY,0,none⟩ = some (.int .i64 0):=(aM dW.out 0).trans rfl
         have Jw:wc.cell? ⟨gY,1,none⟩ = some (.int .i64 0):=(aM dW.out 1).trans rfl
         have Jy:wc.cell? ⟨gY,2,none⟩ = some (.int .i64 0):=(aM dW.out 2).trans rfl
         have Jz:=ay dW.out 0
         have JA:=ay dW.out 1
         have JB:=ay dW.out 2
         go_wp2
         refine bodyPost_ret (results_cell_row rfl _ _ gY 142 #[.int .i64 0,.int .i64 0,.int .i64 0] (0,0) _ rfl (by (with_reducible repeat (first | refine aG ?_ _ | refine aI ?_ | refine aA ?_ _));refine bV (cs:=#[.int .i64 0,.int .i64 0,.int .i64 0]) ?_ 2 _ rfl;(with_reducible repeat (first | refine aG ?_ _ | refine aI ?_ | refine aA ?_ _));refine bV (cs:=#[.int .i64 0,.int .i64 0,.int .i64 0]) ?_ 1 _ rfl;(with_reducible repeat (first | refine aG ?_ _ | refine aI ?_ | refine aA ?_ _));refine bV (cs:=#[.int .i64 0,.int .i64 0,.int .i64 0]) ?_ 0 _ rfl;(with_reducible repeat (first | refine aG ?_ _ | refine aI ?_ | refine aA ?_ _));exact dW.out) Try.underlying142 rfl (by kernel_rfl)) rfl ?_
         exact ⟨by first | rfl | (simp [aJ,aK] <;> rfl) | (simp [*,aJ,aK] <;> rfl),by repeat (first | (with_reducible first | exact HB.out | apply ak | apply ah | apply au | refine aR ?_ rM.out) | exact HB.out)⟩
def bq.l0 : Nat → ByteArray → Int → Option (Bool)
 | 0,_,_=>none
 | k + 1,x0,x3=>if x3 < (x0.size:Int) then (if 0 ≤ x3 then (bq.l0 k x0 (wrap64 ((wrap64 (x3 + 1)) + (wrap64 (bt x0 x3))))) else (none)) else (if x3 = (x0.size:Int) then (some (decide (x3 > 0))) else (some false))
def bq.f (k:Nat) (a0:ByteArray):Option (Bool):=bq.l0 k a0 0
set_option maxHeartbeats 8000000 in
set_option maxRecDepth 100000 in
theorem bq.calls (k:Nat) (a0:ByteArray) (r:Bool) (w:World) (h:bq.f k a0 = some r) :
  Calls Try.prog 117 #[.string a0] w fun e w'=>e = .returned (.bool r) ∧ aY w w':=by
 have H:(bq.l0 k a0 0) = some r:=h
 clear h
 have H':=aj.mk H
 clear H
 go_enter Try.func117,Try.ntmps117
 go_wp2
 go_loopg [3] k (fun kq v3 w'=>∃ (oP:Int),v3 = .int .i64 oP ∧ aj (bq.l0 kq a0 oP = some r) ∧ aj (kq ≤ k) ∧ aY w w')
 case atStart=>exact ⟨(0),(by first | rfl | (simp;done) | (simp [*];done) | (simp [B.aV];done) | (simp [B.aW];done)),H',⟨Nat.le_refl _⟩,by repeat (first | exact aY.refl _ | apply aY.step)⟩
 case round =>
  clear H'
  try clear c1
  obtain ⟨oP,rfl,HA,uM,⟨m1,rfl⟩⟩:=hrel
  cases gk with
  | zero=>exact absurd HA.out (by simp [bq.l0])
  | succ k1 =>
   have H:=HA.out
   clear HA
   simp only [bq.l0] at H
   by_cases c2:oP < (a0.size:Int)
   ·rw [if_pos c2] at H
    have wU:decide (oP < (a0.size:Int)) = true:=decide_eq_true c2
    clear c2
    by_cases c3:0 ≤ oP
    ·rw [if_pos c3] at H
     have qX:decide (0 ≤ oP) = true:=decide_eq_true c3
     clear c3
     have H':=aj.mk H
     clear H
     have p4:0 ≤ (oP:Int):=of_decide_eq_true (by first | (with_reducible assumption) | assumption)
     have q4:oP < (a0.size:Int):=of_decide_eq_true (by first | (with_reducible assumption) | assumption)
     have hx4:=nS a0 oP
     replace p4:=eq_true p4
     replace q4:=eq_true q4
     go_wp2
     go_roundg k1
     case measure=>have:=uM.out;omega
     case rel=>exact ⟨(wrap64 ((wrap64 (oP + 1)) + (wrap64 (bt a0 oP)))),(by first | rfl | (simp;done) | (simp [*];done) | (simp [B.aV];done) | (simp [B.aW];done)),H',⟨by have:=uM.out;omega⟩,by repeat (first | exact aY.refl _ | apply aY.step)⟩
    ·rw [if_neg c3] at H
     exact absurd H (by simp)
   ·rw [if_neg c2] at H
    have wU:decide (oP < (a0.size:Int)) = false:=decide_eq_false c2
    clear c2
    by_cases c5:oP = (a0.size:Int)
    ·rw [if_pos c5] at H
     have qc:(oP == (a0.size:Int)) = true:=beq_iff_eq.mpr c5
     have vT:(oP != (a0.size:Int)) = false:=bne_eq_false_iff_eq.mpr c5
     clear c5
     obtain rfl:=Option.some.inj H
     go_wp2
     go_ret
     exact ⟨by first | rfl | (simp;done) | (simp [*];done),by repeat (first | exact aY.refl _ | apply aY.step)⟩
    ·rw [if_neg c5] at H
     have qc:(oP == (a0.size:Int)) = false:=beq_eq_false_iff_ne.mpr c5
     have vT:(oP != (a0.size:Int)) = true:=bne_iff_ne.mpr c5
     obtain rfl:=Option.some.inj H
     go_wp2
     go_ret
     exact ⟨by first | rfl | (simp;done) | (simp [*];done),by repeat (first | exact aY.refl _ | apply aY.step)⟩
def aX.l0 : Nat → ByteArray → Int → Int → ByteArray → Int → Int → Int → Int → Int → Option (ByteArray × Int)
 | 0,_,_,_,_,_,_,_,_,_=>none
 | k + 1,x0,x1,x2,x13,Rh,x15,RQ,JC,JD=>if x15 < JC then ((aU.f k x0 Rh).bind fun JE=>(if JE.2.2 = 0 then (if x13.size + JE.1.size ≤ 9223372036854775807 then (aX.l0 k x0 x1 x2 (x13 ++ JE.1) JE.2.1 (wrap64 (x15 + 1)) RQ JC JD) else (none)) else (some ((⟨#[]⟩:ByteArray),4)))) else (if (wrap64 (Rh + JD)) = (wrap64 (x1 + x2)) then (if 0 ≤ Rh then (if Rh ≤ (wrap64 (x1 + x2)) then (if (wrap64 (x1 + x2)) ≤ (x0.size:Int) then (if x13.size + (x0.extract (Rh:Int).toNat ((wrap64 (x1 + x2)):Int).toNat).size ≤ 9223372036854775807 then (if ((x13 ++ (x0.extract (Rh:Int).toNat ((wrap64 (x1 + x2)):Int).toNat)).size:Int) > 65535 then (some ((⟨#[]⟩:ByteArray),4)) else (some (x13 ++ (x0.extract (Rh:Int).toNat ((wrap64 (x1 + x2)):Int).toNat),0))) else (none)) else (none)) else (none)) else (none)) else (some ((⟨#[]⟩:ByteArray),4)))
def aX.f (k:Nat) (a0:ByteArray) (a1:Int) (a2:Int) (a3:Int):Option (ByteArray × Int):=(bC.f a0 a1 a2).bind fun lN=>(if lN.2 = true then ((aH.f k a3).bind fun eY=>(if (eY.1 == 0 && (eY.2.1 == 0 && (eY.2.2 == 0))) = true then (if a3 = 16 then ((bq.f k lN.1).bind fun wX=>(if wX = true then (if (lN.1.size:Int) > 65535 then (some ((⟨#[]⟩:ByteArray),4)) else (some (lN.1,0))) else (some ((⟨#[]⟩:ByteArray),4)))) else (if (lN.1.size:Int) > 65535 then (some ((⟨#[]⟩:ByteArray),4)) else (some (lN.1,0)))) else (if eY.1 > a2 then (some ((⟨#[]⟩:ByteArray),4)) else (if 0 ≤ eY.1 then (if eY.1 ≤ (lN.1.size:Int) then (aX.l0 k a0 a1 a2 (lN.1.extract 0 (eY.1:Int).toNat) (wrap64 (a1 + eY.1)) 0 eY.1 eY.2.1 eY.2.2) else (none)) else (none))))) else (some ((⟨#[]⟩:ByteArray),2)))
set_option maxHeartbeats 8000000 in
set_option maxRecDepth 100000 in
theorem aX.calls (k:Nat) (a0:ByteArray) (a1:Int) (a2:Int) (a3:Int) (r1:ByteArray) (r2:Int) (w:World) (h:aX.f k a0 a1 a2 a3 = some (r1,r2)) :
  Calls Try.prog 104 #[.string a0,.int .i64 a1,.int .i64 a2,.int .i64 a3] w fun e w'=>e = .returned (.tuple #[.string r1,.int .i64 r2]) ∧ Below w.heap.size w w':=by
 have OB:=Try.underlying142
 have HB:=aj.mk (Below.refl w.heap.size w)
 have H:((bC.f a0 a1 a2).bind fun lN=>(if lN.2 = true then ((aH.f k a3).bind fun eY=>(if (eY.1 == 0 && (eY.2.1 == 0 && (eY.2.2 == 0))) = true then (if a3 = 16 then ((bq.f k lN.1).bind fun wX=>(if wX = true then (if (lN.1.size:Int) > 65535 then (some ((⟨#[]⟩:ByteArray),4)) else (some (lN.1,0))) else (some ((⟨#[]⟩:ByteArray),4)))) else (if (lN.1.size:Int) > 65535 then (some ((⟨#[]⟩:ByteArray),4)) else (some (lN.1,0)))) else (if eY.1 > a2 then (some ((⟨#[]⟩:ByteArray),4)) else (if 0 ≤ eY.1 then (if eY.1 ≤ (lN.1.size:Int) then (aX.l0 k a0 a1 a2 (lN.1.extract 0 (eY.1:Int).toNat) (wrap64 (a1 + eY.1)) 0 eY.1 eY.2.1 eY.2.2) else (none)) else (none))))) else (some ((⟨#[]⟩:ByteArray),2)))) = some (r1,r2):=h
 clear h
 replace H:=zbm H
 obtain ⟨⟨t160,abt⟩,Uo,H⟩:=H
 replace H:(if abt = true then ((aH.f k a3).bind fun eY=>(if (eY.1 == 0 && (eY.2.1 == 0 && (eY.2.2 == 0))) = true then (if a3 = 16 then ((bq.f k t160).bind fun wX=>(if wX = true then (if (t160.size:Int) > 65535 then (some ((⟨#[]⟩:ByteArray),4)) else (some (t160,0))) else (some ((⟨#[]⟩:ByteArray),4)))) else (if (t160.size:Int) > 65535 then (some ((⟨#[]⟩:ByteArray),4)) else (some (t160,0)))) else (if eY.1 > a2 then (some ((⟨#[]⟩:ByteArray),4)) else (if 0 ≤ eY.1 then (if eY.1 ≤ (t160.size:Int) then (aX.l0 k a0 a1 a2 (t160.extract 0 (eY.1:Int).toNat) (wrap64 (a1 + eY.1)) 0 eY.1 eY.2.1 eY.2.2) else (none)) else (none))))) else (some ((⟨#[]⟩:ByteArray),2))) = some (r1,r2):=H
 have A5:=aj.mk Uo
 clear Uo
 by_cases c6:abt = true
 ·subst c6
  have H1:((aH.f k a3).bind fun eY=>(if (eY.1 == 0 && (eY.2.1 == 0 && (eY.2.2 == 0))) = true then (if a3 = 16 then ((bq.f k t160).bind fun wX=>(if wX = true then (if (t160.size:Int) > 65535 then (some ((⟨#[]⟩:ByteArray),4)) else (some (t160,0))) else (some ((⟨#[]⟩:ByteArray),4)))) else (if (t160.size:Int) > 65535 then (some ((⟨#[]⟩:ByteArray),4)) else (some (t160,0)))) else (if eY.1 > a2 then (some ((⟨#[]⟩:ByteArray),4)) else (if 0 ≤ eY.1 then (if eY.1 ≤ (t160.size:Int) then (aX.l0 k a0 a1 a2 (t160.extract 0 (eY.1:Int).toNat) (wrap64 (a1 + eY.1)) 0 eY.1 eY.2.1 eY.2.2) else (none)) else (none))))) = some (r1,r2):=by rw [if_pos rfl] at H;exact H
  clear H
  have H:=H1
  clear H1
  replace H:=zbm H
  obtain ⟨⟨t162,kN,t164⟩,A70,H⟩:=H
  replace H:(if (t162 == 0 && (kN == 0 && (t164 == 0))) = true then (if a3 = 16 then ((bq.f k t160).bind fun wX=>(if wX = true then (if (t160.size:Int) > 65535 then (some ((⟨#[]⟩:ByteArray),4)) else (some (t160,0))) else (some ((⟨#[]⟩:ByteArray),4)))) else (if (t160.size:Int) > 65535 then (some ((⟨#[]⟩:ByteArray),4)) else (some (t160,0)))) else (if t162 > a2 then (some ((⟨#[]⟩:ByteArray),4)) else (if 0 ≤ t162 then (if t162 ≤ (t160.size:Int) then (aX.l0 k a0 a1 a2 (t160.extract 0 (t162:Int).toNat) (wrap64 (a1 + t162)) 0 t162 kN t164) else (none)) else (none)))) = some (r1,r2):=H
  have A7:=aj.mk A70
  clear A70
  by_cases c8:(t162 == 0 && (kN == 0 && (t164 == 0))) = true
  ·rw [if_pos c8] at H
   have su:(t162 == 0 && (kN == 0 && (t164 == 0))) = true:=c8
   (try (have sw:decide (t162 = 0 && (kN == 0 && (t164 == 0))) = true:=by simpa using c8))
   (try (have Oj:(t162 == 0 && (kN == 0 && (t164 == 0))) = true:=by simpa using c8))
   clear c8
   by_cases c9:a3 = 16
   ·rw [if_pos c9] at H
    have uN:(a3 == 16) = true:=beq_iff_eq.mpr c9
    have FI:(a3 != 16) = false:=bne_eq_false_iff_eq.mpr c9
    clear c9
    replace H:=zbm H
    obtain ⟨wX,Ov,H⟩:=H
    replace H:(if wX = true then (if (t160.size:Int) > 65535 then (some ((⟨#[]⟩:ByteArray),4)) else (some (t160,0))) else (some ((⟨#[]⟩:ByteArray),4))) = some (r1,r2):=H
    have Ui:=aj.mk Ov
    clear Ov
    by_cases c11:wX = true
    ·subst c11
     have H1:(if (t160.size:Int) > 65535 then (some ((⟨#[]⟩:ByteArray),4)) else (some (t160,0))) = some (r1,r2):=by rw [if_pos rfl] at H;exact H
     clear H
     have H:=H1
     clear H1
     by_cases c12:(t160.size:Int) > 65535
     ·rw [if_pos c12] at H
      have uO:decide (65535 < (t160.size:Int)) = true:=decide_eq_true c12
      have uP:decide (65535 < t160.size) = true:=decide_eq_true (by omega)
      clear c12
      simp only [Option.some.injEq,Prod.mk.injEq] at H
      obtain ⟨rfl,rfl⟩:=H
      go_enter Try.func104,Try.ntmps104
      go_wp2_with (first | ((with_reducible refine aQ (f:=99) rfl ?_);refine bQ (some 23) rfl rfl Try.func99 (by kernel_rfl) rfl #[.string a0,.int .i64 a1,.int .i64 a2] rfl (by (try simp only [List.map_toArray,List.map_cons,List.map_nil]);first | done | rfl | (simp only [List.length_drop,List.length_take];rfl) | (simp only [ByteArray.size_append,Int.natCast_add];rfl) | (rw [B.dQ] <;> first | rfl | omega | (simp only [decide_eq_false_iff_not,decide_eq_true_eq,Int.not_lt,Nat.not_lt,gt_iff_lt] at * <;> omega))) ?_;(with_reducible refine (bC.calls a0 a1 a2 t160 true _ A5.out).mono ?_);rintro e w' ⟨rfl,⟨nd,rfl⟩⟩;refine ⟨_,rfl,?_⟩) | ((with_reducible refine aQ (f:=106) rfl ?_);refine bQ (some 29) rfl rfl Try.func106 (by kernel_rfl) rfl #[.int .i64 a3] rfl (by (try simp only [List.map_toArray,List.map_cons,List.map_nil]);first | done | rfl | (simp only [List.length_drop,List.length_take];rfl) | (simp only [ByteArray.size_append,Int.natCast_add];rfl) | (rw [B.dQ] <;> first | rfl | omega | (simp only [decide_eq_false_iff_not,decide_eq_true_eq,Int.not_lt,Nat.not_lt,gt_iff_lt] at * <;> omega))) ?_;(with_reducible refine (aH.calls k a3 t162 kN t164 _ A7.out).mono ?_);rintro e w13 ⟨rfl,hb⟩;refine ⟨_,rfl,?_⟩;have d9:=aj.mk (bE (by repeat (first | (with_reducible first | exact HB.out | apply ak | apply ah | apply au) | exact HB.out)) hb);clear HB;have HB:=d9;clear d9;(try clear hb);(try clear hb2);(try clear hk);(try clear hi)) | ((with_reducible refine gK (N:=12) rfl ?_);(try (refine jB (by rfl) ?_;dsimp only));refine fV ?hg (N:=12) ?hd (cs:=#[.int .i64 0,.int .i64 0,.int .i64 0]) (t:=142) ?hr ?_;(case hd=>rfl);(case hg=>rfl);(case hr=>first | (go_simp;done) | (go_simp;rfl));intro dN hg w14 gX hb;have d9:=aj.mk (bE (by repeat (first | (with_reducible first | exact HB.out | apply ak | apply ah | apply au) | exact HB.out)) hb);have ig:=aj.mk (gX);have jh:=aj.mk ((by rw [hg];exact (bL (by repeat (first | (with_reducible first | exact HB.out | apply ak | apply ah | apply au) | exact HB.out))):w.heap.size ≤ dN));have jL:=aj.mk ((by rw [hg];exact (bL (by repeat (first | (with_reducible first | exact HB.out | apply ak | apply ah | apply au) | exact HB.out))):w.heap.size ≤ dN));clear HB;have HB:=d9;have bU:=ig;have BJ:=jh;have kT:=jL;clear d9 ig jh jL;clear hb gX hg;have DC:w14.cell? ⟨dN,0,none⟩ = some (.int .i64 0):=(aM bU.out 0).trans rfl;have DF:w14.cell? ⟨dN,1,none⟩ = some (.int .i64 0):=(aM bU.out 1).trans rfl;have DI:w14.cell? ⟨dN,2,none⟩ = some (.int .i64 0):=(aM bU.out 2).trans rfl;have DJ:=ay bU.out 0;have DK:=ay bU.out 1;have DL:=ay bU.out 2) | (go_at_call 117;(with_reducible refine (bq.calls k t160 true _ Ui.out).mono ?_);rintro e w' ⟨rfl,⟨nd,rfl⟩⟩))
      go_ret2
      exact ⟨by first | rfl | (simp [aJ,aK] <;> rfl) | (simp [*,aJ,aK] <;> rfl),by repeat (first | (with_reducible first | exact HB.out | apply ak | apply ah | apply au | refine aR ?_ kT.out) | exact HB.out)⟩
     ·rw [if_neg c12] at H
      have uO:decide (65535 < (t160.size:Int)) = false:=decide_eq_false c12
      have uP:decide (65535 < t160.size) = false:=decide_eq_false (by omega)
      clear c12
      simp only [Option.some.injEq,Prod.mk.injEq] at H
      obtain ⟨rfl,rfl⟩:=H
      go_enter Try.func104,Try.ntmps104
      go_wp2_with (first | ((with_reducible refine aQ (f:=99) rfl ?_);refine bQ (some 23) rfl rfl Try.func99 (by kernel_rfl) rfl #[.string a0,.int .i64 a1,.int .i64 a2] rfl (by (try simp only [List.map_toArray,List.map_cons,List.map_nil]);first | done | rfl | (simp only [List.length_drop,List.length_take];rfl) | (simp only [ByteArray.size_append,Int.natCast_add];rfl) | (rw [B.dQ] <;> first | rfl | omega | (simp only [decide_eq_false_iff_not,decide_eq_true_eq,Int.not_lt,Nat.not_lt,gt_iff_lt] at * <;> omega))) ?_;(with_reducible refine (bC.calls a0 a1 a2 t160 true _ A5.out).mono ?_);rintro e w' ⟨rfl,⟨nd,rfl⟩⟩;refine ⟨_,rfl,?_⟩) | ((with_reducible refine aQ (f:=106) rfl ?_);refine bQ (some 29) rfl rfl Try.func106 (by kernel_rfl) rfl #[.int .i64 a3] rfl (by (try simp only [List.map_toArray,List.map_cons,List.map_nil]);first | done | rfl | (simp only [List.length_drop,List.length_take];rfl) | (simp only [ByteArray.size_append,Int.natCast_add];rfl) | (rw [B.dQ] <;> first | rfl | omega | (simp only [decide_eq_false_iff_not,decide_eq_true_eq,Int.not_lt,Nat.not_lt,gt_iff_lt] at * <;> omega))) ?_;(with_reducible refine (aH.calls k a3 t162 kN t164 _ A7.out).mono ?_);rintro e w16 ⟨rfl,hb⟩;refine ⟨_,rfl,?_⟩;have d9:=aj.mk (bE (by repeat (first | (with_reducible first | exact HB.out | apply ak | apply ah | apply au) | exact HB.out)) hb);clear HB;have HB:=d9;clear d9;(try clear hb);(try clear hb2);(try clear hk);(try clear hi)) | ((with_reducible refine gK (N:=12) rfl ?_);(try (refine jB (by rfl) ?_;dsimp only));refine fV ?hg (N:=12) ?hd (cs:=#[.int .i64 0,.int .i64 0,.int .i64 0]) (t:=142) ?hr ?_;(case hd=>rfl);(case hg=>rfl);(case hr=>first | (go_simp;done) | (go_simp;rfl));intro dN hg w17 gX hb;have d9:=aj.mk (bE (by repeat (first | (with_reducible first | exact HB.out | apply ak | apply ah | apply au) | exact HB.out)) hb);have ig:=aj.mk (gX);have jh:=aj.mk ((by rw [hg];exact (bL (by repeat (first | (with_reducible first | exact HB.out | apply ak | apply ah | apply au) | exact HB.out))):w.heap.size ≤ dN));have jL:=aj.mk ((by rw [hg];exact (bL (by repeat (first | (with_reducible first | exact HB.out | apply ak | apply ah | apply au) | exact HB.out))):w.heap.size ≤ dN));clear HB;have HB:=d9;have bU:=ig;have BJ:=jh;have kT:=jL;clear d9 ig jh jL;clear hb gX hg;have Jv:w17.cell? ⟨dN,0,none⟩ = some (.int .i64 0):=(aM bU.out 0).trans rfl;have Jw:w17.cell? ⟨dN,1,none⟩ = some (.int .i64 0):=(aM bU.out 1).trans rfl;have Jy:w17.cell? ⟨dN,2,none⟩ = some (.int .i64 0):=(aM bU.out 2).trans rfl;have Jz:=ay bU.out 0;have JA:=ay bU.out 1;have JB:=ay bU.out 2) | (go_at_call 117;(with_reducible refine (bq.calls k t160 true _ Ui.out).mono ?_);rintro e w' ⟨rfl,⟨nd,rfl⟩⟩))
      go_ret2
      exact ⟨by first | rfl | (simp [aJ,aK] <;> rfl) | (simp [*,aJ,aK] <;> rfl),by repeat (first | (with_reducible first | exact HB.out | apply ak | apply ah | apply au | refine aR ?_ kT.out) | exact HB.out)⟩
    ·replace c11:=Bool.eq_false_iff.mpr c11
     subst c11
     have H1:(some ((⟨#[]⟩:ByteArray),4)) = some (r1,r2):=by rw [if_neg (show ¬ (false = true) by decide)] at H;exact H
     clear H
     have H:=H1
     clear H1
     simp only [Option.some.injEq,Prod.mk.injEq] at H
     obtain ⟨rfl,rfl⟩:=H
     go_enter Try.func104,Try.ntmps104
     go_wp2_with (first | ((with_reducible refine aQ (f:=99) rfl ?_);refine bQ (some 23) rfl rfl Try.func99 (by kernel_rfl) rfl #[.string a0,.int .i64 a1,.int .i64 a2] rfl (by (try simp only [List.map_toArray,List.map_cons,List.map_nil]);first | done | rfl | (simp only [List.length_drop,List.length_take];rfl) | (simp only [ByteArray.size_append,Int.natCast_add];rfl) | (rw [B.dQ] <;> first | rfl | omega | (simp only [decide_eq_false_iff_not,decide_eq_true_eq,Int.not_lt,Nat.not_lt,gt_iff_lt] at * <;> omega))) ?_;(with_reducible refine (bC.calls a0 a1 a2 t160 true _ A5.out).mono ?_);rintro e w' ⟨rfl,⟨nd,rfl⟩⟩;refine ⟨_,rfl,?_⟩) | ((with_reducible refine aQ (f:=106) rfl ?_);refine bQ (some 29) rfl rfl Try.func106 (by kernel_rfl) rfl #[.int .i64 a3] rfl (by (try simp only [List.map_toArray,List.map_cons,List.map_nil]);first | done | rfl | (simp only [List.length_drop,List.length_take];rfl) | (simp only [ByteArray.size_append,Int.natCast_add];rfl) | (rw [B.dQ] <;> first | rfl | omega | (simp only [decide_eq_false_iff_not,decide_eq_true_eq,Int.not_lt,Nat.not_lt,gt_iff_lt] at * <;> omega))) ?_;(with_reducible refine (aH.calls k a3 t162 kN t164 _ A7.out).mono ?_);rintro e w19 ⟨rfl,hb⟩;refine ⟨_,rfl,?_⟩;have d9:=aj.mk (bE (by repeat (first | (with_reducible first | exact HB.out | apply ak | apply ah | apply au) | exact HB.out)) hb);clear HB;have HB:=d9;clear d9;(try clear hb);(try clear hb2);(try clear hk);(try clear hi)) | ((with_reducible refine gK (N:=12) rfl ?_);(try (refine jB (by rfl) ?_;dsimp only));refine fV ?hg (N:=12) ?hd (cs:=#[.int .i64 0,.int .i64 0,.int .i64 0]) (t:=142) ?hr ?_;(case hd=>rfl);(case hg=>rfl);(case hr=>first | (go_simp;done) | (go_simp;rfl));intro dN hg w20 gX hb;have d9:=aj.mk (bE (by repeat (first | (with_reducible first | exact HB.out | apply ak | apply ah | apply au) | exact HB.out)) hb);have ig:=aj.mk (gX);have jh:=aj.mk ((by rw [hg];exact (bL (by repeat (first | (with_reducible first | exact HB.out | apply ak | apply ah | apply au) | exact HB.out))):w.heap.size ≤ dN));have jL:=aj.mk ((by rw [hg];exact (bL (by repeat (first | (with_reducible first | exact HB.out | apply ak | apply ah | apply au) | exact HB.out))):w.heap.size ≤ dN));clear HB;have HB:=d9;have bU:=ig;have BJ:=jh;have kT:=jL;clear d9 ig jh jL;clear hb gX hg;have RS:w20.cell? ⟨dN,0,none⟩ = some (.int .i64 0):=(aM bU.out 0).trans rfl;have RU:w20.cell? ⟨dN,1,none⟩ = some (.int .i64 0):=(aM bU.out 1).trans rfl;have RV:w20.cell? ⟨dN,2,none⟩ = some (.int .i64 0):=(aM bU.out 2).trans rfl;have RX:=ay bU.out 0;have RY:=ay bU.out 1;have RZ:=ay bU.out 2) | (go_at_call 117;(with_reducible refine (bq.calls k t160 false _ Ui.out).mono ?_);rintro e w' ⟨rfl,⟨nd,rfl⟩⟩))
     go_ret2
     exact ⟨by first | rfl | (simp [aJ,aK] <;> rfl) | (simp [*,aJ,aK] <;> rfl),by repeat (first | (with_reducible first | exact HB.out | apply ak | apply ah | apply au | refine aR ?_ kT.out) | exact HB.out)⟩
   ·rw [if_neg c9] at H
    have uN:(a3 == 16) = false:=beq_eq_false_iff_ne.mpr c9
    have FI:(a3 != 16) = true:=bne_iff_ne.mpr c9
    by_cases Gg:(t160.size:Int) > 65535
    ·rw [if_pos Gg] at H
     have OJ:decide (65535 < (t160.size:Int)) = true:=decide_eq_true Gg
     have OL:decide (65535 < t160.size) = true:=decide_eq_true (by omega)
     clear Gg
     simp only [Option.some.injEq,Prod.mk.injEq] at H
     obtain ⟨rfl,rfl⟩:=H
     go_enter Try.func104,Try.ntmps104
     go_wp2_with (first | ((with_reducible refine aQ (f:=99) rfl ?_);refine bQ (some 23) rfl rfl Try.func99 (by kernel_rfl) rfl #[.string a0,.int .i64 a1,.int .i64 a2] rfl (by (try simp only [List.map_toArray,List.map_cons,List.map_nil]);first | done | rfl | (simp only [List.length_drop,List.length_take];rfl) | (simp only [ByteArray.size_append,Int.natCast_add];rfl) | (rw [B.dQ] <;> first | rfl | omega | (simp only [decide_eq_false_iff_not,decide_eq_true_eq,Int.not_lt,Nat.not_lt,gt_iff_lt] at * <;> omega))) ?_;(with_reducible refine (bC.calls a0 a1 a2 t160 true _ A5.out).mono ?_);rintro e w' ⟨rfl,⟨nd,rfl⟩⟩;refine ⟨_,rfl,?_⟩) | ((with_reducible refine aQ (f:=106) rfl ?_);refine bQ (some 29) rfl rfl Try.func106 (by kernel_rfl) rfl #[.int .i64 a3] rfl (by (try simp only [List.map_toArray,List.map_cons,List.map_nil]);first | done | rfl | (simp only [List.length_drop,List.length_take];rfl) | (simp only [ByteArray.size_append,Int.natCast_add];rfl) | (rw [B.dQ] <;> first | rfl | omega | (simp only [decide_eq_false_iff_not,decide_eq_true_eq,Int.not_lt,Nat.not_lt,gt_iff_lt] at * <;> omega))) ?_;(with_reducible refine (aH.calls k a3 t162 kN t164 _ A7.out).mono ?_);rintro e w23 ⟨rfl,hb⟩;refine ⟨_,rfl,?_⟩;have d9:=aj.mk (bE (by repeat (first | (with_reducible first | exact HB.out | apply ak | apply ah | apply au) | exact HB.out)) hb);clear HB;have HB:=d9;clear d9;(try clear hb);(try clear hb2);(try clear hk);(try clear hi)) | ((with_reducible refine gK (N:=12) rfl ?_);(try (refine jB (by rfl) ?_;dsimp only));refine fV ?hg (N:=12) ?hd (cs:=#[.int .i64 0,.int .i64 0,.int .i64 0]) (t:=142) ?hr ?_;(case hd=>rfl);(case hg=>rfl);(case hr=>first | (go_simp;done) | (go_simp;rfl));intro dN hg w24 gX hb;have d9:=aj.mk (bE (by repeat (first | (with_reducible first | exact HB.out | apply ak | apply ah | apply au) | exact HB.out)) hb);have ig:=aj.mk (gX);have jh:=aj.mk ((by rw [hg];exact (bL (by repeat (first | (with_reducible first | exact HB.out | apply ak | apply ah | apply au) | exact HB.out))):w.heap.size ≤ dN));have jL:=aj.mk ((by rw [hg];exact (bL (by repeat (first | (with_reducible first | exact HB.out | apply ak | apply ah | apply au) | exact HB.out))):w.heap.size ≤ dN));clear HB;have HB:=d9;have bU:=ig;have BJ:=jh;have kT:=jL;clear d9 ig jh jL;clear hb gX hg;have R3:w24.cell? ⟨dN,0,none⟩ = some (.int .i64 0):=(aM bU.out 0).trans rfl;have R4:w24.cell? ⟨dN,1,none⟩ = some (.int .i64 0):=(aM bU.out 1).trans rfl;have R5:w24.cell? ⟨dN,2,none⟩ = some (.int .i64 0):=(aM bU.out 2).trans rfl;have R6:=ay bU.out 0;have R7:=ay bU.out 1;have R8:=ay bU.out 2))
     go_ret2
     exact ⟨by first | rfl | (simp [aJ,aK] <;> rfl) | (simp [*,aJ,aK] <;> rfl),by repeat (first | (with_reducible first | exact HB.out | apply ak | apply ah | apply au | refine aR ?_ kT.out) | exact HB.out)⟩
    ·rw [if_neg Gg] at H
     have OJ:decide (65535 < (t160.size:Int)) = false:=decide_eq_false Gg
     have OL:decide (65535 < t160.size) = false:=decide_eq_false (by omega)
     clear Gg
     simp only [Option.some.injEq,Prod.mk.injEq] at H
     obtain ⟨rfl,rfl⟩:=H
     go_enter Try.func104,Try.ntmps104
     go_wp2_with (first | ((with_reducible refine aQ (f:=99) rfl ?_);refine bQ (some 23) rfl rfl Try.func99 (by kernel_rfl) rfl #[.string a0,.int .i64 a1,.int .i64 a2] rfl (by (try simp only [List.map_toArray,List.map_cons,List.map_nil]);first | done | rfl | (simp only [List.length_drop,List.length_take];rfl) | (simp only [ByteArray.size_append,Int.natCast_add];rfl) | (rw [B.dQ] <;> first | rfl | omega | (simp only [decide_eq_false_iff_not,decide_eq_true_eq,Int.not_lt,Nat.not_lt,gt_iff_lt] at * <;> omega))) ?_;(with_reducible refine (bC.calls a0 a1 a2 t160 true _ A5.out).mono ?_);rintro e w' ⟨rfl,⟨nd,rfl⟩⟩;refine ⟨_,rfl,?_⟩) | ((with_reducible refine aQ (f:=106) rfl ?_);refine bQ (some 29) rfl rfl Try.func106 (by kernel_rfl) rfl #[.int .i64 a3] rfl (by (try simp only [List.map_toArray,List.map_cons,List.map_nil]);first | done | rfl | (simp only [List.length_drop,List.length_take];rfl) | (simp only [ByteArray.size_append,Int.natCast_add];rfl) | (rw [B.dQ] <;> first | rfl | omega | (simp only [decide_eq_false_iff_not,decide_eq_true_eq,Int.not_lt,Nat.not_lt,gt_iff_lt] at * <;> omega))) ?_;(with_reducible refine (aH.calls k a3 t162 kN t164 _ A7.out).mono ?_);rintro e w26 ⟨rfl,hb⟩;refine ⟨_,rfl,?_⟩;have d9:=aj.mk (bE (by repeat (first | (with_reducible first | exact HB.out | apply ak | apply ah | apply au) | exact HB.out)) hb);clear HB;have HB:=d9;clear d9;(try clear hb);(try clear hb2);(try clear hk);(try clear hi)) | ((with_reducible refine gK (N:=12) rfl ?_);(try (refine jB (by rfl) ?_;dsimp only));refine fV ?hg (N:=12) ?hd (cs:=#[.int .i64 0,.int .i64 0,.int .i64 0]) (t:=142) ?hr ?_;(case hd=>rfl);(case hg=>rfl);(case hr=>first | (go_simp;done) | (go_simp;rfl));intro dN hg w27 gX hb;have d9:=aj.mk (bE (by repeat (first | (with_reducible first | exact HB.out | apply ak | apply ah | apply au) | exact HB.out)) hb);have ig:=aj.mk (gX);have jh:=aj.mk ((by rw [hg];exact (bL (by repeat (first | (with_reducible first | exact HB.out | apply ak | apply ah | apply au) | exact HB.out))):w.heap.size ≤ dN));have jL:=aj.mk ((by rw [hg];exact (bL (by repeat (first | (with_reducible first | exact HB.out | apply ak | apply ah | apply au) | exact HB.out))):w.heap.size ≤ dN));clear HB;have HB:=d9;have bU:=ig;have BJ:=jh;have kT:=jL;clear d9 ig jh jL;clear hb gX hg;have R9:w27.cell? ⟨dN,0,none⟩ = some (.int .i64 0):=(aM bU.out 0).trans rfl;have Sb:w27.cell? ⟨dN,1,none⟩ = some (.int .i64 0):=(aM bU.out 1).trans rfl;have Sc:w27.cell? ⟨dN,2,none⟩ = some (.int .i64 0):=(aM bU.out 2).trans rfl;have Sd:=ay bU.out 0;have Sg:=ay bU.out 1;have Si:=ay bU.out 2))
     go_ret2
     exact ⟨by first | rfl | (simp [aJ,aK] <;> rfl) | (simp [*,aJ,aK] <;> rfl),by repeat (first | (with_reducible first | exact HB.out | apply ak | apply ah | apply au | refine aR ?_ kT.out) | exact HB.out)⟩
  ·rw [if_neg c8] at H
   have su:(t162 == 0 && (kN == 0 && (t164 == 0))) = false:=by simpa using c8
   (try (have sw:decide (t162 = 0 && (kN == 0 && (t164 == 0))) = false:=by simpa using c8))
   (try (have Oj:(t162 == 0 && (kN == 0 && (t164 == 0))) = false:=by simpa using c8))
   (try (have aaJ:¬ (t162 = 0 && (kN == 0 && (t164 == 0))):=by simpa using c8))
   clear c8
   by_cases WY:t162 > a2
   ·rw [if_pos WY] at H
    have Uq:decide (a2 < t162) = true:=decide_eq_true WY
    clear WY
    simp only [Option.some.injEq,Prod.mk.injEq] at H
    obtain ⟨rfl,rfl⟩:=H
    go_enter Try.func104,Try.ntmps104
    go_wp2_with (first | ((with_reducible refine aQ (f:=99) rfl ?_);refine bQ (some 23) rfl rfl Try.func99 (by kernel_rfl) rfl #[.string a0,.int .i64 a1,.int .i64 a2] rfl (by (try simp only [List.map_toArray,List.map_cons,List.map_nil]);first | done | rfl | (simp only [List.length_drop,List.length_take];rfl) | (simp only [ByteArray.size_append,Int.natCast_add];rfl) | (rw [B.dQ] <;> first | rfl | omega | (simp only [decide_eq_false_iff_not,decide_eq_true_eq,Int.not_lt,Nat.not_lt,gt_iff_lt] at * <;> omega))) ?_;(with_reducible refine (bC.calls a0 a1 a2 t160 true _ A5.out).mono ?_);rintro e w' ⟨rfl,⟨nd,rfl⟩⟩;refine ⟨_,rfl,?_⟩) | ((with_reducible refine aQ (f:=106) rfl ?_);refine bQ (some 29) rfl rfl Try.func106 (by kernel_rfl) rfl #[.int .i64 a3] rfl (by (try simp only [List.map_toArray,List.map_cons,List.map_nil]);first | done | rfl | (simp only [List.length_drop,List.length_take];rfl) | (simp only [ByteArray.size_append,Int.natCast_add];rfl) | (rw [B.dQ] <;> first | rfl | omega | (simp only [decide_eq_false_iff_not,decide_eq_true_eq,Int.not_lt,Nat.not_lt,gt_iff_lt] at * <;> omega))) ?_;(with_reducible refine (aH.calls k a3 t162 kN t164 _ A7.out).mono ?_);rintro e w30 ⟨rfl,hb⟩;refine ⟨_,rfl,?_⟩;have d9:=aj.mk (bE (by repeat (first | (with_reducible first | exact HB.out | apply ak | apply ah | apply au) | exact HB.out)) hb);clear HB;have HB:=d9;clear d9;(try clear hb);(try clear hb2);(try clear hk);(try clear hi)) | ((with_reducible refine gK (N:=12) rfl ?_);(try (refine jB (by rfl) ?_;dsimp only));refine fV ?hg (N:=12) ?hd (cs:=#[.int .i64 0,.int .i64 0,.int .i64 0]) (t:=142) ?hr ?_;(case hd=>rfl);(case hg=>rfl);(case hr=>first | (go_simp;done) | (go_simp;rfl));intro dN hg w31 gX hb;have d9:=aj.mk (bE (by repeat (first | (with_reducible first | exact HB.out | apply ak | apply ah | apply au) | exact HB.out)) hb);have ig:=aj.mk (gX);have jh:=aj.mk ((by rw [hg];exact (bL (by repeat (first | (with_reducible first | exact HB.out | apply ak | apply ah | apply au) | exact HB.out))):w.heap.size ≤ dN));have jL:=aj.mk ((by rw [hg];exact (bL (by repeat (first | (with_reducible first | exact HB.out | apply ak | apply ah | apply au) | exact HB.out))):w.heap.size ≤ dN));clear HB;have HB:=d9;have bU:=ig;have BJ:=jh;have kT:=jL;clear d9 ig jh jL;clear hb gX hg;have Jp:w31.cell? ⟨dN,0,none⟩ = some (.int .i64 0):=(aM bU.out 0).trans rfl;have Jq:w31.cell? ⟨dN,1,none⟩ = some (.int .i64 0):=(aM bU.out 1).trans rfl;have Jr:w31.cell? ⟨dN,2,none⟩ = some (.int .i64 0):=(aM bU.out 2).trans rfl;have Js:=ay bU.out 0;have Jt:=ay bU.out 1;have Ju:=ay bU.out 2))
    go_ret2
    exact ⟨by first | rfl | (simp [aJ,aK] <;> rfl) | (simp [*,aJ,aK] <;> rfl),by repeat (first | (with_reducible first | exact HB.out | apply ak | apply ah | apply au | refine aR ?_ kT.out) | exact HB.out)⟩
   ·rw [if_neg WY] at H
    have Uq:decide (a2 < t162) = false:=decide_eq_false WY
    clear WY
    by_cases Qm:0 ≤ t162
    ·rw [if_pos Qm] at H
     have abu:=eq_true Qm
     have abv:decide (0 ≤ t162) = true:=decide_eq_true Qm
     clear Qm
     by_cases c34:t162 ≤ (t160.size:Int)
     ·rw [if_pos c34] at H
      have abw:=eq_true c34
      have abx:decide (t162 ≤ (t160.size:Int)) = true:=decide_eq_true c34
      clear c34
      have H':=aj.mk H
      clear H
      go_enter Try.func104,Try.ntmps104
      go_wp2_with (first | ((with_reducible refine aQ (f:=99) rfl ?_);refine bQ (some 23) rfl rfl Try.func99 (by kernel_rfl) rfl #[.string a0,.int .i64 a1,.int .i64 a2] rfl (by (try simp only [List.map_toArray,List.map_cons,List.map_nil]);first | done | rfl | (simp only [List.length_drop,List.length_take];rfl) | (simp only [ByteArray.size_append,Int.natCast_add];rfl) | (rw [B.dQ] <;> first | rfl | omega | (simp only [decide_eq_false_iff_not,decide_eq_true_eq,Int.not_lt,Nat.not_lt,gt_iff_lt] at * <;> omega))) ?_;(with_reducible refine (bC.calls a0 a1 a2 t160 true _ A5.out).mono ?_);rintro e w' ⟨rfl,⟨nd,rfl⟩⟩;refine ⟨_,rfl,?_⟩) | ((with_reducible refine aQ (f:=106) rfl ?_);refine bQ (some 29) rfl rfl Try.func106 (by kernel_rfl) rfl #[.int .i64 a3] rfl (by (try simp only [List.map_toArray,List.map_cons,List.map_nil]);first | done | rfl | (simp only [List.length_drop,List.length_take];rfl) | (simp only [ByteArray.size_append,Int.natCast_add];rfl) | (rw [B.dQ] <;> first | rfl | omega | (simp only [decide_eq_false_iff_not,decide_eq_true_eq,Int.not_lt,Nat.not_lt,gt_iff_lt] at * <;> omega))) ?_;(with_reducible refine (aH.calls k a3 t162 kN t164 _ A7.out).mono ?_);rintro e w35 ⟨rfl,hb⟩;refine ⟨_,rfl,?_⟩;have d9:=aj.mk (bE (by repeat (first | (with_reducible first | exact HB.out | apply ak | apply ah | apply au) | exact HB.out)) hb);clear HB;have HB:=d9;clear d9;(try clear hb);(try clear hb2);(try clear hk);(try clear hi)) | ((with_reducible refine gK (N:=12) rfl ?_);(try (refine jB (by rfl) ?_;dsimp only));refine fV ?hg (N:=12) ?hd (cs:=#[.int .i64 0,.int .i64 0,.int .i64 0]) (t:=142) ?hr ?_;(case hd=>rfl);(case hg=>rfl);(case hr=>first | (go_simp;done) | (go_simp;rfl));intro dN hg w36 gX hb;have d9:=aj.mk (bE (by repeat (first | (with_reducible first | exact HB.out | apply ak | apply ah | apply au) | exact HB.out)) hb);have ig:=aj.mk (gX);have jh:=aj.mk ((by rw [hg];exact (bL (by repeat (first | (with_reducible first | exact HB.out | apply ak | apply ah | apply au) | exact HB.out))):w.heap.size ≤ dN));have jL:=aj.mk ((by rw [hg];exact (bL (by repeat (first | (with_reducible first | exact HB.out | apply ak | apply ah | apply au) | exact HB.out))):w.heap.size ≤ dN));clear HB;have HB:=d9;have bU:=ig;have BJ:=jh;have kT:=jL;clear d9 ig jh jL;clear hb gX hg;have Sj:w36.cell? ⟨dN,0,none⟩ = some (.int .i64 0):=(aM bU.out 0).trans rfl;have Sk:w36.cell? ⟨dN,1,none⟩ = some (.int .i64 0):=(aM bU.out 1).trans rfl;have Sl:w36.cell? ⟨dN,2,none⟩ = some (.int .i64 0):=(aM bU.out 2).trans rfl;have Sm:=ay bU.out 0;have Sn:=ay bU.out 1;have Sq:=ay bU.out 2))
      go_loopg [13,14,15] k (fun kq v13 v14 v15 w'=>∃ (dH:ByteArray) (bR:Int) (wJ:Int),v13 = .string dH ∧ v14 = .int .i64 bR ∧ v15 = .int .i64 wJ ∧ aj (aX.l0 kq a0 a1 a2 dH bR wJ t162 kN t164 = some (r1,r2)) ∧ aj (kq ≤ k) ∧ aj (w'.heap[dN]? = some (.cells #[.int .i64 t162,.int .i64 kN,.int .i64 t164] 142 (0,0))) ∧ aj (Below w.heap.size w w'))
      case atStart=>exact ⟨(t160.extract 0 (t162:Int).toNat),(wrap64 (a1 + t162)),(0),(by first | rfl | (simp;done) | (simp [*];done) | (simp [B.aV];done) | (simp [B.aW];done)),(by first | rfl | (simp;done) | (simp [*];done) | (simp [B.aV];done) | (simp [B.aW];done)),(by first | rfl | (simp;done) | (simp [*];done) | (simp [B.aV];done) | (simp [B.aW];done)),H',⟨Nat.le_refl _⟩,⟨by (with_reducible repeat (first | refine aG ?_ _ | refine aI ?_ | refine aA ?_ _));refine bV (cs:=#[.int .i64 t162,.int .i64 kN,.int .i64 0]) ?_ 2 _ rfl;(with_reducible repeat (first | refine aG ?_ _ | refine aI ?_ | refine aA ?_ _));refine bV (cs:=#[.int .i64 t162,.int .i64 0,.int .i64 0]) ?_ 1 _ rfl;(with_reducible repeat (first | refine aG ?_ _ | refine aI ?_ | refine aA ?_ _));refine bV (cs:=#[.int .i64 0,.int .i64 0,.int .i64 0]) ?_ 0 _ rfl;(with_reducible repeat (first | refine aG ?_ _ | refine aI ?_ | refine aA ?_ _));exact bU.out⟩,⟨by repeat (first | (with_reducible first | exact HB.out | apply ak | apply ah | apply au | refine aR ?_ kT.out) | exact HB.out)⟩⟩
      case round =>
       clear H'
       try clear c1
       try clear c2
       try clear p2
       try clear c3
       try clear c6
       try clear p6
       try clear c8
       try clear su
       try clear sw
       try clear Oj
       try clear c9
       try clear uN
       try clear FI
       try clear c10
       try clear c11
       try clear c12
       try clear uO
       try clear uP
       try clear Gg
       try clear OJ
       try clear OL
       try clear WY
       try clear Uq
       try clear Qm
       try clear abu
       try clear abv
       try clear c34
       try clear abw
       try clear abx
       try clear DC
       try clear DF
       try clear DI
       try clear Jv
       try clear Jw
       try clear Jy
       try clear RS
       try clear RU
       try clear RV
       try clear R3
       try clear R4
       try clear R5
       try clear R9
       try clear Sb
       try clear Sc
       try clear Jp
       try clear Jq
       try clear Jr
       try clear Sj
       try clear Sk
       try clear Sl
       try clear DJ
       try clear DK
       try clear DL
       try clear Jz
       try clear JA
       try clear JB
       try clear RX
       try clear RY
       try clear RZ
       try clear R6
       try clear R7
       try clear R8
       try clear Sd
       try clear Sg
       try clear Si
       try clear Js
       try clear Jt
       try clear Ju
       try clear Sm
       try clear Sn
       try clear Sq
       obtain ⟨dH,bR,wJ,rfl,rfl,rfl,HA,uM,bU,HB⟩:=hrel
       cases gk with
       | zero=>exact absurd HA.out (by simp [aX.l0])
       | succ k1 =>
        have H:=HA.out
        clear HA
        simp only [aX.l0] at H
        by_cases EF:wJ < kN
        ·rw [if_pos EF] at H
         have Un:decide (wJ < kN) = true:=decide_eq_true EF
         clear EF
         replace H:=zbm H
         obtain ⟨⟨t167,t168,FW⟩,aby,H⟩:=H
         replace H:(if FW = 0 then (if dH.size + t167.size ≤ 9223372036854775807 then (aX.l0 k1 a0 a1 a2 (dH ++ t167) t168 (wrap64 (wJ + 1)) t162 kN t164) else (none)) else (some ((⟨#[]⟩:ByteArray),4))) = some (r1,r2):=H
         have A39:=aj.mk aby
         clear aby
         by_cases c40:FW = 0
         ·rw [if_pos c40] at H
          have abz:(FW == 0) = true:=beq_iff_eq.mpr c40
          have abA:(FW != 0) = false:=bne_eq_false_iff_eq.mpr c40
          clear c40
          by_cases Ll:dH.size + t167.size ≤ 9223372036854775807
          ·rw [if_pos Ll] at H
           have ahX:=eq_true Ll
           have ahY:decide (dH.size + t167.size ≤ 9223372036854775807) = true:=decide_eq_true Ll
           try have ahZ:(9223372036854775807 < dH.size + t167.size) = False:=eq_false (Nat.not_lt.2 Ll)
           have H':=aj.mk H
           clear H
           have RH:wr.cell? ⟨dN,0,none⟩ = some (.int .i64 t162):=(aM bU.out 0).trans rfl
           have RI:wr.cell? ⟨dN,1,none⟩ = some (.int .i64 kN):=(aM bU.out 1).trans rfl
           have RJ:wr.cell? ⟨dN,2,none⟩ = some (.int .i64 t164):=(aM bU.out 2).trans rfl
           have RL:=ay bU.out 0
           have RN:=ay bU.out 1
           have RO:=ay bU.out 2
           go_wp2_with (first | ((with_reducible refine aQ (f:=118) rfl ?_);refine bQ (some 67) rfl rfl Try.func118 (by kernel_rfl) rfl #[.string a0,.int .i64 bR] rfl (by (try simp only [List.map_toArray,List.map_cons,List.map_nil]);first | done | rfl | (simp only [List.length_drop,List.length_take];rfl) | (simp only [ByteArray.size_append,Int.natCast_add];rfl) | (rw [B.dQ] <;> first | rfl | omega | (simp only [decide_eq_false_iff_not,decide_eq_true_eq,Int.not_lt,Nat.not_lt,gt_iff_lt] at * <;> omega))) ?_;(with_reducible refine (aU.calls k1 a0 bR t167 t168 FW _ A39.out).mono ?_);rintro e w' ⟨rfl,⟨nd,rfl⟩⟩;refine ⟨_,rfl,?_⟩))
           go_roundg k1
           case measure=>have:=uM.out;omega
           case rel=>exact ⟨(dH ++ t167),(t168),(wrap64 (wJ + 1)),(by first | rfl | (simp;done) | (simp [*];done) | (simp [B.aV];done) | (simp [B.aW];done)),(by first | rfl | (simp;done) | (simp [*];done) | (simp [B.aV];done) | (simp [B.aW];done)),(by first | rfl | (simp;done) | (simp [*];done) | (simp [B.aV];done) | (simp [B.aW];done)),H',⟨by have:=uM.out;omega⟩,⟨by (with_reducible repeat (first | refine aG ?_ _ | refine aI ?_ | refine aA ?_ _));exact bU.out⟩,⟨by repeat (first | (with_reducible first | exact HB.out | apply ak | apply ah | apply au | refine aR ?_ kT.out) | exact HB.out)⟩⟩
          ·rw [if_neg Ll] at H
           exact absurd H (by simp)
         ·rw [if_neg c40] at H
          have abz:(FW == 0) = false:=beq_eq_false_iff_ne.mpr c40
          have abA:(FW != 0) = true:=bne_iff_ne.mpr c40
          simp only [Option.some.injEq,Prod.mk.injEq] at H
          obtain ⟨rfl,rfl⟩:=H
          have ad9:wr.cell? ⟨dN,0,none⟩ = some (.int .i64 t162):=(aM bU.out 0).trans rfl
          have aea:wr.cell? ⟨dN,1,none⟩ = some (.int .i64 kN):=(aM bU.out 1).trans rfl
          have aeb:wr.cell? ⟨dN,2,none⟩ = some (.int .i64 t164):=(aM bU.out 2).trans rfl
          have aec:=ay bU.out 0
          have aed:=ay bU.out 1
          have aee:=ay bU.out 2
          go_wp2_with (first | ((with_reducible refine aQ (f:=118) rfl ?_);refine bQ (some 67) rfl rfl Try.func118 (by kernel_rfl) rfl #[.string a0,.int .i64 bR] rfl (by (try simp only [List.map_toArray,List.map_cons,List.map_nil]);first | done | rfl | (simp only [List.length_drop,List.length_take];rfl) | (simp only [ByteArray.size_append,Int.natCast_add];rfl) | (rw [B.dQ] <;> first | rfl | omega | (simp only [decide_eq_false_iff_not,decide_eq_true_eq,Int.not_lt,Nat.not_lt,gt_iff_lt] at * <;> omega))) ?_;(with_reducible refine (aU.calls k1 a0 bR t167 t168 FW _ A39.out).mono ?_);rintro e w' ⟨rfl,⟨nd,rfl⟩⟩;refine ⟨_,rfl,?_⟩))
          go_ret2
          exact ⟨by first | rfl | (simp [aJ,aK] <;> rfl) | (simp [*,aJ,aK] <;> rfl),by repeat (first | (with_reducible first | exact HB.out | apply ak | apply ah | apply au | refine aR ?_ kT.out) | exact HB.out)⟩
        ·rw [if_neg EF] at H
         have Un:decide (wJ < kN) = false:=decide_eq_false EF
         clear EF
         by_cases zO:(wrap64 (bR + t164)) = (wrap64 (a1 + a2))
         ·rw [if_pos zO] at H
          have abB:((wrap64 (bR + t164)) == (wrap64 (a1 + a2))) = true:=beq_iff_eq.mpr zO
          have abC:((wrap64 (bR + t164)) != (wrap64 (a1 + a2))) = false:=bne_eq_false_iff_eq.mpr zO
          (try (have abD:(((bR + t164)) == ((a1 + a2))) = true:=by have h_:((wrap64 (bR + t164)) == (wrap64 (a1 + a2))) = true:=beq_iff_eq.mpr zO;rw [B.dQ (by omega) (by omega)] at h_;rw [B.dQ (by omega) (by omega)] at h_;exact h_))
          (try (have abE:(((bR + t164)) != ((a1 + a2))) = false:=by have h_:((wrap64 (bR + t164)) != (wrap64 (a1 + a2))) = false:=bne_eq_false_iff_eq.mpr zO;rw [B.dQ (by omega) (by omega)] at h_;rw [B.dQ (by omega) (by omega)] at h_;exact h_))
          clear zO
          by_cases MN:0 ≤ bR
          ·rw [if_pos MN] at H
           have ah0:=eq_true MN
           have ah1:decide (0 ≤ bR) = true:=decide_eq_true MN
           clear MN
           by_cases c46:bR ≤ (wrap64 (a1 + a2))
           ·rw [if_pos c46] at H
            have ah2:=eq_true c46
            have ah3:decide (bR ≤ (wrap64 (a1 + a2))) = true:=decide_eq_true c46
            by_cases Qr:(wrap64 (a1 + a2)) ≤ (a0.size:Int)
            ·rw [if_pos Qr] at H
             have ah4:=eq_true Qr
             have ah5:decide ((wrap64 (a1 + a2)) ≤ (a0.size:Int)) = true:=decide_eq_true Qr
             by_cases O6:dH.size + (a0.extract (bR:Int).toNat ((wrap64 (a1 + a2)):Int).toNat).size ≤ 9223372036854775807
             ·rw [if_pos O6] at H
              have ah6:=eq_true O6
              have ah7:decide (dH.size + (a0.extract (bR:Int).toNat ((wrap64 (a1 + a2)):Int).toNat).size ≤ 9223372036854775807) = true:=decide_eq_true O6
              try have ah8:(9223372036854775807 < dH.size + (a0.extract (bR:Int).toNat ((wrap64 (a1 + a2)):Int).toNat).size) = False:=eq_false (Nat.not_lt.2 O6)
              by_cases c49:((dH ++ (a0.extract (bR:Int).toNat ((wrap64 (a1 + a2)):Int).toNat)).size:Int) > 65535
              ·rw [if_pos c49] at H
               have abF:decide (65535 < ((dH ++ (a0.extract (bR:Int).toNat ((wrap64 (a1 + a2)):Int).toNat)).size:Int)) = true:=decide_eq_true c49
               have abG:decide (65535 < (dH ++ (a0.extract (bR:Int).toNat ((wrap64 (a1 + a2)):Int).toNat)).size) = true:=decide_eq_true (by omega)
               (try (have abH:decide (65535 < ((dH.size:Int) + ((a0.extract (bR:Int).toNat ((wrap64 (a1 + a2)):Int).toNat).size:Int))) = true:=by have h_:decide (65535 < ((dH ++ (a0.extract (bR:Int).toNat ((wrap64 (a1 + a2)):Int).toNat)).size:Int)) = true:=decide_eq_true c49;rw [show ((dH ++ (a0.extract (bR:Int).toNat ((wrap64 (a1 + a2)):Int).toNat)).size:Int) = ((dH.size:Int) + ((a0.extract (bR:Int).toNat ((wrap64 (a1 + a2)):Int).toNat).size:Int)) from by (simp only [ByteArray.size_append,Int.natCast_add];first | done | rfl)] at h_;(first | exact h_ | (simp only [Int.add_sub_cancel] at h_;exact h_))))
               (try (have abI:decide (65535 < ((dH.size:Int) + ((((wrap64 (a1 + a2)):Int).toNat - (bR:Int).toNat:Nat):Int))) = true:=by have h_:decide (65535 < ((dH ++ (a0.extract (bR:Int).toNat ((wrap64 (a1 + a2)):Int).toNat)).size:Int)) = true:=decide_eq_true c49;rw [show ((dH ++ (a0.extract (bR:Int).toNat ((wrap64 (a1 + a2)):Int).toNat)).size:Int) = ((dH.size:Int) + ((a0.extract (bR:Int).toNat ((wrap64 (a1 + a2)):Int).toNat).size:Int)) from by (simp only [ByteArray.size_append,Int.natCast_add];first | done | rfl)] at h_;rw [show ((a0.extract (bR:Int).toNat ((wrap64 (a1 + a2)):Int).toNat).size:Int) = ((((wrap64 (a1 + a2)):Int).toNat - (bR:Int).toNat:Nat):Int) from by (have h1_:(wrap64 (a1 + a2)) ≤ (a0.size:Int):=of_decide_eq_true (by assumption);rw [ByteArray.size_extract];omega)] at h_;exact h_))
               (try (have abJ:decide (65535 < ((dH ++ (a0.extract (bR:Int).toNat (((a1 + a2)):Int).toNat)).size:Int)) = true:=by have h_:decide (65535 < ((dH ++ (a0.extract (bR:Int).toNat ((wrap64 (a1 + a2)):Int).toNat)).size:Int)) = true:=decide_eq_true c49;rw [B.dQ (by omega) (by omega)] at h_;exact h_))
               (try (have abK:decide (65535 < (dH ++ (a0.extract (bR:Int).toNat (((a1 + a2)):Int).toNat)).size) = true:=by have h_:decide (65535 < (dH ++ (a0.extract (bR:Int).toNat ((wrap64 (a1 + a2)):Int).toNat)).size) = true:=decide_eq_true (by omega);rw [B.dQ (by omega) (by omega)] at h_;exact h_))
               (try (have abL:decide (65535 < ((dH.size:Int) + ((a0.extract (bR:Int).toNat (((a1 + a2)):Int).toNat).size:Int))) = true:=by have h_:decide (65535 < ((dH.size:Int) + ((a0.extract (bR:Int).toNat ((wrap64 (a1 + a2)):Int).toNat).size:Int))) = true:=by have h_:decide (65535 < ((dH ++ (a0.extract (bR:Int).toNat ((wrap64 (a1 + a2)):Int).toNat)).size:Int)) = true:=decide_eq_true c49;rw [show ((dH ++ (a0.extract (bR:Int).toNat ((wrap64 (a1 + a2)):Int).toNat)).size:Int) = ((dH.size:Int) + ((a0.extract (bR:Int).toNat ((wrap64 (a1 + a2)):Int).toNat).size:Int)) from by (simp only [ByteArray.size_append,Int.natCast_add];first | done | rfl)] at h_;(first | exact h_ | (simp only [Int.add_sub_cancel] at h_;exact h_));rw [B.dQ (by omega) (by omega)] at h_;exact h_))
               (try (have abM:decide (65535 < ((dH.size:Int) + (((((a1 + a2)):Int).toNat - (bR:Int).toNat:Nat):Int))) = true:=by have h_:decide (65535 < ((dH.size:Int) + ((((wrap64 (a1 + a2)):Int).toNat - (bR:Int).toNat:Nat):Int))) = true:=by have h_:decide (65535 < ((dH ++ (a0.extract (bR:Int).toNat ((wrap64 (a1 + a2)):Int).toNat)).size:Int)) = true:=decide_eq_true c49;rw [show ((dH ++ (a0.extract (bR:Int).toNat ((wrap64 (a1 + a2)):Int).toNat)).size:Int) = ((dH.size:Int) + ((a0.extract (bR:Int).toNat ((wrap64 (a1 + a2)):Int).toNat).size:Int)) from by (simp only [ByteArray.size_append,Int.natCast_add];first | done | rfl)] at h_;rw [show ((a0.extract (bR:Int).toNat ((wrap64 (a1 + a2)):Int).toNat).size:Int) = ((((wrap64 (a1 + a2)):Int).toNat - (bR:Int).toNat:Nat):Int) from by (have h1_:(wrap64 (a1 + a2)) ≤ (a0.size:Int):=of_decide_eq_true (by assumption);rw [ByteArray.size_extract];omega)] at h_;exact h_;rw [B.dQ (by omega) (by omega)] at h_;exact h_))
               clear c49
               simp only [Option.some.injEq,Prod.mk.injEq] at H
               obtain ⟨rfl,rfl⟩:=H
               have aef:wr.cell? ⟨dN,0,none⟩ = some (.int .i64 t162):=(aM bU.out 0).trans rfl
               have aeg:wr.cell? ⟨dN,1,none⟩ = some (.int .i64 kN):=(aM bU.out 1).trans rfl
               have aeh:wr.cell? ⟨dN,2,none⟩ = some (.int .i64 t164):=(aM bU.out 2).trans rfl
               have aei:=ay bU.out 0
               have aej:=ay bU.out 1
               have aek:=ay bU.out 2
               go_wp2
               go_ret2
               exact ⟨by first | rfl | (simp [aJ,aK] <;> rfl) | (simp [*,aJ,aK] <;> rfl),by repeat (first | (with_reducible first | exact HB.out | apply ak | apply ah | apply au | refine aR ?_ kT.out) | exact HB.out)⟩
              ·rw [if_neg c49] at H
               have abF:decide (65535 < ((dH ++ (a0.extract (bR:Int).toNat ((wrap64 (a1 + a2)):Int).toNat)).size:Int)) = false:=decide_eq_false c49
               have abG:decide (65535 < (dH ++ (a0.extract (bR:Int).toNat ((wrap64 (a1 + a2)):Int).toNat)).size) = false:=decide_eq_false (by omega)
               (try (have abH:decide (65535 < ((dH.size:Int) + ((a0.extract (bR:Int).toNat ((wrap64 (a1 + a2)):Int).toNat).size:Int))) = false:=by have h_:decide (65535 < ((dH ++ (a0.extract (bR:Int).toNat ((wrap64 (a1 + a2)):Int).toNat)).size:Int)) = false:=decide_eq_false c49;rw [show ((dH ++ (a0.extract (bR:Int).toNat ((wrap64 (a1 + a2)):Int).toNat)).size:Int) = ((dH.size:Int) + ((a0.extract (bR:Int).toNat ((wrap64 (a1 + a2)):Int).toNat).size:Int)) from by (simp only [ByteArray.size_append,Int.natCast_add];first | done | rfl)] at h_;(first | exact h_ | (simp only [Int.add_sub_cancel] at h_;exact h_))))
               (try (have abI:decide (65535 < ((dH.size:Int) + ((((wrap64 (a1 + a2)):Int).toNat - (bR:Int).toNat:Nat):Int))) = false:=by have h_:decide (65535 < ((dH ++ (a0.extract (bR:Int).toNat ((wrap64 (a1 + a2)):Int).toNat)).size:Int)) = false:=decide_eq_false c49;rw [show ((dH ++ (a0.extract (bR:Int).toNat ((wrap64 (a1 + a2)):Int).toNat)).size:Int) = ((dH.size:Int) + ((a0.extract (bR:Int).toNat ((wrap64 (a1 + a2)):Int).toNat).size:Int)) from by (simp only [ByteArray.size_append,Int.natCast_add];first | done | rfl)] at h_;rw [show ((a0.extract (bR:Int).toNat ((wrap64 (a1 + a2)):Int).toNat).size:Int) = ((((wrap64 (a1 + a2)):Int).toNat - (bR:Int).toNat:Nat):Int) from by (have h1_:(wrap64 (a1 + a2)) ≤ (a0.size:Int):=of_decide_eq_true (by assumption);rw [ByteArray.size_extract];omega)] at h_;exact h_))
               (try (have abJ:decide (65535 < ((dH ++ (a0.extract (bR:Int).toNat (((a1 + a2)):Int).toNat)).size:Int)) = false:=by have h_:decide (65535 < ((dH ++ (a0.extract (bR:Int).toNat ((wrap64 (a1 + a2)):Int).toNat)).size:Int)) = false:=decide_eq_false c49;rw [B.dQ (by omega) (by omega)] at h_;exact h_))
               (try (have abK:decide (65535 < (dH ++ (a0.extract (bR:Int).toNat (((a1 + a2)):Int).toNat)).size) = false:=by have h_:decide (65535 < (dH ++ (a0.extract (bR:Int).toNat ((wrap64 (a1 + a2)):Int).toNat)).size) = false:=decide_eq_false (by omega);rw [B.dQ (by omega) (by omega)] at h_;exact h_))
               (try (have abL:decide (65535 < ((dH.size:Int) + ((a0.extract (bR:Int).toNat (((a1 + a2)):Int).toNat).size:Int))) = false:=by have h_:decide (65535 < ((dH.size:Int) + ((a0.extract (bR:Int).toNat ((wrap64 (a1 + a2)):Int).toNat).size:Int))) = false:=by have h_:decide (65535 < ((dH ++ (a0.extract (bR:Int).toNat ((wrap64 (a1 + a2)):Int).toNat)).size:Int)) = false:=decide_eq_false c49;rw [show ((dH ++ (a0.extract (bR:Int).toNat ((wrap64 (a1 + a2)):Int).toNat)).size:Int) = ((dH.size:Int) + ((a0.extract (bR:Int).toNat ((wrap64 (a1 + a2)):Int).toNat).size:Int)) from by (simp only [ByteArray.size_append,Int.natCast_add];first | done | rfl)] at h_;(first | exact h_ | (simp only [Int.add_sub_cancel] at h_;exact h_));rw [B.dQ (by omega) (by omega)] at h_;exact h_))
               (try (have abM:decide (65535 < ((dH.size:Int) + (((((a1 + a2)):Int).toNat - (bR:Int).toNat:Nat):Int))) = false:=by have h_:decide (65535 < ((dH.size:Int) + ((((wrap64 (a1 + a2)):Int).toNat - (bR:Int).toNat:Nat):Int))) = false:=by have h_:decide (65535 < ((dH ++ (a0.extract (bR:Int).toNat ((wrap64 (a1 + a2)):Int).toNat)).size:Int)) = false:=decide_eq_false c49;rw [show ((dH ++ (a0.extract (bR:Int).toNat ((wrap64 (a1 + a2)):Int).toNat)).size:Int) = ((dH.size:Int) + ((a0.extract (bR:Int).toNat ((wrap64 (a1 + a2)):Int).toNat).size:Int)) from by (simp only [ByteArray.size_append,Int.natCast_add];first | done | rfl)] at h_;rw [show ((a0.extract (bR:Int).toNat ((wrap64 (a1 + a2)):Int).toNat).size:Int) = ((((wrap64 (a1 + a2)):Int).toNat - (bR:Int).toNat:Nat):Int) from by (have h1_:(wrap64 (a1 + a2)) ≤ (a0.size:Int):=of_decide_eq_true (by assumption);rw [ByteArray.size_extract];omega)] at h_;exact h_;rw [B.dQ (by omega) (by omega)] at h_;exact h_))
               clear c49
               simp only [Option.some.injEq,Prod.mk.injEq] at H
               obtain ⟨rfl,rfl⟩:=H
               have ael:wr.cell? ⟨dN,0,none⟩ = some (.int .i64 t162):=(aM bU.out 0).trans rfl
               have aem:wr.cell? ⟨dN,1,none⟩ = some (.int .i64 kN):=(aM bU.out 1).trans rfl
               have aen:wr.cell? ⟨dN,2,none⟩ = some (.int .i64 t164):=(aM bU.out 2).trans rfl
               have aeo:=ay bU.out 0
               have aep:=ay bU.out 1
               have aer:=ay bU.out 2
               go_wp2
               go_ret2
               exact ⟨by first | rfl | (simp [aJ,aK] <;> rfl) | (simp [*,aJ,aK] <;> rfl),by repeat (first | (with_reducible first | exact HB.out | apply ak | apply ah | apply au | refine aR ?_ kT.out) | exact HB.out)⟩
             ·rw [if_neg O6] at H
              exact absurd H (by simp)
            ·rw [if_neg Qr] at H
             exact absurd H (by simp)
           ·rw [if_neg c46] at H
            exact absurd H (by simp)
          ·rw [if_neg MN] at H
           exact absurd H (by simp)
         ·rw [if_neg zO] at H
          have abB:((wrap64 (bR + t164)) == (wrap64 (a1 + a2))) = false:=beq_eq_false_iff_ne.mpr zO
          have abC:((wrap64 (bR + t164)) != (wrap64 (a1 + a2))) = true:=bne_iff_ne.mpr zO
          (try (have abD:(((bR + t164)) == ((a1 + a2))) = false:=by have h_:((wrap64 (bR + t164)) == (wrap64 (a1 + a2))) = false:=beq_eq_false_iff_ne.mpr zO;rw [B.dQ (by omega) (by omega)] at h_;rw [B.dQ (by omega) (by omega)] at h_;exact h_))
          (try (have abE:(((bR + t164)) != ((a1 + a2))) = true:=by have h_:((wrap64 (bR + t164)) != (wrap64 (a1 + a2))) = true:=bne_iff_ne.mpr zO;rw [B.dQ (by omega) (by omega)] at h_;rw [B.dQ (by omega) (by omega)] at h_;exact h_))
          simp only [Option.some.injEq,Prod.mk.injEq] at H
          obtain ⟨rfl,rfl⟩:=H
          have aes:wr.cell? ⟨dN,0,none⟩ = some (.int .i64 t162):=(aM bU.out 0).trans rfl
          have aeu:wr.cell? ⟨dN,1,none⟩ = some (.int .i64 kN):=(aM bU.out 1).trans rfl
          have aev:wr.cell? ⟨dN,2,none⟩ = some (.int .i64 t164):=(aM bU.out 2).trans rfl
          have aew:=ay bU.out 0
          have aex:=ay bU.out 1
          have aey:=ay bU.out 2
          go_wp2
          go_ret2
          exact ⟨by first | rfl | (simp [aJ,aK] <;> rfl) | (simp [*,aJ,aK] <;> rfl),by repeat (first | (with_reducible first | exact HB.out | apply ak | apply ah | apply au | refine aR ?_ kT.out) | exact HB.out)⟩
     ·rw [if_neg c34] at H
      exact absurd H (by simp)
    ·rw [if_neg Qm] at H
     exact absurd H (by simp)
 ·replace c6:=Bool.eq_false_iff.mpr c6
  subst c6
  have H1:(some ((⟨#[]⟩:ByteArray),2)) = some (r1,r2):=by rw [if_neg (show ¬ (false = true) by decide)] at H;exact H
  clear H
  have H:=H1
  clear H1
  simp only [Option.some.injEq,Prod.mk.injEq] at H
  obtain ⟨rfl,rfl⟩:=H
  go_enter Try.func104,Try.ntmps104
  go_wp2_with (first | ((with_reducible refine aQ (f:=99) rfl ?_);refine bQ (some 23) rfl rfl Try.func99 (by kernel_rfl) rfl #[.string a0,.int .i64 a1,.int .i64 a2] rfl (by (try simp only [List.map_toArray,List.map_cons,List.map_nil]);first | done | rfl | (simp only [List.length_drop,List.length_take];rfl) | (simp only [ByteArray.size_append,Int.natCast_add];rfl) | (rw [B.dQ] <;> first | rfl | omega | (simp only [decide_eq_false_iff_not,decide_eq_true_eq,Int.not_lt,Nat.not_lt,gt_iff_lt] at * <;> omega))) ?_;(with_reducible refine (bC.calls a0 a1 a2 t160 false _ A5.out).mono ?_);rintro e w' ⟨rfl,⟨nd,rfl⟩⟩;refine ⟨_,rfl,?_⟩))
  go_ret2
  exact ⟨by first | rfl | (simp [aJ,aK] <;> rfl) | (simp [*,aJ,aK] <;> rfl),by repeat (first | (with_reducible first | exact HB.out | apply ak | apply ah | apply au) | exact HB.out)⟩
def bS.f (k:Nat) (a0:Int) (a1:ByteArray):Option (Bool):=if (a1.size:Int) > 65535 then (some false) else ((aX.f k a1 0 (a1.size:Int) a0).bind fun FX=>(if FX.2 = 0 then (some (FX.1.toList == a1.toList)) else (some false)))
set_option maxHeartbeats 8000000 in
set_option maxRecDepth 100000 in
theorem bS.calls (k:Nat) (a0:Int) (a1:ByteArray) (r:Bool) (w:World) (h:bS.f k a0 a1 = some r) :
  Calls Try.prog 83 #[.int .i64 a0,.string a1] w fun e w'=>e = .returned (.bool r) ∧ Below w.heap.size w w':=by
 have HB:=aj.mk (Below.refl w.heap.size w)
 have H:(if (a1.size:Int) > 65535 then (some false) else ((aX.f k a1 0 (a1.size:Int) a0).bind fun FX=>(if FX.2 = 0 then (some (FX.1.toList == a1.toList)) else (some false)))) = some r:=h
 clear h
 by_cases c3:(a1.size:Int) > 65535
 ·rw [if_pos c3] at H
  have qX:decide (65535 < (a1.size:Int)) = true:=decide_eq_true c3
  have Dm:decide (65535 < a1.size) = true:=decide_eq_true (by omega)
  clear c3
  obtain rfl:=Option.some.inj H
  go_enter Try.func83,Try.ntmps83
  go_wp2
  go_ret
  exact ⟨by first | rfl | (simp [aJ,aK] <;> rfl) | (simp [*,aJ,aK] <;> rfl),by repeat (first | (with_reducible first | exact HB.out | apply ak | apply ah | apply au) | exact HB.out)⟩
 ·rw [if_neg c3] at H
  have qX:decide (65535 < (a1.size:Int)) = false:=decide_eq_false c3
  have Dm:decide (65535 < a1.size) = false:=decide_eq_false (by omega)
  clear c3
  replace H:=zbm H
  obtain ⟨⟨WZ,t171⟩,FJ,H⟩:=H
  replace H:(if t171 = 0 then (some (WZ.toList == a1.toList)) else (some false)) = some r:=H
  have A4:=aj.mk FJ
  clear FJ
  by_cases c5:t171 = 0
  ·rw [if_pos c5] at H
   have qc:(t171 == 0) = true:=beq_iff_eq.mpr c5
   have vT:(t171 != 0) = false:=bne_eq_false_iff_eq.mpr c5
   clear c5
   obtain rfl:=Option.some.inj H
   go_enter Try.func83,Try.ntmps83
   go_wp2_with (first | ((with_reducible refine aQ (f:=104) rfl ?_);refine bQ (some 15) rfl rfl Try.func104 (by kernel_rfl) rfl #[.string a1,.int .i64 0,.int .i64 (a1.size:Int),.int .i64 a0] rfl (by (try simp only [List.map_toArray,List.map_cons,List.map_nil]);first | done | rfl | (simp only [List.length_drop,List.length_take];rfl) | (simp only [ByteArray.size_append,Int.natCast_add];rfl) | (rw [B.dQ] <;> first | rfl | omega | (simp only [decide_eq_false_iff_not,decide_eq_true_eq,Int.not_lt,Nat.not_lt,gt_iff_lt] at * <;> omega))) ?_;(with_reducible refine (aX.calls k a1 0 (a1.size:Int) a0 WZ t171 _ A4.out).mono ?_);rintro e w6 ⟨rfl,hb⟩;refine ⟨_,rfl,?_⟩;have d9:=aj.mk (bE (by repeat (first | (with_reducible first | exact HB.out | apply ak | apply ah | apply au) | exact HB.out)) hb);clear HB;have HB:=d9;clear d9;(try clear hb);(try clear hb2);(try clear hk);(try clear hi)))
   go_ret
   exact ⟨by first | rfl | (simp [aJ,aK] <;> rfl) | (simp [*,aJ,aK] <;> rfl),by repeat (first | (with_reducible first | exact HB.out | apply ak | apply ah | apply au) | exact HB.out)⟩
  ·rw [if_neg c5] at H
   have qc:(t171 == 0) = false:=beq_eq_false_iff_ne.mpr c5
   have vT:(t171 != 0) = true:=bne_iff_ne.mpr c5
   obtain rfl:=Option.some.inj H
   go_enter Try.func83,Try.ntmps83
   go_wp2_with (first | ((with_reducible refine aQ (f:=104) rfl ?_);refine bQ (some 15) rfl rfl Try.func104 (by kernel_rfl) rfl #[.string a1,.int .i64 0,.int .i64 (a1.size:Int),.int .i64 a0] rfl (by (try simp only [List.map_toArray,List.map_cons,List.map_nil]);first | done | rfl | (simp only [List.length_drop,List.length_take];rfl) | (simp only [ByteArray.size_append,Int.natCast_add];rfl) | (rw [B.dQ] <;> first | rfl | omega | (simp only [decide_eq_false_iff_not,decide_eq_true_eq,Int.not_lt,Nat.not_lt,gt_iff_lt] at * <;> omega))) ?_;(with_reducible refine (aX.calls k a1 0 (a1.size:Int) a0 WZ t171 _ A4.out).mono ?_);rintro e w7 ⟨rfl,hb⟩;refine ⟨_,rfl,?_⟩;have d9:=aj.mk (bE (by repeat (first | (with_reducible first | exact HB.out | apply ak | apply ah | apply au) | exact HB.out)) hb);clear HB;have HB:=d9;clear d9;(try clear hb);(try clear hb2);(try clear hk);(try clear hi)))
   go_ret
   exact ⟨by first | rfl | (simp [aJ,aK] <;> rfl) | (simp [*,aJ,aK] <;> rfl),by repeat (first | (with_reducible first | exact HB.out | apply ak | apply ah | apply au) | exact HB.out)⟩
def bg.l0 : Nat → ByteArray → List ByteArray → Int → Int → Int → Int → Int → Option (List ByteArray)
 | 0,_,_,_,_,_,_,_=>none
 | k + 1,x1,x5,x7,x8,Sr,JF,Sv=>if x8 < JF then ((aU.f k x1 x7).bind fun Ur=>(if x5.length < 8796093022208 then (bg.l0 k x1 (x5 ++ [Ur.1]) Ur.2.1 (wrap64 (x8 + 1)) Sr JF Sv) else (none))) else (some x5)
def bg.f (k:Nat) (a0:Int) (a1:ByteArray):Option (List ByteArray):=(bS.f k a0 a1).bind fun KY=>(if KY = true then ((aH.f k a0).bind fun kP=>(bg.l0 k a1 ([]:List ByteArray) kP.1 0 kP.1 kP.2.1 kP.2.2)) else (some ([]:List ByteArray)))
set_option maxHeartbeats 8000000 in
set_option maxRecDepth 100000 in
theorem bg.calls (k:Nat) (a0:Int) (a1:ByteArray) (r:List ByteArray) (w:World) (h:bg.f k a0 a1 = some r) :
  Calls Try.prog 105 #[.int .i64 a0,.string a1] w fun e w'=>∃ Ud:Value,e = .returned (Ud) ∧ Kd.R Kd.string 9 w' w.heap.size (fun _=>True) Ud r ∧ Below w.heap.size w w':=by
 have OB:=Try.underlying142
 have HB:=aj.mk (Below.refl w.heap.size w)
 have H:((bS.f k a0 a1).bind fun KY=>(if KY = true then ((aH.f k a0).bind fun kP=>(bg.l0 k a1 ([]:List ByteArray) kP.1 0 kP.1 kP.2.1 kP.2.2)) else (some ([]:List ByteArray)))) = some r:=h
 clear h
 replace H:=zbm H
 obtain ⟨KY,Uh,H⟩:=H
 replace H:(if KY = true then ((aH.f k a0).bind fun kP=>(bg.l0 k a1 ([]:List ByteArray) kP.1 0 kP.1 kP.2.1 kP.2.2)) else (some ([]:List ByteArray))) = some r:=H
 have A3:=aj.mk Uh
 clear Uh
 by_cases c4:KY = true
 ·subst c4
  have H1:((aH.f k a0).bind fun kP=>(bg.l0 k a1 ([]:List ByteArray) kP.1 0 kP.1 kP.2.1 kP.2.2)) = some r:=by rw [if_pos rfl] at H;exact H
  clear H
  have H:=H1
  clear H1
  replace H:=zbm H
  obtain ⟨⟨t173,vU,t175⟩,Uo,H⟩:=H
  replace H:(bg.l0 k a1 ([]:List ByteArray) t173 0 t173 vU t175) = some r:=H
  have A5:=aj.mk Uo
  clear Uo
  have H':=aj.mk H
  clear H
  go_enter Try.func105,Try.ntmps105
  go_wp2_with (first | ((with_reducible refine aQ (f:=83) rfl ?_);refine bQ (some 14) rfl rfl Try.func83 (by kernel_rfl) rfl #[.int .i64 a0,.string a1] rfl (by (try simp only [List.map_toArray,List.map_cons,List.map_nil]);first | done | rfl | (simp only [List.length_drop,List.length_take];rfl) | (simp only [ByteArray.size_append,Int.natCast_add];rfl) | (rw [B.dQ] <;> first | rfl | omega | (simp only [decide_eq_false_iff_not,decide_eq_true_eq,Int.not_lt,Nat.not_lt,gt_iff_lt] at * <;> omega))) ?_;(with_reducible refine (bS.calls k a0 a1 true _ A3.out).mono ?_);rintro e w6 ⟨rfl,hb⟩;refine ⟨_,rfl,?_⟩;have d9:=aj.mk (bE (by repeat (first | (with_reducible first | exact HB.out | apply ak | apply ah | apply au) | exact HB.out)) hb);clear HB;have HB:=d9;clear d9;(try clear hb);(try clear hb2);(try clear hk);(try clear hi)) | ((with_reducible refine aQ (f:=106) rfl ?_);refine bQ (some 17) rfl rfl Try.func106 (by kernel_rfl) rfl #[.int .i64 a0] rfl (by (try simp only [List.map_toArray,List.map_cons,List.map_nil]);first | done | rfl | (simp only [List.length_drop,List.length_take];rfl) | (simp only [ByteArray.size_append,Int.natCast_add];rfl) | (rw [B.dQ] <;> first | rfl | omega | (simp only [decide_eq_false_iff_not,decide_eq_true_eq,Int.not_lt,Nat.not_lt,gt_iff_lt] at * <;> omega))) ?_;(with_reducible refine (aH.calls k a0 t173 vU t175 _ A5.out).mono ?_);rintro e w7 ⟨rfl,hb⟩;refine ⟨_,rfl,?_⟩;have d9:=aj.mk (bE (by repeat (first | (with_reducible first | exact HB.out | apply ak | apply ah | apply au) | exact HB.out)) hb);clear HB;have HB:=d9;clear d9;(try clear hb);(try clear hb2);(try clear hk);(try clear hi)) | ((with_reducible refine gK (N:=6) rfl ?_);refine fV ?hg (N:=6) ?hd (cs:=#[.int .i64 0,.int .i64 0,.int .i64 0]) (t:=142) ?hr ?_;(case hd=>rfl);(case hg=>rfl);(case hr=>first | (go_simp;done) | (go_simp;rfl));intro nV hg w8 gX hb;have d9:=aj.mk (bE (by repeat (first | (with_reducible first | exact HB.out | apply ak | apply ah | apply au) | exact HB.out)) hb);have ig:=aj.mk (gX);have jh:=aj.mk ((by rw [hg];exact (bL (by repeat (first | (with_reducible first | exact HB.out | apply ak | apply ah | apply au) | exact HB.out))):w.heap.size ≤ nV));have jL:=aj.mk ((by rw [hg];exact (bL (by repeat (first | (with_reducible first | exact HB.out | apply ak | apply ah | apply au) | exact HB.out))):w.heap.size ≤ nV));clear HB;have HB:=d9;have iY:=ig;have ah9:=jh;have FY:=jL;clear d9 ig jh jL;clear hb gX hg;have OC:w8.cell? ⟨nV,0,none⟩ = some (.int .i64 0):=(aM iY.out 0).trans rfl;have OD:w8.cell? ⟨nV,1,none⟩ = some (.int .i64 0):=(aM iY.out 1).trans rfl;have OE:w8.cell? ⟨nV,2,none⟩ = some (.int .i64 0):=(aM iY.out 2).trans rfl;have OG:=ay iY.out 0;have OH:=ay iY.out 1;have OI:=ay iY.out 2))
  go_loopg [5,7,8] k (fun kq v5 v7 v8 w'=>∃ (FZ:List ByteArray) (dK:Int) (gL:Int),v7 = .int .i64 dK ∧ v8 = .int .i64 gL ∧ aj (bg.l0 kq a1 FZ dK gL t173 vU t175 = some r) ∧ aj (kq ≤ k) ∧ aj (Kd.R Kd.string 9 w' w.heap.size (fun _=>True) v5 FZ) ∧ aj (w'.heap[nV]? = some (.cells #[.int .i64 t173,.int .i64 vU,.int .i64 t175] 142 (0,0))) ∧ aj (Below w.heap.size w w'))
  case atStart=>exact ⟨(([]:List ByteArray)),(t173),(0),(by first | rfl | (simp;done) | (simp [*];done) | (simp [B.aV];done) | (simp [B.aW];done)),(by first | rfl | (simp;done) | (simp [*];done) | (simp [B.aV];done) | (simp [B.aW];done)),H',⟨Nat.le_refl _⟩,⟨by first | exact Kd.jF _ _ _ _ _ | exact Kd.lI _ _ _ _ _ | exact Kd.lJ _ _ _ _ _ | exact Kd.lG _ _ _ _ _ | exact Kd.lH _ _ _ _ _⟩,⟨by (with_reducible repeat (first | refine aG ?_ _ | refine aI ?_ | refine aA ?_ _));refine bV (cs:=#[.int .i64 t173,.int .i64 vU,.int .i64 0]) ?_ 2 _ rfl;(with_reducible repeat (first | refine aG ?_ _ | refine aI ?_ | refine aA ?_ _));refine bV (cs:=#[.int .i64 t173,.int .i64 0,.int .i64 0]) ?_ 1 _ rfl;(with_reducible repeat (first | refine aG ?_ _ | refine aI ?_ | refine aA ?_ _));refine bV (cs:=#[.int .i64 0,.int .i64 0,.int .i64 0]) ?_ 0 _ rfl;(with_reducible repeat (first | refine aG ?_ _ | refine aI ?_ | refine aA ?_ _));exact iY.out⟩,⟨by repeat (first | (with_reducible first | exact HB.out | apply ak | apply ah | apply au | refine aR ?_ FY.out) | exact HB.out)⟩⟩
  case round =>
   clear H'
   try clear c1
   try clear p2
   try clear c4
   try clear c8
   try clear OC
   try clear OD
   try clear OE
   try clear OG
   try clear OH
   try clear OI
   obtain ⟨FZ,dK,gL,rfl,rfl,HA,uM,vV,iY,HB⟩:=hrel
   cases gk with
   | zero=>exact absurd HA.out (by simp [bg.l0])
   | succ k1 =>
    have H:=HA.out
    clear HA
    simp only [bg.l0] at H
    by_cases c10:gL < vU
    ·rw [if_pos c10] at H
     have rJ:decide (gL < vU) = true:=decide_eq_true c10
     clear c10
     replace H:=zbm H
     obtain ⟨⟨OM,Sw,af9⟩,abN,H⟩:=H
     replace H:(if FZ.length < 8796093022208 then (bg.l0 k1 a1 (FZ ++ [OM]) Sw (wrap64 (gL + 1)) t173 vU t175) else (none)) = some r:=H
     have A11:=aj.mk abN
     clear abN
     by_cases c12:FZ.length < 8796093022208
     ·rw [if_pos c12] at H
      have abO:=aj.mk c12
      clear c12
      obtain ⟨abP,F5⟩:∃ y_:List ByteArray,y_ = (FZ ++ [OM]):=⟨_,rfl⟩
      replace H:(bg.l0 k1 a1 abP Sw (wrap64 (gL + 1)) t173 vU t175) = some r:=by first | (rw [F5];with_reducible exact H) | (have Hg:=(Option.bind_some _ _).symm.trans H;rw [F5];with_reducible exact Hg) | (have Hg:=(Option.bind_some _ _).symm.trans H;with_reducible exact Hg) | with_reducible exact H | (rw [F5];exact H) | exact H
      have abQ:=aj.mk F5
      clear F5
      have H':=aj.mk H
      clear H
      have Du:wr.cell? ⟨nV,0,none⟩ = some (.int .i64 t173):=(aM iY.out 0).trans rfl
      have Dv:wr.cell? ⟨nV,1,none⟩ = some (.int .i64 vU):=(aM iY.out 1).trans rfl
      have Dw:wr.cell? ⟨nV,2,none⟩ = some (.int .i64 t175):=(aM iY.out 2).trans rfl
      have Dx:=ay iY.out 0
      have Dy:=ay iY.out 1
      have Dz:=ay iY.out 2
      go_wp2_with (first | ((with_reducible refine aQ (f:=118) rfl ?_);refine bQ (some 29) rfl rfl Try.func118 (by kernel_rfl) rfl #[.string a1,.int .i64 dK] rfl (by (try simp only [List.map_toArray,List.map_cons,List.map_nil]);first | done | rfl | (simp only [List.length_drop,List.length_take];rfl) | (simp only [ByteArray.size_append,Int.natCast_add];rfl) | (rw [B.dQ] <;> first | rfl | omega | (simp only [decide_eq_false_iff_not,decide_eq_true_eq,Int.not_lt,Nat.not_lt,gt_iff_lt] at * <;> omega))) ?_;(with_reducible refine (aU.calls k1 a1 dK OM Sw af9 _ A11.out).mono ?_);rintro e w' ⟨rfl,⟨nd,rfl⟩⟩;refine ⟨_,rfl,?_⟩) | ((with_reducible refine oD (b:=.append) (xs:=#[.tmp 33,.tmp 35]) rfl ?_);at_builtin;refine Kd.y8 Kd.string (w0:=w) w.heap.size rfl (.tmp 33) (.tmp 35) 33 9 (.string ⟨#[]⟩) 16 rfl Try.underlying33 Jd rfl (by decide) (by omega) u5 FZ OM [.string OM] (fun _=>True) (fun _=>False) rfl rfl ?aP (fun _ hk=>hk.elim) ?aF ?aO ?aB ?aS ?aL ?_;(case aP=>exact rfl);(case aB=>exact (by repeat (first | (with_reducible first | exact HB.out | apply ak | apply ah | apply au | refine aR ?_ FY.out) | exact HB.out)));(case aF=>exact (fun _ _=>trivial));(case aO=>exact (by (with_reducible repeat (first | apply Kd.fA | apply Kd.fK | apply Kd.fZ));exact vV.out));(case aS=>exact (bL (by repeat (first | (with_reducible first | exact HB.out | apply ak | apply ah | apply au | refine aR ?_ FY.out) | exact HB.out))));(case aL=>have:=abO.out;omega);intro aiA w14 ho hb hg hat;rw [← abQ.out] at ho;have d9:=aj.mk (qD (g:=nV) (o:=.cells #[.int .i64 t173,.int .i64 vU,.int .i64 t175] 142 (0,0)) (by (with_reducible repeat (first | refine aG ?_ _ | refine aI ?_ | refine aA ?_ _));exact iY.out) hg (Kd.Q6 vV.out iY.out (by decide)));have ig:=aj.mk (hb);have jh:=aj.mk (ho);clear iY;clear HB;clear vV;have iY:=d9;have HB:=ig;have abR:=jh;clear d9 ig jh;clear ho hb hg hat))
      go_roundg k1
      case measure=>have:=uM.out;omega
      case rel=>exact ⟨(abP),(Sw),(wrap64 (gL + 1)),(by first | rfl | (simp;done) | (simp [*];done) | (simp [B.aV];done) | (simp [B.aW];done)),(by first | rfl | (simp;done) | (simp [*];done) | (simp [B.aV];done) | (simp [B.aW];done)),H',⟨by have:=uM.out;omega⟩,⟨by (with_reducible repeat (first | apply Kd.fA | apply Kd.fK | apply Kd.fZ));exact abR.out⟩,⟨by (with_reducible repeat (first | refine aG ?_ _ | refine aI ?_ | refine aA ?_ _));exact iY.out⟩,⟨by repeat (first | (with_reducible first | exact HB.out | apply ak | apply ah | apply au | refine aR ?_ FY.out) | exact HB.out)⟩⟩
     ·rw [if_neg c12] at H
      exact absurd H (by simp)
    ·rw [if_neg c10] at H
     have rJ:decide (gL < vU) = false:=decide_eq_false c10
     clear c10
     obtain rfl:=Option.some.inj H
     have DC:wr.cell? ⟨nV,0,none⟩ = some (.int .i64 t173):=(aM iY.out 0).trans rfl
     have DF:wr.cell? ⟨nV,1,none⟩ = some (.int .i64 vU):=(aM iY.out 1).trans rfl
     have DI:wr.cell? ⟨nV,2,none⟩ = some (.int .i64 t175):=(aM iY.out 2).trans rfl
     have DJ:=ay iY.out 0
     have DK:=ay iY.out 1
     have DL:=ay iY.out 2
     go_wp2
     go_ret
     exact ⟨_,by first | rfl | (simp [aJ,aK] <;> rfl) | (simp [*,aJ,aK] <;> rfl),by (with_reducible repeat (first | apply Kd.fA | apply Kd.fK | apply Kd.fZ));exact vV.out,by repeat (first | (with_reducible first | exact HB.out | apply ak | apply ah | apply au | refine aR ?_ FY.out) | exact HB.out)⟩
 ·replace c4:=Bool.eq_false_iff.mpr c4
  subst c4
  have H1:(some ([]:List ByteArray)) = some r:=by rw [if_neg (show ¬ (false = true) by decide)] at H;exact H
  clear H
  have H:=H1
  clear H1
  obtain rfl:=Option.some.inj H
  go_enter Try.func105,Try.ntmps105
  go_wp2_with (first | ((with_reducible refine aQ (f:=83) rfl ?_);refine bQ (some 14) rfl rfl Try.func83 (by kernel_rfl) rfl #[.int .i64 a0,.string a1] rfl (by (try simp only [List.map_toArray,List.map_cons,List.map_nil]);first | done | rfl | (simp only [List.length_drop,List.length_take];rfl) | (simp only [ByteArray.size_append,Int.natCast_add];rfl) | (rw [B.dQ] <;> first | rfl | omega | (simp only [decide_eq_false_iff_not,decide_eq_true_eq,Int.not_lt,Nat.not_lt,gt_iff_lt] at * <;> omega))) ?_;(with_reducible refine (bS.calls k a0 a1 false _ A3.out).mono ?_);rintro e w16 ⟨rfl,hb⟩;refine ⟨_,rfl,?_⟩;have d9:=aj.mk (bE (by repeat (first | (with_reducible first | exact HB.out | apply ak | apply ah | apply au) | exact HB.out)) hb);clear HB;have HB:=d9;clear d9;(try clear hb);(try clear hb2);(try clear hk);(try clear hi)))
  go_ret
  exact ⟨_,by first | rfl | (simp [aJ,aK] <;> rfl) | (simp [*,aJ,aK] <;> rfl),by first | exact Kd.jF _ _ _ _ _ | exact Kd.lI _ _ _ _ _ | exact Kd.lJ _ _ _ _ _ | exact Kd.lG _ _ _ _ _ | exact Kd.lH _ _ _ _ _,by repeat (first | (with_reducible first | exact HB.out | apply ak | apply ah | apply au) | exact HB.out)⟩
def bI.l0 : Nat → ByteArray → List ByteArray → ByteArray → Int → Int → Option (ByteArray)
 | 0,_,_,_,_,_=>none
 | k + 1,x1,x5,x7,x8,x9=>if x9 < (x5.length:Int) then (if 0 ≤ x9 then ((fD.f k (pV ByteArray.empty x5 x9)).bind fun Ak=>(if x7.size + Ak.size ≤ 9223372036854775807 then (bI.l0 k x1 x5 (x7 ++ Ak) (wrap64 (x8 + ((pV ByteArray.empty x5 x9).size:Int))) (wrap64 (x9 + 1))) else (none))) else (none)) else (if 0 ≤ x8 then (if x8 ≤ (x1.size:Int) then (if x7.size + (x1.extract (x8:Int).toNat x1.size).size ≤ 9223372036854775807 then (some (x7 ++ (x1.extract (x8:Int).toNat x1.size))) else (none)) else (none)) else (none))
def bI.f (k:Nat) (a0:Int) (a1:ByteArray):Option (ByteArray):=(bS.f k a0 a1).bind fun t183=>(if t183 = true then ((bg.f k a0 a1).bind fun mW=>((aH.f k a0).bind fun jg=>(if 0 ≤ jg.1 then (if jg.1 ≤ (a1.size:Int) then (bI.l0 k a1 mW (a1.extract 0 (jg.1:Int).toNat) jg.1 0) else (none)) else (none)))) else (some (⟨#[]⟩:ByteArray)))
set_option maxHeartbeats 8000000 in
set_option maxRecDepth 100000 in
theorem bI.calls (k:Nat) (a0:Int) (a1:ByteArray) (r:ByteArray) (w:World) (h:bI.f k a0 a1 = some r) :
  Calls Try.prog 84 #[.int .i64 a0,.string a1] w fun e w'=>e = .returned (.string r) ∧ Below w.heap.size w w':=by
 have OB:=Try.underlying142
 have HB:=aj.mk (Below.refl w.heap.size w)
 have H:((bS.f k a0 a1).bind fun t183=>(if t183 = true then ((bg.f k a0 a1).bind fun mW=>((aH.f k a0).bind fun jg=>(if 0 ≤ jg.1 then (if jg.1 ≤ (a1.size:Int) then (bI.l0 k a1 mW (a1.extract 0 (jg.1:Int).toNat) jg.1 0) else (none)) else (none)))) else (some (⟨#[]⟩:ByteArray)))) = some r:=h
 clear h
 replace H:=zbm H
 obtain ⟨t183,Uh,H⟩:=H
 replace H:(if t183 = true then ((bg.f k a0 a1).bind fun mW=>((aH.f k a0).bind fun jg=>(if 0 ≤ jg.1 then (if jg.1 ≤ (a1.size:Int) then (bI.l0 k a1 mW (a1.extract 0 (jg.1:Int).toNat) jg.1 0) else (none)) else (none)))) else (some (⟨#[]⟩:ByteArray))) = some r:=H
 have A3:=aj.mk Uh
 clear Uh
 by_cases c4:t183 = true
 ·subst c4
  have H1:((bg.f k a0 a1).bind fun mW=>((aH.f k a0).bind fun jg=>(if 0 ≤ jg.1 then (if jg.1 ≤ (a1.size:Int) then (bI.l0 k a1 mW (a1.extract 0 (jg.1:Int).toNat) jg.1 0) else (none)) else (none)))) = some r:=by rw [if_pos rfl] at H;exact H
  clear H
  have H:=H1
  clear H1
  replace H:=zbm H
  obtain ⟨mW,Uo,H⟩:=H
  replace H:((aH.f k a0).bind fun jg=>(if 0 ≤ jg.1 then (if jg.1 ≤ (a1.size:Int) then (bI.l0 k a1 mW (a1.extract 0 (jg.1:Int).toNat) jg.1 0) else (none)) else (none))) = some r:=H
  have A5:=aj.mk Uo
  clear Uo
  replace H:=zbm H
  obtain ⟨⟨q8,OO,Sy⟩,A60,H⟩:=H
  replace H:(if 0 ≤ q8 then (if q8 ≤ (a1.size:Int) then (bI.l0 k a1 mW (a1.extract 0 (q8:Int).toNat) q8 0) else (none)) else (none)) = some r:=H
  have A6:=aj.mk A60
  clear A60
  by_cases c7:0 ≤ q8
  ·rw [if_pos c7] at H
   have uT:=eq_true c7
   have KO:decide (0 ≤ q8) = true:=decide_eq_true c7
   clear c7
   by_cases c8:q8 ≤ (a1.size:Int)
   ·rw [if_pos c8] at H
    have su:=eq_true c8
    have sw:decide (q8 ≤ (a1.size:Int)) = true:=decide_eq_true c8
    clear c8
    have H':=aj.mk H
    clear H
    go_enter Try.func84,Try.ntmps84
    go_wp2_with (first | ((with_reducible refine aQ (f:=83) rfl ?_);refine bQ (some 12) rfl rfl Try.func83 (by kernel_rfl) rfl #[.int .i64 a0,.string a1] rfl (by (try simp only [List.map_toArray,List.map_cons,List.map_nil]);first | done | rfl | (simp only [List.length_drop,List.length_take];rfl) | (simp only [ByteArray.size_append,Int.natCast_add];rfl) | (rw [B.dQ] <;> first | rfl | omega | (simp only [decide_eq_false_iff_not,decide_eq_true_eq,Int.not_lt,Nat.not_lt,gt_iff_lt] at * <;> omega))) ?_;(with_reducible refine (bS.calls k a0 a1 true _ A3.out).mono ?_);rintro e w9 ⟨rfl,hb⟩;refine ⟨_,rfl,?_⟩;have d9:=aj.mk (bE (by repeat (first | (with_reducible first | exact HB.out | apply ak | apply ah | apply au) | exact HB.out)) hb);clear HB;have HB:=d9;clear d9;(try clear hb);(try clear hb2);(try clear hk);(try clear hi)) | ((with_reducible refine aQ (f:=105) rfl ?_);refine bQ (some 16) rfl rfl Try.func105 (by kernel_rfl) rfl #[.int .i64 a0,.string a1] rfl (by (try simp only [List.map_toArray,List.map_cons,List.map_nil]);first | done | rfl | (simp only [List.length_drop,List.length_take];rfl) | (simp only [ByteArray.size_append,Int.natCast_add];rfl) | (rw [B.dQ] <;> first | rfl | omega | (simp only [decide_eq_false_iff_not,decide_eq_true_eq,Int.not_lt,Nat.not_lt,gt_iff_lt] at * <;> omega))) ?_;(with_reducible refine (bg.calls k a0 a1 mW _ A5.out).mono ?_);rintro e w10 ⟨aga,rfl,ho0,hb⟩;refine ⟨_,rfl,?_⟩;have d9:=aj.mk (Kd.uE ho0 (bL (by repeat (first | (with_reducible first | exact HB.out | apply ak | apply ah | apply au) | exact HB.out))));have ig:=aj.mk (bE (by repeat (first | (with_reducible first | exact HB.out | apply ak | apply ah | apply au) | exact HB.out)) hb);clear HB;have zG:=d9;have HB:=ig;clear d9 ig;(try clear hb);(try clear hb2);(try clear hk);(try clear hi);(try clear ho0)) | ((with_reducible refine aQ (f:=106) rfl ?_);refine bQ (some 18) rfl rfl Try.func106 (by kernel_rfl) rfl #[.int .i64 a0] rfl (by (try simp only [List.map_toArray,List.map_cons,List.map_nil]);first | done | rfl | (simp only [List.length_drop,List.length_take];rfl) | (simp only [ByteArray.size_append,Int.natCast_add];rfl) | (rw [B.dQ] <;> first | rfl | omega | (simp only [decide_eq_false_iff_not,decide_eq_true_eq,Int.not_lt,Nat.not_lt,gt_iff_lt] at * <;> omega))) ?_;(with_reducible refine (aH.calls k a0 q8 OO Sy _ A6.out).mono ?_);rintro e WT ⟨rfl,hb⟩;refine ⟨_,rfl,?_⟩;have d9:=aj.mk (Kd.kF (by (with_reducible repeat (first | apply Kd.fA | apply Kd.fK | apply Kd.fZ));exact zG.out) hb);have ig:=aj.mk (bE (by repeat (first | (with_reducible first | exact HB.out | apply ak | apply ah | apply au) | exact HB.out)) hb);clear zG;clear HB;have zG:=d9;have HB:=ig;clear d9 ig;(try clear hb);(try clear hb2);(try clear hk);(try clear hi)) | ((with_reducible refine gK (N:=6) rfl ?_);refine fV ?hg (N:=6) ?hd (cs:=#[.int .i64 0,.int .i64 0,.int .i64 0]) (t:=142) ?hr ?_;(case hd=>rfl);(case hg=>rfl);(case hr=>first | (go_simp;done) | (go_simp;rfl));intro rO hg w12 gX hb;have d9:=aj.mk (Kd.kF (by (with_reducible repeat (first | apply Kd.fA | apply Kd.fK | apply Kd.fZ));exact zG.out) hb);have ig:=aj.mk (bE (by repeat (first | (with_reducible first | exact HB.out | apply ak | apply ah | apply au) | exact HB.out)) hb);have jh:=aj.mk (gX);have jL:=aj.mk ((by rw [hg];exact (bL (by repeat (first | (with_reducible first | exact HB.out | apply ak | apply ah | apply au) | exact HB.out))):w.heap.size ≤ rO));have qZ:=aj.mk ((by rw [hg];exact (bL (by repeat (first | (with_reducible first | exact HB.out | apply ak | apply ah | apply au) | exact HB.out))):w.heap.size ≤ rO));clear zG;clear HB;have zG:=d9;have HB:=ig;have nW:=jh;have aia:=jL;have JG:=qZ;clear d9 ig jh jL qZ;clear hb gX hg;have Du:w12.cell? ⟨rO,0,none⟩ = some (.int .i64 0):=(aM nW.out 0).trans rfl;have Dv:w12.cell? ⟨rO,1,none⟩ = some (.int .i64 0):=(aM nW.out 1).trans rfl;have Dw:w12.cell? ⟨rO,2,none⟩ = some (.int .i64 0):=(aM nW.out 2).trans rfl;have Dx:=ay nW.out 0;have Dy:=ay nW.out 1;have Dz:=ay nW.out 2))
    go_loopg [7,8,9] k (fun kq v7 v8 v9 w'=>∃ (dK:ByteArray) (gL:Int) (iL:Int),v7 = .string dK ∧ v8 = .int .i64 gL ∧ v9 = .int .i64 iL ∧ aj (bI.l0 kq a1 mW dK gL iL = some r) ∧ aj (kq ≤ k) ∧ aj (Kd.R Kd.string 9 w' w.heap.size (fun _=>True) aga mW) ∧ aj (w'.heap[rO]? = some (.cells #[.int .i64 q8,.int .i64 OO,.int .i64 Sy] 142 (0,0))) ∧ aj (Below w.heap.size w w'))
    case atStart=>exact ⟨(a1.extract 0 (q8:Int).toNat),(q8),(0),(by first | rfl | (simp;done) | (simp [*];done) | (simp [B.aV];done) | (simp [B.aW];done)),(by first | rfl | (simp;done) | (simp [*];done) | (simp [B.aV];done) | (simp [B.aW];done)),(by first | rfl | (simp;done) | (simp [*];done) | (simp [B.aV];done) | (simp [B.aW];done)),H',⟨Nat.le_refl _⟩,⟨by (with_reducible repeat (first | apply Kd.fA | apply Kd.fK | apply Kd.fZ));exact Kd.pX (Kd.uF (p:=⟨rO,2,none⟩) (Kd.uF (p:=⟨rO,1,none⟩) (Kd.uF (p:=⟨rO,0,none⟩) (Kd.uG zG.out nW.out (by decide)) (fun _ hk=>hk.2) (.int .i64 q8)) (fun _ hk=>hk.2) (.int .i64 OO)) (fun _ hk=>hk.2) (.int .i64 Sy)) (fun _ hk=>trivial)⟩,⟨by (with_reducible repeat (first | refine aG ?_ _ | refine aI ?_ | refine aA ?_ _));refine bV (cs:=#[.int .i64 q8,.int .i64 OO,.int .i64 0]) ?_ 2 _ rfl;(with_reducible repeat (first | refine aG ?_ _ | refine aI ?_ | refine aA ?_ _));refine bV (cs:=#[.int .i64 q8,.int .i64 0,.int .i64 0]) ?_ 1 _ rfl;(with_reducible repeat (first | refine aG ?_ _ | refine aI ?_ | refine aA ?_ _));refine bV (cs:=#[.int .i64 0,.int .i64 0,.int .i64 0]) ?_ 0 _ rfl;(with_reducible repeat (first | refine aG ?_ _ | refine aI ?_ | refine aA ?_ _));exact nW.out⟩,⟨by repeat (first | (with_reducible first | exact HB.out | apply ak | apply ah | apply au | refine aR ?_ JG.out) | exact HB.out)⟩⟩
    case round =>
     clear H'
     try clear c1
     try clear p2
     try clear c4
     try clear c7
     try clear uT
     try clear KO
     try clear c8
     try clear su
     try clear sw
     try clear c10
     try clear Du
     try clear Dv
     try clear Dw
     try clear Dx
     try clear Dy
     try clear Dz
     obtain ⟨dK,gL,iL,rfl,rfl,rfl,HA,uM,vV,nW,HB⟩:=hrel
     cases gk with
     | zero=>exact absurd HA.out (by simp [bI.l0])
     | succ k1 =>
      have H:=HA.out
      clear HA
      simp only [bI.l0] at H
      by_cases c14:iL < (mW.length:Int)
      ·rw [if_pos c14] at H
       have BA:decide (iL < (mW.length:Int)) = true:=decide_eq_true c14
       clear c14
       by_cases c15:0 ≤ iL
       ·rw [if_pos c15] at H
        have aaH:decide (0 ≤ iL) = true:=decide_eq_true c15
        clear c15
        replace H:=zbm H
        obtain ⟨Ak,abS,H⟩:=H
        replace H:(if dK.size + Ak.size ≤ 9223372036854775807 then (bI.l0 k1 a1 mW (dK ++ Ak) (wrap64 (gL + ((pV ByteArray.empty mW iL).size:Int))) (wrap64 (iL + 1))) else (none)) = some r:=H
        have A16:=aj.mk abS
        clear abS
        by_cases c17:dK.size + Ak.size ≤ 9223372036854775807
        ·rw [if_pos c17] at H
         have Ul:=eq_true c17
         have aib:decide (dK.size + Ak.size ≤ 9223372036854775807) = true:=decide_eq_true c17
         try have aic:(9223372036854775807 < dK.size + Ak.size) = False:=eq_false (Nat.not_lt.2 c17)
         have H':=aj.mk H
         clear H
         obtain ⟨aiB,aiC,agb⟩:=Kd.xD vV.out
         subst agb
         have W9:0 ≤ (iL:Int):=of_decide_eq_true (by first | (with_reducible assumption) | assumption)
         have Xa:iL < (mW.length:Int):=of_decide_eq_true (by first | (with_reducible assumption) | assumption)
         obtain ⟨abT,agc,aez⟩:=Kd.Bo (Kd.pY vV.out).2.2 iL W9 Xa
         cases agc
         replace W9:=eq_true W9
         replace Xa:=eq_true Xa
         go_wp2_with (first | ((with_reducible refine aQ (f:=101) rfl ?_);refine bQ (some 36) rfl rfl Try.func101 (by kernel_rfl) rfl #[.string (pV ByteArray.empty mW iL)] rfl (by (try simp only [List.map_toArray,List.map_cons,List.map_nil]);first | done | rfl | (simp only [List.length_drop,List.length_take];rfl) | (simp only [ByteArray.size_append,Int.natCast_add];rfl) | (rw [B.dQ] <;> first | rfl | omega | (simp only [decide_eq_false_iff_not,decide_eq_true_eq,Int.not_lt,Nat.not_lt,gt_iff_lt] at * <;> omega))) ?_;(with_reducible refine (fD.calls k1 (pV ByteArray.empty mW iL) Ak _ A16.out).mono ?_);rintro e w19 ⟨rfl,hb⟩;refine ⟨_,rfl,?_⟩;have d9:=aj.mk (Kd.kF (by (with_reducible repeat (first | apply Kd.fA | apply Kd.fK | apply Kd.fZ));exact vV.out) hb);have ig:=aj.mk (dO (g:=rO) (o:=.cells #[.int .i64 q8,.int .i64 OO,.int .i64 Sy] 142 (0,0)) (by (with_reducible repeat (first | refine aG ?_ _ | refine aI ?_ | refine aA ?_ _));exact nW.out) hb);have jh:=aj.mk (bE (by repeat (first | (with_reducible first | exact HB.out | apply ak | apply ah | apply au | refine aR ?_ JG.out) | exact HB.out)) hb);clear vV;clear nW;clear HB;have vV:=d9;have nW:=ig;have HB:=jh;clear d9 ig jh;(try clear hb);(try clear hb2);(try clear hk);(try clear hi);have Xb:0 ≤ (iL:Int):=of_decide_eq_true (by first | (with_reducible assumption) | assumption);have Xc:iL < (mW.length:Int):=of_decide_eq_true (by first | (with_reducible assumption) | assumption);obtain ⟨abU,agd,aeA⟩:=Kd.Bo (Kd.pY vV.out).2.2 iL Xb Xc;obtain rfl:abT = abU:=(by injection agd);replace Xb:=eq_true Xb;replace Xc:=eq_true Xc))
         go_roundg k1
         case measure=>have:=uM.out;omega
         case rel=>exact ⟨(dK ++ Ak),(wrap64 (gL + ((pV ByteArray.empty mW iL).size:Int))),(wrap64 (iL + 1)),(by first | rfl | (simp;done) | (simp [*];done) | (simp [B.aV];done) | (simp [B.aW];done)),(by first | rfl | (simp;done) | (simp [*];done) | (simp [B.aV];done) | (simp [B.aW];done)),(by first | rfl | (simp;done) | (simp [*];done) | (simp [B.aV];done) | (simp [B.aW];done)),H',⟨by have:=uM.out;omega⟩,⟨by (with_reducible repeat (first | apply Kd.fA | apply Kd.fK | apply Kd.fZ));exact vV.out⟩,⟨by (with_reducible repeat (first | refine aG ?_ _ | refine aI ?_ | refine aA ?_ _));exact nW.out⟩,⟨by repeat (first | (with_reducible first | exact HB.out | apply ak | apply ah | apply au | refine aR ?_ JG.out) | exact HB.out)⟩⟩
        ·rw [if_neg c17] at H
         exact absurd H (by simp)
       ·rw [if_neg c15] at H
        exact absurd H (by simp)
      ·rw [if_neg c14] at H
       have BA:decide (iL < (mW.length:Int)) = false:=decide_eq_false c14
       clear c14
       by_cases c20:0 ≤ gL
       ·rw [if_pos c20] at H
        have Ox:=eq_true c20
        have aa2:decide (0 ≤ gL) = true:=decide_eq_true c20
        clear c20
        by_cases c21:gL ≤ (a1.size:Int)
        ·rw [if_pos c21] at H
         have Uj:=eq_true c21
         have Uk:decide (gL ≤ (a1.size:Int)) = true:=decide_eq_true c21
         clear c21
         by_cases Gg:dK.size + (a1.extract (gL:Int).toNat a1.size).size ≤ 9223372036854775807
         ·rw [if_pos Gg] at H
          have OJ:=eq_true Gg
          have OL:decide (dK.size + (a1.extract (gL:Int).toNat a1.size).size ≤ 9223372036854775807) = true:=decide_eq_true Gg
          try have aie:(9223372036854775807 < dK.size + (a1.extract (gL:Int).toNat a1.size).size) = False:=eq_false (Nat.not_lt.2 Gg)
          obtain rfl:=Option.some.inj H
          obtain ⟨aiD,aiE,agf⟩:=Kd.xD vV.out
          subst agf
          go_wp2
          go_ret
          exact ⟨by first | rfl | (simp [aJ,aK] <;> rfl) | (simp [*,aJ,aK] <;> rfl),by repeat (first | (with_reducible first | exact HB.out | apply ak | apply ah | apply au | refine aR ?_ JG.out) | exact HB.out)⟩
         ·rw [if_neg Gg] at H
          exact absurd H (by simp)
        ·rw [if_neg c21] at H
         exact absurd H (by simp)
       ·rw [if_neg c20] at H
        exact absurd H (by simp)
   ·rw [if_neg c8] at H
    exact absurd H (by simp)
  ·rw [if_neg c7] at H
   exact absurd H (by simp)
 ·replace c4:=Bool.eq_false_iff.mpr c4
  subst c4
  have H1:(some (⟨#[]⟩:ByteArray)) = some r:=by rw [if_neg (show ¬ (false = true) by decide)] at H;exact H
  clear H
  have H:=H1
  clear H1
  obtain rfl:=Option.some.inj H
  go_enter Try.func84,Try.ntmps84
  go_wp2_with (first | ((with_reducible refine aQ (f:=83) rfl ?_);refine bQ (some 12) rfl rfl Try.func83 (by kernel_rfl) rfl #[.int .i64 a0,.string a1] rfl (by (try simp only [List.map_toArray,List.map_cons,List.map_nil]);first | done | rfl | (simp only [List.length_drop,List.length_take];rfl) | (simp only [ByteArray.size_append,Int.natCast_add];rfl) | (rw [B.dQ] <;> first | rfl | omega | (simp only [decide_eq_false_iff_not,decide_eq_true_eq,Int.not_lt,Nat.not_lt,gt_iff_lt] at * <;> omega))) ?_;(with_reducible refine (bS.calls k a0 a1 false _ A3.out).mono ?_);rintro e w24 ⟨rfl,hb⟩;refine ⟨_,rfl,?_⟩;have d9:=aj.mk (bE (by repeat (first | (with_reducible first | exact HB.out | apply ak | apply ah | apply au) | exact HB.out)) hb);clear HB;have HB:=d9;clear d9;(try clear hb);(try clear hb2);(try clear hk);(try clear hi)))
  go_ret
  exact ⟨by first | rfl | (simp [aJ,aK] <;> rfl) | (simp [*,aJ,aK] <;> rfl),by repeat (first | (with_reducible first | exact HB.out | apply ak | apply ah | apply au) | exact HB.out)⟩
end Go.Proofs.Ytdkkgecdhapfhaa.ZQ
namespace Go.Proofs.Ytdkkgecdhapfhaa.ZQ
open Go.RowKit Go.Proofs.YtdkkgecdhapfhaaW.bD Go.Proofs.YtdkkgecdhapfhaaW.dM Go.Proofs.YtdkkgecdhapfhaaW.eP Go.Proofs.Ytdkkgecdhapfhaa.B
def wK (msg:ByteArray) (i:Int):ByteArray × Int × Int:=(bF.f (rounds i) msg i).getD (⟨#[]⟩,0,0)
theorem Us (msg:ByteArray) (i:Int) (hm:msg.size ≤ 100000):bF.f (rounds i) msg i = some (wK msg i):=by
 obtain ⟨R,h1,_⟩:=BF (rounds i) msg i hm (Nat.le_refl _)
 unfold wK;rw [h1];rfl
theorem Ut (k:Nat) (msg:ByteArray) (i:Int) (hm:msg.size ≤ 100000) (hk:rounds i ≤ k):bF.f k msg i = some (wK msg i):=FQ hk (Us msg i hm)
theorem vW (k:Nat) (msg:ByteArray) (i:Int) (hm:msg.size ≤ 100000) (hk:rounds i ≤ k):aU.f k msg i = some (wK msg i):=by
 obtain ⟨R,h1,h2⟩:=BF k msg i hm hk
 rw [Ut k msg i hm hk] at h1
 rw [h2,h1]
theorem uW (msg:ByteArray) (i:Int) (hm:msg.size ≤ 100000) :
  ((wK msg i).2.2 = 0 ∧ jG (wK msg i).1 = true ∧ 0 ≤ i ∧ i < (wK msg i).2.1 ∧ (wK msg i).2.1 ≤ (msg.size:Int)) ∨ (((wK msg i).2.2 = 2 ∨ (wK msg i).2.2 = 3) ∧ (wK msg i).1 = ⟨#[]⟩ ∧ (wK msg i).2.1 = 0):=Hr hm (Us msg i hm)
def F7 (msg:ByteArray) (e:Int):Nat → Int → List ByteArray → Option (List ByteArray × Int)
 | 0,i,l=>some (l,i)
 | n + 1,i,l=>if (wK msg i).2.2 = 0 then (if (wK msg i).2.1 > e then none else F7 msg e n (wK msg i).2.1 (l ++ [(wK msg i).1])) else none
theorem qM (msg:ByteArray) (e:Int) (hm:msg.size ≤ 100000):∀ (n:Nat) (i:Int) (l:List ByteArray) (R:List ByteArray × Int),F7 msg e n i l = some R → i ≤ e → i ≤ R.2 ∧ R.2 ≤ e ∧ R.1.length = l.length + n ∧ (∃ l',R.1 = l ++ l' ∧ ∀ x ∈ l',jG x = true)
 | 0,i,l,R,h,hi=>by cases h;exact ⟨Int.le_refl _,hi,rfl,[],by simp,by simp⟩
 | n + 1,i,l,R,h,hi=>by
  rw [F7] at h
  by_cases h0:(wK msg i).2.2 = 0
  ·rw [if_pos h0] at h
   by_cases h1:(wK msg i).2.1 > e
   ·rw [if_pos h1] at h;cases h
   ·rw [if_neg h1] at h
    obtain ⟨a1,a2,a3,l',a4,a5⟩:=qM msg e hm n _ _ R h (by omega)
    rcases uW msg i hm with ⟨_,b2,_,b4,_⟩ | ⟨b1,_⟩
    ·refine ⟨by omega,a2,by rw [a3,List.length_append,List.length_singleton];omega,(wK msg i).1 :: l',by rw [a4];simp,?_⟩
     intro x hx
     rcases List.mem_cons.mp hx with rfl | hx
     ·exact b2
     ·exact a5 x hx
    ·omega
  ·rw [if_neg h0] at h;cases h
def K0 : Nat:=101000
theorem qN {msg:ByteArray} {i:Int} {k:Nat} (hm:msg.size ≤ 100000) (hi:i ≤ (msg.size:Int)) (hk:K0 ≤ k):rounds i ≤ k:=by unfold rounds;unfold K0 at hk;omega
theorem DN (msg:ByteArray) (e s0 s1 s2:Int) (a b:ByteArray) (hm:msg.size ≤ 100000) (he:e ≤ (msg.size:Int)) (h2:0 ≤ s2 ∧ s2 ≤ 1000) (c:Int) (hc:c ≤ 100):∀ (n k:Nat) (i x:Int) (l:List ByteArray),K0 + n ≤ k → x + n = c → 0 ≤ x → 0 ≤ i → i ≤ e → l.length + n ≤ 1000 →
  bW.l0 (k + 1) msg i e c x s0 s1 s2 a b l = (match F7 msg e n i l with
   | some R=>some (a,msg.extract R.2.toNat e.toNat,R.1,(((msg.extract R.2.toNat e.toNat).size:Int) == s2))
   | none=>some (⟨#[]⟩,⟨#[]⟩,[],false))
 | 0,k,i,x,l,hk,hx,hx0,hi,hie,hl=>by
  rw [bW.l0,if_neg (by omega),if_pos hi,if_pos hie,if_pos he,F7]
 | n + 1,k,i,x,l,hk,hx,hx0,hi,hie,hl=>by
  obtain ⟨k,rfl⟩:∃ m,k = m + 1:=⟨k - 1,by omega⟩
  rw [bW.l0,if_pos (by omega),Ut (k + 1) msg i hm (qN hm (by omega) (by omega)),F7]
  simp only [Option.bind_some]
  by_cases h0:(wK msg i).2.2 = 0
  ·rw [if_pos h0,if_pos h0]
   by_cases h1:(wK msg i).2.1 > e
   ·rw [if_pos h1,if_pos h1]
   ·rcases uW msg i hm with ⟨_,_,_,b4,_⟩ | ⟨b1,_⟩
    ·rw [if_neg h1,if_neg h1,if_pos (by omega),dQ (by omega) (by omega)]
     exact DN msg e s0 s1 s2 a b hm he h2 c hc n k _ (x + 1) _ (by omega) (by omega) (by omega) (by omega) (by omega) (by rw [List.length_append,List.length_singleton];omega)
    ·omega
  ·rw [if_neg h0,if_neg h0]
def OP (s:ByteArray):Nat → Int → Bool
 | 0,_=>false
 | k + 1,i=>if i < (s.size:Int) then OP s k (i + 1 + bt s i) else decide (i = s.size)
def Hw (s:ByteArray):Bool:=decide (0 < s.size) && OP s (s.size + 1) 0
theorem Xd (s:ByteArray) {k:Nat} {i:Int} (h:(s.size:Int) < i):OP s k i = false:=by
 cases k with
 | zero=>rfl
 | succ k=>rw [OP,if_neg (by omega)];simp;omega
theorem OQ (s:ByteArray) (hs:s.size ≤ 100000) (d:Nat):∀ (k m:Nat) (i:Int),0 ≤ i → i ≤ (s.size:Int) → s.size - i.toNat ≤ d → d + 1 ≤ k → d + 1 ≤ m → dL.l0 k (s.extract i.toNat s.size) = some (OP s m i):=by
 induction d with
 | zero =>
  intro k m i h0 h1 h2 hk hm
  obtain ⟨k,rfl⟩:∃ j,k = j + 1:=⟨k - 1,by omega⟩
  obtain ⟨m,rfl⟩:∃ j,m = j + 1:=⟨m - 1,by omega⟩
  rw [dL.l0,if_pos (toList_nil.mpr (by rw [ByteArray.size_extract];omega)),OP,if_neg (by omega),decide_eq_true (by omega)]
 | succ d ih =>
  intro k m i h0 h1 h2 hk hm
  obtain ⟨k,rfl⟩:∃ j,k = j + 1:=⟨k - 1,by omega⟩
  obtain ⟨m,rfl⟩:∃ j,m = j + 1:=⟨m - 1,by omega⟩
  have hz:(s.extract i.toNat s.size).size = s.size - i.toNat:=by rw [ByteArray.size_extract];omega
  by_cases hi:i < (s.size:Int)
  ·have hb:bt (s.extract i.toNat s.size) 0 = bt s i:=by
    rw [mP (by omega) (by omega)];congr 1;omega
   have hr:=gF s i
   rw [dL.l0,if_neg (by rw [toList_nil];omega),if_pos (by omega),hb,dQ (n:=bt s i) (by omega) (by omega),dQ (n:=1 + bt s i) (by omega) (by omega),OP,if_pos hi]
   by_cases h3:1 + bt s i > ((s.extract i.toNat s.size).size:Int)
   ·rw [if_pos h3,Xd s (by omega)]
   ·rw [if_neg h3,if_pos (by omega),if_pos (by omega)]
    have e:(s.extract i.toNat s.size).extract (1 + bt s i).toNat (s.extract i.toNat s.size).size = s.extract (i + 1 + bt s i).toNat s.size:=by
     rw [ByteArray.extract_extract,hz]
     congr 1 <;> omega
    rw [e]
    exact ih k m _ (by omega) (by omega) (by omega) (by omega) (by omega)
  ·rw [dL.l0,if_pos (toList_nil.mpr (by omega)),OP,if_neg hi,decide_eq_true (by omega)]
theorem OT (k:Nat) (hk:K0 ≤ k) (s:ByteArray) (hs:s.size ≤ 100000):dL.f k s = some (Hw s):=by
 unfold dL.f Hw
 by_cases h:s.toList = ([]:List UInt8)
 ·rw [if_pos h];rw [toList_nil] at h;rw [h];rfl
 ·rw [if_neg h]
  rw [toList_nil] at h
  unfold K0 at hk
  have:=OQ s hs s.size k (s.size + 1) 0 (by omega) (by omega) (by omega) (by omega) (by omega)
  rw [show (0:Int).toNat = 0 from rfl,ByteArray.extract_zero_size] at this
  rw [this,decide_eq_true (by omega),Bool.true_and]
theorem DR (s:ByteArray) (hs:s.size ≤ 100000) (d:Nat):∀ (k m:Nat) (i:Int),0 ≤ i → (i:Int) ≤ s.size + 300 → 0 < i ∨ 0 < s.size → s.size - i.toNat ≤ d → d + 1 ≤ k → d + 1 ≤ m → bq.l0 k s i = some (OP s m i):=by
 induction d with
 | zero =>
  intro k m i h0 h1 hp h2 hk hm
  obtain ⟨k,rfl⟩:∃ j,k = j + 1:=⟨k - 1,by omega⟩
  obtain ⟨m,rfl⟩:∃ j,m = j + 1:=⟨m - 1,by omega⟩
  have hlt:¬ i < (s.size:Int):=by omega
  rw [bq.l0,if_neg hlt,OP,if_neg hlt]
  by_cases h:i = (s.size:Int)
  ·rw [if_pos h,decide_eq_true (by omega),decide_eq_true h]
  ·rw [if_neg h,decide_eq_false h]
 | succ d ih =>
  intro k m i h0 h1 hp h2 hk hm
  obtain ⟨k,rfl⟩:∃ j,k = j + 1:=⟨k - 1,by omega⟩
  obtain ⟨m,rfl⟩:∃ j,m = j + 1:=⟨m - 1,by omega⟩
  have hr:=gF s i
  rw [bq.l0,OP]
  by_cases hi:i < (s.size:Int)
  ·rw [if_pos hi,if_pos hi,if_pos h0,dQ (n:=bt s i) (by omega) (by omega),dQ (n:=i + 1) (by omega) (by omega),dQ (by omega) (by omega)]
   exact ih k m _ (by omega) (by omega) (by omega) (by omega) (by omega) (by omega)
  ·rw [if_neg hi,if_neg hi]
   by_cases h:i = (s.size:Int)
   ·rw [if_pos h,decide_eq_true (by omega),decide_eq_true h]
   ·rw [if_neg h,decide_eq_false h]
theorem DT (k:Nat) (hk:K0 ≤ k) (s:ByteArray) (hs:s.size ≤ 100000):bq.f k s = some (Hw s):=by
 unfold bq.f Hw
 unfold K0 at hk
 by_cases h:0 < s.size
 ·rw [DR s hs s.size k (s.size + 1) 0 (by omega) (by omega) (by omega) (by omega) (by omega) (by omega),decide_eq_true h,Bool.true_and]
 ·obtain ⟨k,rfl⟩:∃ j,k = j + 1:=⟨k - 1,by omega⟩
  rw [bq.l0,if_neg (by omega),if_pos (by omega),decide_eq_false h];rfl
end Go.Proofs.Ytdkkgecdhapfhaa.ZQ
namespace Go.Proofs.Ytdkkgecdhapfhaa.ZQ
open Go.RowKit Go.Proofs.YtdkkgecdhapfhaaW.bD Go.Proofs.YtdkkgecdhapfhaaW.dM Go.Proofs.YtdkkgecdhapfhaaW.eP Go.Proofs.Ytdkkgecdhapfhaa.B
theorem Hy (l m:List ByteArray):strings_Join.cat (l ++ m) = strings_Join.cat l ++ strings_Join.cat m:=by
 induction l with
 | nil=>exact (empty_append _).symm
 | cons x l ih=>rw [List.cons_append,strings_Join.cat,ih,strings_Join.cat,ByteArray.append_assoc]
theorem SA (x:ByteArray):strings_Join.cat [x] = x:=append_empty x
theorem qj {n:ByteArray} (h:jG n = true):n.size ≤ 255:=by
 obtain ⟨l,_,_,hz⟩:=Ja.mp h;exact hz
theorem uX : ∀ {l:List ByteArray},(∀ x ∈ l,jG x = true) → (strings_Join.cat l).size ≤ 255 * l.length
 | [],_=>Nat.zero_le _
 | x :: l,h=>by
  have h1:=qj (h x (by simp))
  have h2:=uX (l:=l) (fun y hy=>h y (by simp [hy]))
  rw [strings_Join.cat,ByteArray.size_append,List.length_cons]
  omega
def zH (d:ByteArray):ByteArray × Int:=if (d.size:Int) > 65535 then (⟨#[]⟩,4) else (d,0)
theorem vX (d:ByteArray):(if (d.size:Int) > 65535 then some ((⟨#[]⟩:ByteArray),(4:Int)) else some (d,0)) = some (zH d):=by
 unfold zH;split <;> rfl
def KZ (msg:ByteArray) (i size:Int) (s:Int × Int × Int):ByteArray × Int :=
 if s.1 ≤ size then (match F7 msg (i + size) s.2.1.toNat (i + s.1) [] with
  | some R=>if R.2 + s.2.2 = i + size then zH (msg.extract i.toNat (i + s.1).toNat ++ strings_Join.cat R.1 ++ msg.extract R.2.toNat (i + size).toNat) else (⟨#[]⟩,4)
  | none=>(⟨#[]⟩,4)) else (⟨#[]⟩,4)
def Al (msg:ByteArray) (i size kind:Int):ByteArray × Int :=
 if gW msg i size then (match aD.zD kind with
  | some s=>KZ msg i size s
  | none=>if kind = 16 then (if Hw (msg.extract i.toNat (i + size).toNat) = true then zH (msg.extract i.toNat (i + size).toNat) else (⟨#[]⟩,4)) else zH (msg.extract i.toNat (i + size).toNat))
 else (⟨#[]⟩,2)
theorem lg {kind:Int} {s:Int × Int × Int} (h:aD.zD kind = some s):0 ≤ s.1 ∧ s.1 ≤ 16 ∧ 0 ≤ s.2.1 ∧ s.2.1 ≤ 2 ∧ 0 ≤ s.2.2 ∧ s.2.2 ≤ 20 ∧ kind ≠ 16 ∧ (s.1 = 0 → s.2.1 = 0 → False):=by
 unfold aD.zD at h
 repeat' split at h
 all_goals (first | (cases h;subst_vars;decide) | cases h)
theorem Xe (k:Nat) (hk:K0 ≤ k) (kind:Int) (hkind:kind ≠ 16) (d:ByteArray):aD.fin k kind d true = some (zH d):=by
 unfold aD.fin
 rw [if_pos rfl,if_neg hkind,vX]
theorem vY (k:Nat) (kind:Int) (d:ByteArray):aD.fin k kind d false = some (⟨#[]⟩,4):=by
 unfold aD.fin;rw [if_neg Bool.false_ne_true]
theorem BK (msg:ByteArray) (i size kind:Int) (k:Nat) (hk:K0 ≤ k) (hm:msg.size ≤ 100000) (f:ByteArray → Option Bool) (hf:∀ s,s.size ≤ 100000 → f s = some (Hw s)) (t:ByteArray) (ht:t.size ≤ 100000) :
  (if kind = 16 then ((f t).bind fun b=>if b = true then (if (t.size:Int) > 65535 then some ((⟨#[]⟩:ByteArray),(4:Int)) else some (t,0)) else some (⟨#[]⟩,4)) else (if (t.size:Int) > 65535 then some (⟨#[]⟩,4) else some (t,0))) =
   some (if kind = 16 then (if Hw t = true then zH t else (⟨#[]⟩,4)) else zH t):=by
 rw [hf t ht,vX]
 simp only [Option.bind_some]
 split
 ·split <;> rfl
 ·rfl
theorem K3 (k:Nat) (hk:K0 + 10 ≤ k) (msg:ByteArray) (i size kind:Int) (hm:msg.size ≤ 100000) (ht:gW msg i size) (s:Int × Int × Int) (hs:aD.zD kind = some s):aD.g k msg i size kind s = some (KZ msg i size s):=by
 obtain ⟨h0,h1,h2⟩:=ht
 obtain ⟨a1,a2,a3,a4,a5,a6,a7,a8⟩:=lg hs
 obtain ⟨s0,s1,s2⟩:=s
 simp only at a1 a2 a3 a4 a5 a6 a8
 have e1:wrap64 (i + size) = i + size:=dQ (by omega) (by omega)
 have e2:wrap64 (i + size - i) = size:=by rw [dQ (by omega) (by omega)];omega
 have e3:wrap64 (i + s0) = i + s0:=dQ (by omega) (by omega)
 unfold aD.g bW.f KZ
 simp only [e1,e2,e3]
 by_cases c:s0 ≤ size
 ·rw [if_pos c,if_pos c,if_pos h0,if_pos (by omega),if_pos (by omega)]
  obtain ⟨k,rfl⟩:∃ j,k = j + 1:=⟨k - 1,by omega⟩
  rw [DN msg (i + size) s0 s1 s2 _ _ hm h2 ⟨a5,by omega⟩ s1 (by omega) s1.toNat k (i + s0) 0 [] (by omega) (by omega) (Int.le_refl _) (by omega) (by omega) (by simp only [List.length_nil];omega)]
  have hz:(msg.extract i.toNat (i + s0).toNat).size ≤ 16:=by rw [ByteArray.size_extract];omega
  cases hr:F7 msg (i + size) s1.toNat (i + s0) [] with
  | none =>
   simp only [Option.bind_some]
   rw [if_pos (by decide),if_pos (by decide),vY]
  | some R =>
   obtain ⟨b1,b2,b3,l',b4,b5⟩:=qM msg _ hm _ _ _ R hr (by omega)
   have hcz:=uX b5
   rw [List.nil_append] at b4
   rw [← b4] at hcz
   rw [List.length_nil,Nat.zero_add] at b3
   have hbz:(msg.extract R.2.toNat (i + size).toNat).size = (i + size - R.2).toNat:=by rw [ByteArray.size_extract];omega
   simp only [Option.bind_some]
   rw [if_pos (by omega),if_pos (by omega)]
   by_cases d:R.2 + s2 = i + size
   ·rw [if_pos d,show (((msg.extract R.2.toNat (i + size).toNat).size:Int) == s2) = true from beq_iff_eq.mpr (by omega),Xe k.succ (by omega) kind a7]
   ·rw [if_neg d,show (((msg.extract R.2.toNat (i + size).toNat).size:Int) == s2) = false from beq_eq_false_iff_ne.mpr (by omega),vY]
 ·rw [if_neg c,if_neg c]
  simp only [Option.bind_some]
  rw [if_pos (by decide),if_pos (by decide),vY]
theorem Xf (k:Nat) (hk:K0 + 10 ≤ k) (msg:ByteArray) (i size kind:Int) (hm:msg.size ≤ 100000):aD.f k msg i size kind = some (Al msg i size kind):=by
 unfold aD.f Al
 rw [uS msg i size (by omega)]
 simp only [Option.bind_some]
 by_cases ht:gW msg i size
 ·rw [if_pos ht,if_pos ht]
  simp only [if_true]
  cases hs:aD.zD kind with
  | some s=>exact K3 k hk msg i size kind hm ht s hs
  | none =>
   have hz:(msg.extract i.toNat (i + size).toNat).size ≤ 100000:=by rw [ByteArray.size_extract];omega
   have:=BK msg i size kind k (by omega) hm (dL.f k) (fun s h=>OT k (by omega) s h) _ hz
   unfold aD.fin
   rw [if_pos rfl]
   exact this
 ·rw [if_neg ht,if_neg ht];rfl
theorem oJ (k:Nat) (hk:1 ≤ k) (kind:Int):aH.f k kind = some ((aD.zD kind).getD (0,0,0)):=by
 obtain ⟨k,rfl⟩:∃ j,k = j + 1:=⟨k - 1,by omega⟩
 unfold aH.f aD.zD
 simp only [aH.j0]
 by_cases h1:kind = 1
 ·subst h1;rfl
 by_cases h2:kind = 28
 ·subst h2;rfl
 by_cases h3:kind = 2
 ·subst h3;rfl
 by_cases h4:kind = 5
 ·subst h4;rfl
 by_cases h5:kind = 12
 ·subst h5;rfl
 by_cases h6:kind = 6
 ·subst h6;rfl
 by_cases h7:kind = 15
 ·subst h7;rfl
 by_cases h8:kind = 33
 ·subst h8;rfl
 simp [h1,h2,h3,h4,h5,h6,h7,h8]
theorem F8 (msg:ByteArray) (i size s0 s1 s2:Int) (hm:msg.size ≤ 100000) (ht:gW msg i size) (h2:0 ≤ s2 ∧ s2 ≤ 1000) (hs:s1 ≤ 100):∀ (n k:Nat) (j x:Int) (out:ByteArray),K0 + n ≤ k → x + n = s1 → 0 ≤ x → i + size < j → j ≤ (msg.size:Int) → out.size + 300 * n ≤ 1000000 →
  aX.l0 (k + 1) msg i size out j x s0 s1 s2 = some (⟨#[]⟩,4)
 | 0,k,j,x,out,hk,hx,hx0,hj,hjm,ho=>by
  obtain ⟨t0,t1,t2⟩:=ht
  rw [aX.l0,if_neg (by omega),dQ (n:=j + s2) (by omega) (by omega),dQ (n:=i + size) (by omega) (by omega),if_neg (by omega)]
 | n + 1,k,j,x,out,hk,hx,hx0,hj,hjm,ho=>by
  obtain ⟨k,rfl⟩:∃ m,k = m + 1:=⟨k - 1,by omega⟩
  rw [aX.l0,if_pos (by omega),vW (k + 1) msg j hm (qN hm (by omega) (by omega))]
  simp only [Option.bind_some]
  rcases uW msg j hm with ⟨b1,b2,_,b4,b5⟩ | ⟨b1,_⟩
  ·have hz:=qj b2
   rw [if_pos b1,if_pos (by omega),dQ (n:=x + 1) (by omega) (by omega)]
   exact F8 msg i size s0 s1 s2 hm ht h2 hs n k _ _ _ (by omega) (by omega) (by omega) (by omega) b5 (by rw [ByteArray.size_append];omega)
  ·rw [if_neg (by omega)]
theorem OU (msg:ByteArray) (i size s0 s1 s2:Int) (a:ByteArray) (hm:msg.size ≤ 100000) (ht:gW msg i size) (h2:0 ≤ s2 ∧ s2 ≤ 1000) (hs:s1 ≤ 100):∀ (n k:Nat) (j x:Int) (l:List ByteArray),K0 + n ≤ k → x + n = s1 → 0 ≤ x → 0 ≤ j → j ≤ i + size → (a ++ strings_Join.cat l).size + 300 * n ≤ 800000 →
  aX.l0 (k + 1) msg i size (a ++ strings_Join.cat l) j x s0 s1 s2 = some (match F7 msg (i + size) n j l with
   | some R=>if R.2 + s2 = i + size then zH (a ++ strings_Join.cat R.1 ++ msg.extract R.2.toNat (i + size).toNat) else (⟨#[]⟩,4)
   | none=>(⟨#[]⟩,4))
 | 0,k,j,x,l,hk,hx,hx0,hj0,hj,ho=>by
  obtain ⟨t0,t1,t2⟩:=ht
  rw [aX.l0,if_neg (by omega),dQ (n:=j + s2) (by omega) (by omega),dQ (n:=i + size) (by omega) (by omega),F7]
  simp only
  by_cases c:j + s2 = i + size
  ·have hz:(msg.extract j.toNat (i + size).toNat).size ≤ 100000:=by rw [ByteArray.size_extract];omega
   rw [if_pos c,if_pos c,if_pos hj0,if_pos hj,if_pos t2,if_pos (by omega),vX]
  ·rw [if_neg c,if_neg c]
 | n + 1,k,j,x,l,hk,hx,hx0,hj0,hj,ho=>by
  have ht0:=ht
  obtain ⟨t0,t1,t2⟩:=ht
  obtain ⟨k,rfl⟩:∃ m,k = m + 1:=⟨k - 1,by omega⟩
  rw [aX.l0,if_pos (by omega),vW (k + 1) msg j hm (qN hm (by omega) (by omega)),F7]
  simp only [Option.bind_some]
  rcases uW msg j hm with ⟨b1,b2,_,b4,b5⟩ | ⟨b1,_⟩
  ·have hz:=qj b2
   rw [if_pos b1,if_pos b1,if_pos (by omega),dQ (n:=x + 1) (by omega) (by omega)]
   by_cases c:(wK msg j).2.1 > i + size
   ·rw [if_pos c]
    exact F8 msg i size s0 s1 s2 hm ht0 h2 hs n k _ _ _ (by omega) (by omega) (by omega) (by omega) b5 (by rw [ByteArray.size_append];omega)
   ·rw [if_neg c]
    have e:a ++ strings_Join.cat l ++ (wK msg j).1 = a ++ strings_Join.cat (l ++ [(wK msg j).1]):=by rw [Hy,SA,ByteArray.append_assoc]
    rw [e]
    exact OU msg i size s0 s1 s2 a hm ht0 h2 hs n k _ _ _ (by omega) (by omega) (by omega) (by omega) (by omega) (by rw [← e,ByteArray.size_append];omega)
  ·rw [if_neg (by omega),if_neg (by omega)]
theorem Hz (k:Nat) (hk:K0 + 10 ≤ k) (msg:ByteArray) (i size kind:Int) (hm:msg.size ≤ 100000):aX.f k msg i size kind = some (Al msg i size kind):=by
 unfold aX.f Al
 rw [qd msg i size (by omega),oJ k (by omega)]
 simp only [Option.bind_some]
 by_cases ht:gW msg i size
 ·rw [if_pos ht,if_pos ht]
  simp only [if_true]
  obtain ⟨t0,t1,t2⟩:=ht
  have hz:(msg.extract i.toNat (i + size).toNat).size = size.toNat:=by rw [ByteArray.size_extract];omega
  cases hs:aD.zD kind with
  | none =>
   simp only [Option.getD_none]
   rw [if_pos (by decide)]
   exact BK msg i size kind k (by omega) hm (bq.f k) (fun s h=>DT k (by omega) s h) _ (by omega)
  | some s =>
   obtain ⟨a1,a2,a3,a4,a5,a6,a7,a8⟩:=lg hs
   obtain ⟨s0,s1,s2⟩:=s
   simp only at a1 a2 a3 a4 a5 a6 a8
   simp only [Option.getD_some]
   have main:(if s0 > size then some ((⟨#[]⟩:ByteArray),(4:Int)) else (if 0 ≤ s0 then (if s0 ≤ ((msg.extract i.toNat (i + size).toNat).size:Int) then (aX.l0 k msg i size ((msg.extract i.toNat (i + size).toNat).extract 0 (s0:Int).toNat) (wrap64 (i + s0)) 0 s0 s1 s2) else none) else none)) = some (KZ msg i size (s0,s1,s2)):=by
    unfold KZ
    simp only
    by_cases c:s0 > size
    ·rw [if_pos c,if_neg (by omega)]
    ·rw [if_neg c,if_pos a1,if_pos (by omega),if_pos (by omega),dQ (by omega) (by omega)]
     obtain ⟨k,rfl⟩:∃ j,k = j + 1:=⟨k - 1,by omega⟩
     have e:(msg.extract i.toNat (i + size).toNat).extract 0 s0.toNat = msg.extract i.toNat (i + s0).toNat:=by
      rw [ByteArray.extract_extract];congr 1 <;> omega
     have hz2:(msg.extract i.toNat (i + s0).toNat).size ≤ 16:=by rw [ByteArray.size_extract];omega
     have h:=OU msg i size s0 s1 s2 (msg.extract i.toNat (i + s0).toNat) hm ⟨t0,t1,t2⟩ ⟨a5,by omega⟩ (by omega) s1.toNat k (i + s0) 0 [] (by omega) (by omega) (Int.le_refl _) (by omega) (by omega) (by simp only [strings_Join.cat,append_empty];omega)
     simp only [strings_Join.cat,append_empty] at h
     rw [e,h]
   have hne:¬ ((s0 == 0 && (s1 == 0 && (s2 == 0))) = true):=by
    intro h
    simp only [Bool.and_eq_true,beq_iff_eq] at h
    exact a8 h.1 h.2.1
   rw [if_neg hne]
   exact main
 ·rw [if_neg ht,if_neg ht];rfl
end Go.Proofs.Ytdkkgecdhapfhaa.ZQ
namespace Go.Proofs.Ytdkkgecdhapfhaa.ZQ
open Go.RowKit Go.Proofs.YtdkkgecdhapfhaaW.bD Go.Proofs.YtdkkgecdhapfhaaW.dM Go.Proofs.YtdkkgecdhapfhaaW.eP Go.Proofs.Ytdkkgecdhapfhaa.B
def wQ (kind:Int) (d:ByteArray):Bool:=decide (d.size ≤ 65535) && (decide ((Al d 0 d.size kind).2 = 0) && decide ((Al d 0 d.size kind).1 = d))
theorem uY {kind:Int} {d:ByteArray}:wQ kind d = true ↔ d.size ≤ 65535 ∧ Al d 0 d.size kind = (d,0):=by
 unfold wQ
 simp only [Bool.and_eq_true,decide_eq_true_eq]
 constructor
 ·rintro ⟨h1,h2,h3⟩;exact ⟨h1,Prod.ext h3 h2⟩
 ·rintro ⟨h1,h2⟩;rw [h2];exact ⟨h1,rfl,rfl⟩
theorem BL (k:Nat) (hk:K0 + 10 ≤ k) (kind:Int) (d:ByteArray):iU.f k kind d = some (wQ kind d):=by
 unfold iU.f wQ
 by_cases h:(d.size:Int) > 65535
 ·rw [if_pos h,decide_eq_false (by omega)];rfl
 ·rw [if_neg h,Xf k hk d 0 _ kind (by omega),decide_eq_true (by omega),Bool.true_and]
  simp only [Option.bind_some]
  by_cases h0:(Al d 0 d.size kind).2 = 0
  ·rw [if_pos h0,decide_eq_true h0,zw,Bool.true_and]
  ·rw [if_neg h0,decide_eq_false h0,Bool.false_and]
theorem nL (k:Nat) (hk:K0 + 10 ≤ k) (kind:Int) (d:ByteArray):bS.f k kind d = some (wQ kind d):=by
 unfold bS.f wQ
 by_cases h:(d.size:Int) > 65535
 ·rw [if_pos h,decide_eq_false (by omega)];rfl
 ·rw [if_neg h,Hz k hk d 0 _ kind (by omega),decide_eq_true (by omega),Bool.true_and]
  simp only [Option.bind_some]
  by_cases h0:(Al d 0 d.size kind).2 = 0
  ·rw [if_pos h0,decide_eq_true h0,zw,Bool.true_and]
  ·rw [if_neg h0,decide_eq_false h0,Bool.false_and]
theorem HV (d:ByteArray):gW d 0 d.size:=⟨Int.le_refl _,by omega,by omega⟩
theorem K4 {x d:ByteArray} (h:zH x = (d,0)):x = d ∧ x.size ≤ 65535:=by
 unfold zH at h
 split at h
 ·have:=congrArg Prod.snd h;cases this
 ·exact ⟨congrArg Prod.fst h,by omega⟩
theorem ql {kind:Int} {d:ByteArray} {s:Int × Int × Int} (h:wQ kind d = true) (hs:aD.zD kind = some s) :
  ∃ R,s.1 ≤ (d.size:Int) ∧ F7 d d.size s.2.1.toNat s.1 [] = some R ∧ R.2 + s.2.2 = d.size ∧ d = d.extract 0 s.1.toNat ++ strings_Join.cat R.1 ++ d.extract R.2.toNat d.size ∧ s.1 ≤ R.2 ∧ R.2 ≤ (d.size:Int) ∧ R.1.length = s.2.1.toNat ∧ (∀ x ∈ R.1,jG x = true) ∧ R.2 = s.1 + (strings_Join.cat R.1).size:=by
 obtain ⟨h0,h1⟩:=uY.mp h
 unfold Al KZ at h1
 rw [if_pos (HV d),hs] at h1
 simp only [Int.zero_add,Int.toNat_natCast] at h1
 obtain ⟨a1,a2,a3,a4,a5,a6,a7,a8⟩:=lg hs
 by_cases c:s.1 ≤ (d.size:Int)
 ·rw [if_pos c] at h1
  cases hr:F7 d d.size s.2.1.toNat s.1 [] with
  | none=>rw [hr] at h1;have:=congrArg Prod.snd h1;cases this
  | some R =>
   rw [hr] at h1
   simp only at h1
   by_cases e:R.2 + s.2.2 = d.size
   ·rw [if_pos e] at h1
    obtain ⟨h2,_⟩:=K4 h1
    obtain ⟨b1,b2,b3,l',b4,b5⟩:=qM d _ (by omega) _ _ _ R hr c
    rw [List.nil_append] at b4
    rw [← b4] at b5
    have hz:=congrArg ByteArray.size h2
    simp only [ByteArray.size_append,ByteArray.size_extract] at hz
    refine ⟨R,c,rfl,e,h2.symm,b1,b2,by rw [b3];simp,b5,?_⟩
    simp only [show (0:Int).toNat = 0 from rfl] at hz
    omega
   ·rw [if_neg e] at h1;have:=congrArg Prod.snd h1;cases this
 ·rw [if_neg c] at h1;have:=congrArg Prod.snd h1;cases this
def prt (kind:Int) (d:ByteArray):ByteArray × ByteArray × List ByteArray × Bool :=
 if wQ kind d = true then (match aD.zD kind with
  | some s=>(match F7 d d.size s.2.1.toNat s.1 [] with
   | some R=>(d.extract 0 s.1.toNat,d.extract R.2.toNat d.size,R.1,true)
   | none=>(⟨#[]⟩,⟨#[]⟩,[],false))
  | none=>(d,⟨#[]⟩,[],true)) else (⟨#[]⟩,⟨#[]⟩,[],false)
theorem vZ : (⟨#[]⟩:ByteArray).size = 0:=rfl
theorem wY (k:Nat) (hk:K0 + 20 ≤ k) (d:ByteArray) (hd:d.size ≤ 65535) (s0 s1 s2:Int) (a1:0 ≤ s0) (a3:0 ≤ s1) (a4:s1 ≤ 2) (a5:0 ≤ s2) (a6:s2 ≤ 20) (R:List ByteArray × Int) (c1:s0 ≤ (d.size:Int)) (c2:F7 d d.size s1.toNat s0 [] = some R) (c3:R.2 + s2 = d.size) :
  bW.f k d 0 (d.size:Int) s0 s1 s2 = some (d.extract 0 s0.toNat,d.extract R.2.toNat d.size,R.1,true):=by
 unfold bW.f
 have e2:wrap64 ((d.size:Int) - 0) = d.size:=by rw [dQ (by omega) (by omega)];omega
 have e3:wrap64 (0 + s0) = s0:=by rw [dQ (by omega) (by omega)];omega
 obtain ⟨b1,b2,_⟩:=qM d _ (by omega) _ _ _ R c2 c1
 have hz:((d.extract R.2.toNat d.size).size:Int) = s2:=by rw [ByteArray.size_extract];omega
 obtain ⟨k,rfl⟩:∃ j,k = j + 1:=⟨k - 1,by omega⟩
 have h:=DN d d.size s0 s1 s2 (d.extract 0 s0.toNat) ⟨#[]⟩ (by omega) (Int.le_refl _) ⟨a5,by omega⟩ s1 (by omega) s1.toNat k s0 0 [] (by omega) (by omega) (Int.le_refl _) a1 c1 (by simp only [List.length_nil];omega)
 rw [c2] at h
 simp only [Int.toNat_natCast] at h
 rw [show (((d.extract R.2.toNat d.size).size:Int) == s2) = true from beq_iff_eq.mpr hz] at h
 rw [e2,if_pos c1,if_pos (Int.le_refl _),e3,if_pos a1,if_pos c1]
 exact h
theorem K5 (k:Nat) (hk:K0 + 20 ≤ k) (kind:Int) (d:ByteArray):dn.f k kind d = some (prt kind d):=by
 unfold dn.f prt
 rw [BL k (by omega)]
 simp only [Option.bind_some]
 by_cases h:wQ kind d = true
 ·rw [if_pos h,if_pos h]
  cases hs:aD.zD kind with
  | none=>rfl
  | some s =>
   obtain ⟨R,c1,c2,c3,c4,c5,c6,c7,c8,c9⟩:=ql h hs
   obtain ⟨a1,a2,a3,a4,a5,a6,a7,a8⟩:=lg hs
   obtain ⟨h0,_⟩:=uY.mp h
   obtain ⟨s0,s1,s2⟩:=s
   simp only at a1 a2 a3 a4 a5 a6 c1 c2 c3 c5
   simp only [c2]
   exact wY k hk d h0 s0 s1 s2 a1 a3 a4 a5 a6 R c1 c2 c3
 ·rw [if_neg h,if_neg h]
theorem BM {kind:Int} {d:ByteArray}:(∀ x ∈ (prt kind d).2.2.1,jG x = true) ∧ (prt kind d).2.2.1.length ≤ 2:=by
 unfold prt
 by_cases h:wQ kind d = true
 ·rw [if_pos h]
  cases hs:aD.zD kind with
  | none=>exact ⟨by simp,by simp⟩
  | some s =>
   obtain ⟨R,c1,c2,c3,c4,c5,c6,c7,c8,c9⟩:=ql h hs
   obtain ⟨a1,a2,a3,a4,a5,a6,a7,a8⟩:=lg hs
   simp only [c2]
   exact ⟨c8,by omega⟩
 ·rw [if_neg h];exact ⟨by simp,by simp⟩
theorem wL (k:Nat) (hk:600 ≤ k) (n:ByteArray) (hs:n.size ≤ 1000000000):mR.f k n = some (if jG n = true then oO n else ⟨#[]⟩):=by
 unfold mR.f
 rw [FN k hk n hs,WH n hs]
 simp only [Option.bind_some]
 split <;> rfl
theorem zI (k:Nat) (hk:600 ≤ k) (n:ByteArray) (hs:n.size ≤ 1000000000):fD.f k n = some (if jG n = true then oO n else ⟨#[]⟩):=by
 unfold fD.f
 rw [uQ k hk n hs,Oq n hs]
 simp only [Option.bind_some]
 split <;> rfl
theorem all_eq (k:Nat) (hk:600 ≤ k):∀ l:List ByteArray,(∀ x ∈ l,jG x = true) → eO.all k l = some (l.map oO)
 | [],_=>rfl
 | x :: l,h=>by
  have hx:=h x (by simp)
  have hz:=qj hx
  rw [eO.all,wL k hk x (by omega),if_pos hx]
  simp only [Option.bind_some]
  rw [all_eq k hk l (fun y hy=>h y (by simp [hy]))]
  rfl
theorem uZ : ∀ l:List ByteArray,(strings_Join.cat (l.map oO)).size = (strings_Join.cat l).size
 | []=>rfl
 | x :: l=>by rw [List.map_cons,strings_Join.cat,strings_Join.cat,ByteArray.size_append,ByteArray.size_append,BG,uZ l]
def lw (kind:Int) (d:ByteArray):ByteArray:=(prt kind d).1 ++ strings_Join.cat ((prt kind d).2.2.1.map oO) ++ (prt kind d).2.1
theorem K6 {kind:Int} {d:ByteArray}:(prt kind d).1.size ≤ 65535 ∧ (prt kind d).2.1.size ≤ 65535:=by
 unfold prt
 by_cases h:wQ kind d = true
 ·obtain ⟨h0,_⟩:=uY.mp h
  rw [if_pos h]
  cases hs:aD.zD kind with
  | none=>exact ⟨h0,by show (⟨#[]⟩:ByteArray).size ≤ 65535;decide⟩
  | some s =>
   obtain ⟨R,c1,c2,_⟩:=ql h hs
   simp only [c2]
   simp only [ByteArray.size_extract]
   omega
 ·rw [if_neg h];exact ⟨by decide,by decide⟩
theorem SB (k:Nat) (hk:K0 + 20 ≤ k) (kind:Int) (d:ByteArray):eO.f k kind d = some (lw kind d):=by
 obtain ⟨p1,p2⟩:=@BM kind d
 obtain ⟨p3,p4⟩:=@K6 kind d
 have hcz:=uX p1
 unfold eO.f
 rw [K5 k hk]
 simp only [Option.bind_some]
 rw [all_eq k (by unfold K0 at hk;omega) _ p1]
 simp only [Option.bind_some]
 unfold eO.fin lw
 rw [if_pos (by rw [uZ];omega),if_pos (by rw [List.length_map];omega)]
theorem u7 (d:ByteArray) (e s0 s1 s2:Int) (hm:d.size ≤ 100000) (he:e ≤ (d.size:Int)) (hs:s1 ≤ 100):∀ (n k:Nat) (l:List ByteArray) (i x:Int) (R:List ByteArray × Int),K0 + n ≤ k → x + n = s1 → 0 ≤ x → i ≤ e → l.length + n ≤ 1000 → F7 d e n i l = some R →
  bg.l0 (k + 1) d l i x s0 s1 s2 = some R.1
 | 0,k,l,i,x,R,hk,hx,hx0,hi,hl,h=>by
  cases h
  rw [bg.l0,if_neg (by omega)]
 | n + 1,k,l,i,x,R,hk,hx,hx0,hi,hl,h=>by
  obtain ⟨k,rfl⟩:∃ m,k = m + 1:=⟨k - 1,by omega⟩
  rw [F7] at h
  rw [bg.l0,if_pos (by omega),vW (k + 1) d i hm (qN hm (by omega) (by omega))]
  simp only [Option.bind_some]
  by_cases h0:(wK d i).2.2 = 0
  ·rw [if_pos h0] at h
   by_cases h1:(wK d i).2.1 > e
   ·rw [if_pos h1] at h;cases h
   ·rw [if_neg h1] at h
    rw [if_pos (by omega),dQ (by omega) (by omega)]
    exact u7 d e s0 s1 s2 hm he hs n k _ _ _ R (by omega) (by omega) (by omega) (by omega) (by rw [List.length_append,List.length_singleton];omega) h
  ·rw [if_neg h0] at h;cases h
theorem DU (k:Nat) (hk:K0 + 20 ≤ k) (kind:Int) (d:ByteArray):bg.f k kind d = some (prt kind d).2.2.1:=by
 unfold bg.f prt
 rw [nL k (by omega),oJ k (by omega)]
 simp only [Option.bind_some]
 obtain ⟨k,rfl⟩:∃ j,k = j + 1:=⟨k - 1,by omega⟩
 by_cases h:wQ kind d = true
 ·rw [if_pos h,if_pos h]
  obtain ⟨h0,_⟩:=uY.mp h
  cases hs:aD.zD kind with
  | none =>
   rw [Option.getD_none,bg.l0,if_neg (by decide)]
  | some s =>
   obtain ⟨R,c1,c2,c3,c4,c5,c6,c7,c8,c9⟩:=ql h hs
   obtain ⟨a1,a2,a3,a4,a5,a6,a7,a8⟩:=lg hs
   simp only [c2,Option.getD_some]
   exact u7 d d.size _ _ _ (by omega) (Int.le_refl _) (by omega) s.2.1.toNat k [] s.1 0 R (by omega) (by omega) (Int.le_refl _) c1 (by simp only [List.length_nil];omega) c2
 ·rw [if_neg h,if_neg h]
theorem SC {α} (d:α) (p:List α) (x:α) (s:List α):pV d (p ++ x :: s) (p.length:Int) = x:=by
 unfold pV;simp
theorem sG (d:ByteArray) (hd:d.size ≤ 65535) (xs:List ByteArray) (hxs:xs.length ≤ 1000):∀ (suf pre:List ByteArray) (k:Nat) (out:ByteArray) (i:Int),xs = pre ++ suf → (∀ x ∈ suf,jG x = true) → 700 + suf.length ≤ k → 0 ≤ i → i + (strings_Join.cat suf).size ≤ d.size → out.size + (strings_Join.cat suf).size ≤ 1000000 →
  bI.l0 (k + 1) d xs out i (pre.length:Int) = some (out ++ strings_Join.cat (suf.map oO) ++ d.extract (i + (strings_Join.cat suf).size).toNat d.size)
 | [],pre,k,out,i,hx,hn,hk,hi,hs,ho=>by
  rw [List.append_nil] at hx
  subst hx
  have hz:(d.extract i.toNat d.size).size ≤ 65535:=by rw [ByteArray.size_extract];omega
  simp only [strings_Join.cat,List.map_nil,Fw,append_empty] at hs ho ⊢
  rw [bI.l0,if_neg (by omega),if_pos hi,if_pos (by omega),if_pos (by omega)]
  congr 3
  omega
 | x :: suf,pre,k,out,i,hx,hn,hk,hi,hs,ho=>by
  obtain ⟨k,rfl⟩:∃ j,k = j + 1:=⟨k - 1,by simp only [List.length_cons] at hk;omega⟩
  have hxn:=hn x (by simp)
  have hz:=qj hxn
  have hrd:pV ByteArray.empty xs (pre.length:Int) = x:=by rw [hx];exact SC _ _ _ _
  have hl:(xs.length:Int) = pre.length + suf.length + 1:=by rw [hx];simp;omega
  simp only [List.length_cons,strings_Join.cat,ByteArray.size_append] at hk hs ho
  have hlz:=BG x
  rw [bI.l0,if_pos (by omega),if_pos (by omega),hrd,zI (k + 1) (by omega) x (by omega),if_pos hxn]
  simp only [Option.bind_some]
  rw [if_pos (by omega),dQ (n:=i + (x.size:Int)) (by omega) (by omega),dQ (by omega) (by omega),show ((pre.length:Int) + 1) = ((pre ++ [x]).length:Int) from by simp]
  have:=sG d hd xs hxs suf (pre ++ [x]) k (out ++ oO x) (i + x.size) (by rw [hx];simp) (fun y hy=>hn y (by simp [hy])) (by omega) (by omega) (by omega) (by rw [ByteArray.size_append];omega)
  rw [this]
  have e:i + (x.size:Int) + ((strings_Join.cat suf).size:Int) = i + ((x.size + (strings_Join.cat suf).size:Nat):Int):=by omega
  rw [e]
  simp only [List.map_cons,strings_Join.cat,ByteArray.size_append,ByteArray.append_assoc]
theorem H6 (k:Nat) (hk:K0 + 20 ≤ k) (kind:Int) (d:ByteArray):bI.f k kind d = some (lw kind d):=by
 obtain ⟨p1,p2⟩:=@BM kind d
 unfold bI.f
 rw [nL k (by omega),DU k hk,oJ k (by omega)]
 simp only [Option.bind_some]
 unfold lw prt
 unfold prt at p1 p2
 unfold K0 at hk
 obtain ⟨k,rfl⟩:∃ j,k = j + 1:=⟨k - 1,by omega⟩
 by_cases h:wQ kind d = true
 ·simp only [if_pos h] at p1 p2 ⊢
  obtain ⟨h0,_⟩:=uY.mp h
  cases hs:aD.zD kind with
  | none =>
   simp only [Option.getD_none]
   rw [if_pos (Int.le_refl _),if_pos (by omega)]
   have:=sG d h0 [] (by simp) [] [] k (d.extract 0 0) 0 rfl (by simp) (by simp only [List.length_nil];omega) (Int.le_refl _) (by simp only [strings_Join.cat,vZ];omega) (by simp only [strings_Join.cat,vZ,ByteArray.size_extract];omega)
   simp only [List.length_nil] at this
   rw [show ((0:Int).toNat) = 0 from rfl,show ((0:Nat):Int) = 0 from rfl] at *
   rw [this]
   have e0:d.extract 0 0 = ⟨#[]⟩:=eq_empty (by rw [ByteArray.size_extract];omega)
   simp [strings_Join.cat,e0,empty_append,append_empty,vZ,ByteArray.extract_zero_size]
  | some s =>
   obtain ⟨R,c1,c2,c3,c4,c5,c6,c7,c8,c9⟩:=ql h hs
   obtain ⟨a1,a2,a3,a4,a5,a6,a7,a8⟩:=lg hs
   simp only [hs,c2,Option.getD_some] at p1 p2 ⊢
   have hcz:=uX p1
   rw [if_pos a1,if_pos c1]
   have:=sG d h0 R.1 (by omega) R.1 [] k (d.extract 0 s.1.toNat) s.1 rfl p1 (by omega) a1 (by omega) (by rw [ByteArray.size_extract];omega)
   rw [show ((([]:List ByteArray).length:Nat):Int) = 0 from rfl] at this
   rw [this,c9]
 ·simp only [if_neg h]
  rfl
end Go.Proofs.Ytdkkgecdhapfhaa.ZQ
set_option maxRecDepth 100000
namespace Go.Proofs.Ytdkkgecdhapfhaa.Kn
open Go Go.RowKit Ev
abbrev AG := List AV → Option (List AV × List AV)
def Xg (g:ByteArray → SV):AG:=fun gu=>match gu with
 | [.one (.f (.str q))]=>if q.size ≤ 1000000 then some (IX [g q],IX [.str q]) else none
 | _=>none
def Xh (g:Int → ByteArray → SV):AG:=fun gu=>match gu with
 | [.one (.f (.int .i64 k)),.one (.f (.str q))]=>if q.size ≤ 1000000 then some (IX [g k q],IX [.int .i64 k,.str q]) else none
 | _=>none
theorem xH {f:FuncId} {g:ByteArray → SV} (h:∀ q w,q.size ≤ 1000000 → Calls Try.prog f #[.string q] w fun e w'=>e = .returned (encS (g q)) ∧ Below w.heap.size w w'):Sat Try.prog f (Xg g):=by
 refine Sat.wM fun gu r he=>?_
 unfold Xg at he
 split at he
 ·split at he
  ·cases he;rename_i q hq;exact ⟨[.str q],[g q],rfl,rfl,fun w=>h q w hq⟩
  ·cases he
 ·cases he
theorem xI {f:FuncId} {g:Int → ByteArray → SV} (h:∀ k q w,q.size ≤ 1000000 → Calls Try.prog f #[.int .i64 k,.string q] w fun e w'=>e = .returned (encS (g k q)) ∧ Below w.heap.size w w'):Sat Try.prog f (Xh g):=by
 refine Sat.wM fun gu r he=>?_
 unfold Xh at he
 split at he
 ·split at he
  ·cases he;rename_i k q hq;exact ⟨[.int .i64 k,.str q],[g k q],rfl,rfl,fun w=>h k q w hq⟩
  ·cases he
 ·cases he
def Yr (g:ByteArray → Int → Int → Int × Bool):AG:=fun gu=>match gu with
 | [.one (.f (.str q)),.one (.f (.int .i64 a)),.one (.f (.int .i64 z))]=>if q.size ≤ 1000000 then some (IX [.int .i64 (g q a z).1,.bool (g q a z).2],IX [.str q,.int .i64 a,.int .i64 z]) else none
 | _=>none
theorem JH {f:FuncId} {g:ByteArray → Int → Int → Int × Bool} (h:∀ q a z w,q.size ≤ 1000000 → Calls Try.prog f #[.string q,.int .i64 a,.int .i64 z] w fun e w'=>e = .returned (.tuple #[.int .i64 (g q a z).1,.bool (g q a z).2]) ∧ Below w.heap.size w w'):Sat Try.prog f (Yr g):=by
 refine Sat.wM fun gu r he=>?_
 unfold Yr at he
 split at he
 ·split at he
  ·cases he;rename_i q a z hq;exact ⟨[.str q,.int .i64 a,.int .i64 z],[.int .i64 (g q a z).1,.bool (g q a z).2],rfl,rfl,fun w=>h q a z w hq⟩
  ·cases he
 ·cases he
def F9 (s:ByteArray) (a z:Int):Int × Bool:=if ZQ.j3 s a z then (ZQ.iq z.toNat s a,true) else (0,false)
def Xi (q:ByteArray):ByteArray:=if B.jG q = true then B.oO q else ⟨#[]⟩
def OV : Th:=⟨B.jG,Xi,ZQ.wQ,ZQ.lw⟩
def leafs : List (FuncId × AG):=[
 (91,Xg fun q=>.bool (B.jG q)),(92,Xg fun q=>.str (Xi q)),
 (100,Xg fun q=>.bool (B.jG q)),(101,Xg fun q=>.str (Xi q)),
 (94,Xh fun k q=>.bool (ZQ.wQ k q)),(95,Xh fun k q=>.str (ZQ.lw k q)),
 (83,Xh fun k q=>.bool (ZQ.wQ k q)),(84,Xh fun k q=>.str (ZQ.lw k q)),
 (88,QV 1 false),(70,QV 3 true),
 (74,Yr F9),(75,Yr F9),(82,gMC)]
theorem Ga : ∀ p ∈ leafs,Sat Try.prog p.1 p.2:=by
 have hk:∀ q:ByteArray,q.size ≤ 1000000 → q.size ≤ 1000000000:=fun q h=>by omega
 intro p hp
 simp only [leafs,List.mem_cons,List.not_mem_nil,or_false] at hp
 rcases hp with rfl | rfl | rfl | rfl | rfl | rfl | rfl | rfl | rfl | rfl | rfl | rfl | rfl
 ·exact xH fun q w hq=>ZQ.iQ.calls 600 q _ w (ZQ.FN 600 (Nat.le_refl _) q (hk q hq))
 ·exact xH fun q w hq=>ZQ.mR.calls 600 q _ w (ZQ.wL 600 (Nat.le_refl _) q (hk q hq))
 ·exact xH fun q w hq=>ZQ.dD.calls 600 q _ w (ZQ.uQ 600 (Nat.le_refl _) q (hk q hq))
 ·exact xH fun q w hq=>ZQ.fD.calls 600 q _ w (ZQ.zI 600 (Nat.le_refl _) q (hk q hq))
 ·exact xI fun k q w hq=>ZQ.iU.calls _ k q _ w (ZQ.BL (ZQ.K0 + 20) (by omega) k q)
 ·exact xI fun k q w hq=>ZQ.eO.calls _ k q _ w (ZQ.SB (ZQ.K0 + 20) (by omega) k q)
 ·exact xI fun k q w hq=>ZQ.bS.calls _ k q _ w (ZQ.nL (ZQ.K0 + 20) (by omega) k q)
 ·exact xI fun k q w hq=>ZQ.bI.calls _ k q _ w (ZQ.H6 (ZQ.K0 + 20) (by omega) k q)
 ·exact QW
 ·exact QX
 ·refine JH fun q a z w hq=>?_
  have h:=ZQ.get_eq 9 (Nat.le_refl _) q a z (by omega)
  exact (ZQ.bn.calls 9 q a z _ _ w h).mono fun e w' hh=>⟨hh.1,hh.2.below⟩
 ·refine JH fun q a z w hq=>?_
  have h:=ZQ.sF 9 (Nat.le_refl _) q a z hq
  exact (ZQ.av.calls 9 q a z _ _ w h).mono fun e w' hh=>⟨hh.1,hh.2.below⟩
 ·exact QY
theorem zJ : ∀ p ∈ leafs,∃ fn,Try.prog.funcs[p.1]? = some fn ∧ (fn.name == "runtime.NumGoroutine") = false ∧ fn.body.isSome = true:=by
 intro p hp
 simp only [leafs,List.mem_cons,List.not_mem_nil,or_false] at hp
 rcases hp with rfl | rfl | rfl | rfl | rfl | rfl | rfl | rfl | rfl | rfl | rfl | rfl | rfl
 ·exact ⟨Try.f91,by kernel_rfl,by kernel_rfl,by kernel_rfl⟩
 ·exact ⟨Try.f92,by kernel_rfl,by kernel_rfl,by kernel_rfl⟩
 ·exact ⟨Try.f100,by kernel_rfl,by kernel_rfl,by kernel_rfl⟩
 ·exact ⟨Try.f101,by kernel_rfl,by kernel_rfl,by kernel_rfl⟩
 ·exact ⟨Try.f94,by kernel_rfl,by kernel_rfl,by kernel_rfl⟩
 ·exact ⟨Try.f95,by kernel_rfl,by kernel_rfl,by kernel_rfl⟩
 ·exact ⟨Try.f83,by kernel_rfl,by kernel_rfl,by kernel_rfl⟩
 ·exact ⟨Try.f84,by kernel_rfl,by kernel_rfl,by kernel_rfl⟩
 ·exact ⟨Try.f88,by kernel_rfl,by kernel_rfl,by kernel_rfl⟩
 ·exact ⟨Try.f70,by kernel_rfl,by kernel_rfl,by kernel_rfl⟩
 ·exact ⟨Try.f74,by kernel_rfl,by kernel_rfl,by kernel_rfl⟩
 ·exact ⟨Try.f75,by kernel_rfl,by kernel_rfl,by kernel_rfl⟩
 ·exact ⟨Try.f82,by kernel_rfl,by kernel_rfl,by kernel_rfl⟩
def K7 : Env:=pQ leafs
theorem SE : iG Try.prog K7:=yP Ga
theorem K8 : eB Try.prog K7:=rY zJ
noncomputable def ins : List (FuncId × AG):=(50,Wi K7 200000000000001 (0 + 4)) :: leafs
theorem Xj : ∀ p ∈ ins,Sat Try.prog p.1 p.2:=by
 intro p hp
 rcases List.mem_cons.mp hp with rfl | hp
 ·exact NG SE K8 _ _
 ·exact Ga p hp
theorem OW : ∀ p ∈ ins,∃ fn,Try.prog.funcs[p.1]? = some fn ∧ (fn.name == "runtime.NumGoroutine") = false ∧ fn.body.isSome = true:=by
 intro p hp
 rcases List.mem_cons.mp hp with rfl | hp
 ·exact ⟨Try.f50,by kernel_rfl,by kernel_rfl,by kernel_rfl⟩
 ·exact zJ p hp
noncomputable def ext1 : Env:=pQ ins
theorem SF : iG Try.prog ext1:=yP Xj
theorem K9 : eB Try.prog ext1:=rY OW
theorem Xk : OV.Ok ext1:=by
 constructor <;> intros <;> simp_all [ext1,ins,leafs,pQ,Xg,Xh,IX,Ym,OV,vs,vb,vi]
theorem JI {α:Type} (sz:Nat) (own:Bool) (l:List α) (f:α → List FV) (hf:∀ x,(f x).length = sz) (h:l.length ≤ 1000000):QV sz own [vl (l.map f)] = some ([.one (if own then .own sz (l.map f) else .f (.sl (l.map f)))],[vl (l.map f)]):=by
 have h1:((l.map f).all fun r=>r.length == sz) = true:=by
  rw [List.all_eq_true];intro r hr;obtain ⟨x, -,rfl⟩:=List.mem_map.mp hr;exact beq_iff_eq.mpr (hf x)
 show (if (l.map f).length ≤ 1000000 ∧ _ then _ else _) = _
 rw [if_pos ⟨by rw [List.length_map];exact h,h1⟩]
theorem abV (l:List ByteArray) (h:l.length ≤ 1000000):QV 1 false [vl (l.map fO)] = some ([vl (l.map fO)],[vl (l.map fO)]):=JI 1 false l fO (fun _=>rfl) h
theorem abW (l:List Qn) (h:l.length ≤ 1000000):QV 3 true [vl (l.map rQ)] = some ([.one (.own 3 (l.map rQ))],[vl (l.map rQ)]):=JI 3 true l rQ (fun _=>rfl) h
theorem abX : qR K7:=⟨fun l h=>abW l h,fun l h=>abV l h⟩
theorem Xl : qR ext1:=⟨fun l h=>abW l h,fun l h=>abV l h⟩
theorem BN (gu:List AV):ext1 50 gu = Wi K7 200000000000001 (0 + 4) gu:=by
 unfold ext1 ins pQ;rw [if_pos rfl]
theorem Xm : Wj K7:=⟨fun m=>rfl⟩
theorem OX : Nu ext1 where
 d0 q:=by rw [BN];exact Nj q
 d1 s q h ho hm hc:=by rw [BN];exact Nk abX Xm (Nat.le_refl _) s q h ho hm hc
theorem Xn : zZ F9 ext1:=by
 refine ⟨fun s a z h=>?_,fun s a z h=>?_,fun s a z=>?_⟩
 ·simp [ext1,ins,leafs,pQ,Yr,IX,Ym,h,vs,vb,vi]
 ·simp [ext1,ins,leafs,pQ,Yr,IX,Ym,h,vs,vb,vi]
 ·unfold F9
  split
  ·exact (ZQ.oH _ _ _).1
  ·exact Int.le_refl _
theorem SG : OV.pU F9:=by constructor <;> decide +kernel
end Go.Proofs.Ytdkkgecdhapfhaa.Kn
namespace Go.Proofs.Ytdkkgecdhapfhaa.Ev
open Go Go.RowKit
structure Old (w w':World):Prop where
 os:w'.os = w.os
 output:w'.output = w.output
 size:w.heap.size ≤ w'.heap.size
 block:∀ k,k < w.heap.size → w'.heap[k]? = w.heap[k]?
theorem Old.frame {W w':World} (h:Old W w') (may:MemPlace → Prop):W.keptBut w' may:=by
 refine ⟨h.os,h.output,fun i hi=>?_⟩
 rw [h.block i hi]
 split <;> simp_all
theorem Old.same {W w':World} (h:Old W w') {p:MemPlace} (hp:p.block < W.heap.size):W.sameAt w' p:=by
 cases p with
 | cell b o=>exact World.cell?_of_block (w:=W) (h.block b hp)
 | map b=>exact h.block b hp
theorem Old.trod {H:Type} {enc:TypeId × Value → H} {P:Program} {t:TypeId} (hl:laidOutB P = true) (hr:P.readableRec t = true) (hrow:t < P.types.size) {W W':World} {v:Value} {d:DataW H} {ps:List MemPlace}
  (h:DataW.Trod enc P W 0 (fun _=>true) true t v d ps) (hb:Old W W') (hlt:∀ x ∈ ps,x.block < W.heap.size):DataW.Trod enc P W' 0 (fun b=>decide (b < W.heap.size)) true t v d ps :=
 WideElems.Trod_stays hl hr hrow h (fun x hx=>hb.same (hlt x hx)) (fun x hx=>by simpa using hlt x hx)
theorem La {P:Program} {Γ:Env} (kQ:iG P Γ) {f:FuncId} {gu rX:List AV} {b:Bool} {vals:List Value} {W:World} (h:Γ f gu = some ([.one (.f (.bool b))],rX)) (ha:fT (fun k=>k < W.heap.size) W gu vals []) :
  Calls P f vals.toArray W fun e W'=>e = .returned (.bool b) ∧ Old W W':=by
 refine (kQ f gu _ _ h (fun k=>k < W.heap.size) W vals [] ha List.nodup_nil (by simp) (fun _ h=>h)).mono fun e w' ⟨bK,vI,b1,b2,he,hp⟩=>?_
 refine ⟨?_,hp.kp.1,hp.kp.2,hp.big,fun k hk=>hp.ext k hk (by simp)⟩
 match vI,hp.rs with
 | [v],⟨c1,c2,h1,h2,h3⟩=>rw [he,show v = .bool b from h1.1];rfl
def H7 (P:Program) {α:Type} (T:TypeId) (f:α → List FV) (G:α → Prop):Prop :=
 ∀ {H:Type} (enc:TypeId × Value → H) (w:World) (spare:Nat → Bool) (held:Bool) (fuel:Nat) (cs:List Value) (x:DataW H × List MemPlace),
  DataW.trod enc P w 0 spare held fuel T cs = some x → (∀ n ∈ x.1.weights P T,n ≤ reachBytes) → ∃ a:α,cO (fun k=>k < w.heap.size) w (f a) cs ∧ G a
section
variable {P : Program}
theorem vk {k:IntKind} {T:TypeId} (h:P.underlying T = some (.int k)):H7 P T (fun n=>[FV.int k n]) (fun n=>(Lit.int k n).wf = true):=by
 intro H enc w spare held fuel cs x hx _
 obtain ⟨n,rfl,rfl,hw⟩:=DataW.trod_int h hx
 exact ⟨n,⟨by simp only [eZ],trivial⟩,hw⟩
theorem OY {T:TypeId} (h:P.underlying T = some .bool):H7 P T (fun b=>[FV.bool b]) (fun _=>True):=by
 intro H enc w spare held fuel cs x hx _
 obtain ⟨b,rfl,rfl⟩:=DataW.trod_bool h hx
 exact ⟨b,⟨by simp only [eZ],trivial⟩,trivial⟩
theorem JJ {T:TypeId} (h:P.underlying T = some .string):H7 P T (fun s=>[FV.str s]) (fun s=>s.size ≤ 140737488351232):=by
 intro H enc w spare held fuel cs x hx hz
 obtain ⟨s,rfl,rfl,hw⟩:=DataW.trod_string h hx
 refine ⟨s,⟨by simp only [eZ],trivial⟩,?_⟩
 have:=hz s.data.toList.length (by simp [DataW.weights])
 rw [Array.length_toList] at this
 exact this
theorem nX {H:Type} {e:TypeId}:∀ {ds:List (DataW H)} {i:Nat} {d:DataW H},ds[i]? = some d → ∀ n ∈ d.weights P e,n ∈ DataW.weightsAll P e ds
 | [],i,d,h,_,_=>by simp at h
 | d0 :: ds,0,d,h,n,hn=>by
  simp at h;subst h
  exact List.mem_append.mpr (.inl hn)
 | d0 :: ds,i + 1,d,h,n,hn=>by
  simp at h
  exact List.mem_append.mpr (.inr (nX h n hn))
theorem Gb {H:Type} {ts:List TypeId} {ds:List (DataW H)} (h:(DataW.weightsEach P ts ds).all (· ≤ reachBytes) = true) {j:Nat} {t:TypeId} {d:DataW H} (ht:ts[j]? = some t) (hd:ds[j]? = some d) :
  ∀ n ∈ d.weights P t,n ≤ reachBytes:=fun n hn=>by
 have:=List.all_eq_true.1 h n (DataW.weights_mem_each ht hd n hn)
 simpa using this
theorem vo {α:Type} {Q:Nat → α → Prop}:∀ n,(∀ i,i < n → ∃ y,Q i y) → ∃ ys:List α,ys.length = n ∧ ∀ i y,ys[i]? = some y → Q i y
 | 0,_=>⟨[],rfl,by simp⟩
 | n + 1,h=>by
  obtain ⟨ys,hl,hq⟩:=vo n (fun i hi=>h i (by omega))
  obtain ⟨y,hy⟩:=h n (by omega)
  refine ⟨ys ++ [y],by simp [hl],fun i z hz=>?_⟩
  by_cases hi:i < n
  ·rw [List.getElem?_append_left (by omega)] at hz
   exact hq i z hz
  ·have hlt:=(List.getElem?_eq_some_iff.1 hz).1
   simp only [List.length_append,List.length_singleton] at hlt
   obtain rfl:i = n:=by omega
   rw [List.getElem?_append_right (by omega),hl,Nat.sub_self] at hz
   simp at hz
   subst hz
   exact hy
theorem BO {Fz:Nat → Prop} {w:World} {b:Nat}:∀ (xs:List FV) (cs:List Value) (o:Nat),cO Fz w xs cs → (∀ i u,cs[i]? = some u → w.cell? ⟨b,o + i,none⟩ = some u) → dZ Fz w b o xs
 | [],_,_,_,_=>by simp only [dZ]
 | x :: xs,[],_,h,_=>h.elim
 | x :: xs,c :: cs,o,h,hc=>by
  simp only [dZ]
  exact ⟨⟨c,hc 0 c rfl,h.1⟩,BO xs cs (o + 1) h.2 fun i u hi=>by rw [show o + 1 + i = o + (i + 1) from by omega];exact hc (i + 1) u hi⟩
theorem zK {Fz:Nat → Prop} {w:World} {sz b:Nat} {α:Type} {f:α → List FV} (hf:∀ a,(f a).length = sz):∀ (l:List α) (o:Nat),(∀ i y,l[i]? = some y → dZ Fz w b (o + i * sz) (f y)) → dh Fz w sz b o (l.map f)
 | [],_,_=>by simp only [List.map_nil,dh]
 | y :: l,o,h=>by
  simp only [List.map_cons,dh]
  refine ⟨hf y,by simpa using h 0 y rfl,zK hf l (o + sz) fun i z hz=>?_⟩
  rw [show o + sz + i * sz = o + (i + 1) * sz from by rw [Nat.add_mul];omega]
  exact h (i + 1) z hz
theorem Lb (a:Addr) (x y:Nat):(a.add x).add y = a.add (x + y):=by
 unfold Addr.add
 by_cases hx:x = 0
 ·subst hx;simp
 ·by_cases hy:y = 0
  ·subst hy;simp [hx]
  ·simp [hx,hy,Nat.add_assoc]
theorem zL {w:World} {a:Addr} {u:Value} (h:w.cell? a = some u):a = ⟨a.block,a.off,none⟩ ∧ a.block < w.heap.size:=by
 unfold World.cell? at h
 split at h
 ·rename_i c _ _ hb
  split at h
  ·cases h
  ·rename_i hs
   obtain ⟨b,o,s⟩:=a
   cases s with
   | none=>exact ⟨rfl,by have:=(Array.getElem?_eq_some_iff.mp hb).1;exact this⟩
   | some s=>simp at hs
 ·cases h
theorem BP {α:Type} {f:α → List FV} {T e:TypeId} {G:α → Prop} (sz:Nat) (h:P.underlying T = some (.slice e)) (hc:P.cellsOf e = sz) (h0:0 < sz) (hf:∀ a,(f a).length = sz) (hby:decide (1 ≤ P.bytesOf e) = true) (hd:H7 P e f G) :
  H7 P T (fun l:List α=>[FV.sl (l.map f)]) (fun l=>l.length ≤ 140737488351232 ∧ ∀ x ∈ l,G x):=by
 intro H enc w spare held fuel cs x hx hz
 rcases DataW.trod_slice h hx with ⟨rfl,rfl⟩ | ⟨a,len,cap,elems,rest,n,_,rfl,rfl,hb,hl,hm,hlen,hel,_,_⟩
 ·refine ⟨[],⟨?_,trivial⟩,by simp⟩
  simp only [eZ]
  exact ⟨none,0,rfl,Nat.le_refl _,by simp,.inl rfl⟩
 ·have hw:∀ m ∈ (elems.length + rest.length) * P.bytesOf e :: (DataW.weightsAll P e (elems.map (·.1)) ++ DataW.weightsAll P e (rest.map (·.1))),m ≤ reachBytes:=by
   intro m hm'
   refine hz m ?_
   simp only [DataW.weights,h,List.length_map]
   exact hm'
  obtain ⟨ys,hyl,hys⟩:=vo (α:=α) (Q:=fun i y=>∃ c,w.cells? 0 (a.add (i * P.cellsOf e)) (P.cellsOf e) = some c ∧ cO (fun k=>k < w.heap.size) w (f y) c ∧ G y) len (fun i hi=>by
   have h1:=hel i hi
   rw [List.getElem?_eq_getElem (by omega),Option.bind_eq_some_iff] at h1
   obtain ⟨c,hc1,hc2⟩:=h1
   obtain ⟨y,hy,hg⟩:=hd enc w spare held n c _ hc2 (fun m hm'=>by
    refine hw m (List.mem_cons_of_mem _ (List.mem_append.mpr (.inl ?_)))
    exact nX (i:=i) (d:=(elems[i]'(by omega)).1) (by rw [List.getElem?_map,List.getElem?_eq_getElem (by omega)];rfl) m hm')
   exact ⟨y,c,hc1,hy,hg⟩)
  have hlen1:(elems.length + rest.length) * P.bytesOf e ≤ reachBytes:=hw _ (by simp)
  have hlm:cap ≤ 9223372036854775807:=by unfold maxLen at hm;omega
  refine ⟨ys,⟨?_,trivial⟩,?_,?_⟩
  ·simp only [eZ,List.length_map]
   refine ⟨some a,cap,by rw [hyl],by omega,by omega,?_⟩
   cases hy0:ys with
   | nil=>exact .inl rfl
   | cons y0 ys0 =>
    right
    obtain ⟨c0,k0,_,_⟩:=hys 0 y0 (by rw [hy0];rfl)
    rw [hc] at k0
    obtain ⟨_,kl,kc⟩:=World.cells?_some k0
    have k1:=kc 0 h0
    rw [List.getElem?_eq_getElem (by omega)] at k1
    obtain ⟨ea,eb⟩:=zL k1
    have ea0:(a.add (0 * sz)).add 0 = a:=by simp [Addr.add]
    rw [ea0] at ea eb
    refine ⟨a.block,a.off,sz,congrArg some ea,eb,?_⟩
    rw [← hy0]
    refine zK hf ys a.off fun i y hi=>?_
    obtain ⟨c,hc1,hk,_⟩:=hys i y hi
    rw [hc] at hc1
    obtain ⟨_,hcl,hcc⟩:=World.cells?_some hc1
    refine BO _ c _ hk fun j u hj=>?_
    have hj':j < sz:=by have:=(List.getElem?_eq_some_iff.1 hj).1;omega
    have:=hcc j hj'
    rw [Lb,hj] at this
    obtain ⟨e1,_⟩:=zL this
    rw [e1] at this
    have e2:a.add (i * sz + j) = ⟨a.block,a.off + i * sz + j,none⟩:=by
     rw [ea];unfold Addr.add;split
     ·rename_i hz;congr 1;simp only;omega
     ·congr 1;simp only;omega
    rw [e2] at this
    exact this
  ·rw [hyl,← hlen]
   have h1:elems.length * P.bytesOf e ≤ (elems.length + rest.length) * P.bytesOf e:=Nat.mul_le_mul_right _ (by omega)
   have h2:reachBytes = 140737488351232:=rfl
   have h3:elems.length * 1 ≤ elems.length * P.bytesOf e:=Nat.mul_le_mul_left _ (of_decide_eq_true hby)
   omega
  ·intro y hy
   obtain ⟨i,hi,rfl⟩:=List.mem_iff_getElem.1 hy
   obtain ⟨_,_,_,hg⟩:=hys i _ (List.getElem?_eq_getElem hi)
   exact hg
def SH (P:Program) {α:Type} (sz:Nat) (f:α → List FV) (fs:List (TypeId × Nat)) (off:Nat) (G:α → Prop):Prop :=
 ∀ {H:Type} (enc:TypeId × Value → H) (w:World) (spare:Nat → Bool) (held:Bool) (n:Nat) (cs:List Value) (xs:List (DataW H × List MemPlace)),
  (∀ (i:Nat) (f:TypeId × Nat),fs[i]? = some f → DataW.trod enc P w 0 spare held n f.1 ((cs.drop f.2).take (P.cellsOf f.1)) = xs[i]?) → xs.length = fs.length →
  (∀ (i:Nat) (x:DataW H × List MemPlace) (f:TypeId × Nat),xs[i]? = some x → fs[i]? = some f → ∀ m ∈ x.1.weights P f.1,m ≤ reachBytes) → cs.length = off + sz → ∃ a,cO (fun k=>k < w.heap.size) w (f a) (cs.drop off) ∧ G a
theorem wh {α:Type} {sz:Nat} {f:α → List FV} {t:TypeId} {off:Nat} {G:α → Prop} (hd:H7 P t f G) (hc:P.cellsOf t = sz):SH P sz f [(t,off)] off G:=by
 intro H enc w spare held n cs xs hf hl hw hn
 match xs,hl with
 | [y],_ =>
  have h1:=hf 0 _ rfl
  have h2:(cs.drop off).take (P.cellsOf t) = cs.drop off:=List.take_of_length_le (by rw [List.length_drop];omega)
  rw [h2] at h1
  exact hd enc w spare held n _ y h1 (hw 0 y _ rfl rfl)
theorem BQ {Fz:Nat → Prop} {w:World}:∀ {xs ys:List FV} {cs ds:List Value},cO Fz w xs cs → cO Fz w ys ds → cO Fz w (xs ++ ys) (cs ++ ds)
 | [],_,[],_,_,h=>h
 | [],_,_ :: _,_,h,_=>h.elim
 | _ :: _,_,[],_,h,_=>h.elim
 | x :: xs,ys,c :: cs,ds,h,k=>⟨h.1,BQ h.2 k⟩
theorem kg {α β:Type} {sz sz':Nat} {f:α → List FV} {g:β → List FV} {t:TypeId} {fs:List (TypeId × Nat)} {off:Nat} {G:α → Prop} {G':β → Prop} (hd:H7 P t f G) (hc:P.cellsOf t = sz)
  (hr:SH P sz' g fs (off + sz) G'):SH P (sz + sz') (fun p:α × β=>f p.1 ++ g p.2) ((t,off) :: fs) off (fun p=>G p.1 ∧ G' p.2):=by
 intro H enc w spare held n cs xs hf hl hw hn
 match xs,hl with
 | y :: ys,hl =>
  have h1:=hf 0 _ rfl
  obtain ⟨a,ha,ga⟩:=hd enc w spare held n _ y h1 (hw 0 y _ rfl rfl)
  obtain ⟨b,hb,gb⟩:=hr enc w spare held n cs ys (fun i f hi=>hf (i + 1) f hi) (by simpa using hl) (fun i x f hx hfi=>hw (i + 1) x f hx hfi) (by omega)
  refine ⟨(a,b),?_,ga,gb⟩
  have e:cs.drop off = (cs.drop off).take (P.cellsOf t) ++ cs.drop (off + sz):=by rw [← List.drop_drop,hc,List.take_append_drop]
  rw [e]
  exact BQ ha hb
theorem sH {α:Type} {sz:Nat} {f:α → List FV} {T:TypeId} {fs:Array Field} {G:α → Prop} (h:P.underlying T = some (.struct fs)) (hc:P.cellsOf T = sz)
  (hd:SH P sz f (fs.toList.map fun f=>(f.type,f.offset)) 0 G):H7 P T f G:=by
 intro H enc w spare held fuel cs x hx hz
 obtain ⟨xs,n,_,rfl,hl,hlen,hf⟩:=DataW.trod_struct h hx
 have hd':=hd enc w spare held n cs xs ?_ (by rw [List.length_map,Array.length_toList];exact hlen) ?_ (by rw [Nat.zero_add,← hc];exact hl)
 ·obtain ⟨a,ha,ga⟩:=hd'
  exact ⟨a,by simpa using ha,ga⟩
 ·intro i f hi
  rw [List.getElem?_map,Option.map_eq_some_iff] at hi
  obtain ⟨f',hf',rfl⟩:=hi
  exact hf i f' (by rw [← Array.getElem?_toList];exact hf')
 ·intro i x f hxi hfi m hm
  refine hz m ?_
  simp only [DataW.weights,h]
  refine DataW.weights_mem_each (j:=i) (t:=f.1) (d:=x.1) ?_ ?_ m hm
  ·rw [List.getElem?_map] at hfi ⊢
   rw [Option.map_eq_some_iff] at hfi ⊢
   obtain ⟨f',hf',rfl⟩:=hfi
   exact ⟨f',hf',rfl⟩
  ·rw [List.getElem?_map,hxi];rfl
theorem xJ {α β:Type} {T:TypeId} {f:α → List FV} {f':β → List FV} {G:α → Prop} {G':β → Prop} (g:α → β) (hg:∀ a,f' (g a) = f a) (hG:∀ a,G a → G' (g a)) (hd:H7 P T f G):H7 P T f' G':=by
 intro H enc w spare held fuel cs x hx hz
 obtain ⟨a,ha,ga⟩:=hd enc w spare held fuel cs x hx hz
 exact ⟨g a,by rw [hg];exact ha,hG a ga⟩
theorem Gc {Fz:Nat → Prop} {w:World} {x:FV} {v:Value} (h:eZ Fz w x v):qP Fz w (.one (.f x)) v []:=⟨h,rfl⟩
theorem zM {Fz:Nat → Prop} {w:World} {x:AV} {v:Value} {xs:List AV} {vs:List Value} (h:qP Fz w x v []) (k:fT Fz w xs vs []):fT Fz w (x :: xs) (v :: vs) []:=⟨[],[],h,k,rfl⟩
theorem Lc {Fz:Nat → Prop} {w:World}:fT Fz w [] [] []:=rfl
end
end Go.Proofs.Ytdkkgecdhapfhaa.Ev
set_option maxRecDepth 100000
namespace Go.Proofs.Ytdkkgecdhapfhaa.Kn
open Go Ev
theorem opQ : H7 Try.prog 32 rQ (fun _=>True) :=
 xJ (fun p:ByteArray × Int × Int=>⟨p.1,p.2.1,p.2.2⟩) (by exact fun _=>rfl) (by exact fun _ _=>trivial) (sH Try.underlying32 (by kernel_rfl) (kg (sz:=1) (sz':=2) (JJ Try.underlying9) (by kernel_rfl) (kg (sz:=1) (sz':=1) (vk Try.underlying3) (by kernel_rfl) (wh (vk Try.underlying3) (by kernel_rfl)))))
theorem opD : H7 Try.prog 33 (fun d:List ByteArray=>[.sl (d.map fO)]) (fun d=>d.length ≤ 140737488351232) :=
 xJ (fun d:List ByteArray=>d) (by exact fun _=>rfl) (by exact fun _ h=>h.1) (BP 1 Try.underlying33 (by kernel_rfl) (by decide) (fun _=>rfl) (by kernel_rfl) (JJ Try.underlying9))
theorem opS : H7 Try.prog 35 rS (fun x=>x.d.length ≤ 140737488351232) :=
 xJ (fun p:Qn × List ByteArray × Int=>⟨p.1.q,p.1.t,p.1.c,p.2.1,p.2.2⟩) (by exact fun _=>rfl) (by exact fun _ h=>h.2.1) (sH Try.underlying35 (by kernel_rfl) (kg (sz:=3) (sz':=2) opQ (by kernel_rfl) (kg (sz:=1) (sz':=1) opD (by kernel_rfl) (wh (vk Try.underlying3) (by kernel_rfl)))))
theorem opO : H7 Try.prog 80 A9 (fun x=>x.s.d.length ≤ 140737488351232) :=
 xJ (fun p:Int × Int × Qn × Bool × Se=>⟨p.1,p.2.1,p.2.2.1,p.2.2.2.1,p.2.2.2.2⟩) (by exact fun _=>rfl) (by exact fun _ h=>h.2.2.2.2) (sH Try.underlying80 (by kernel_rfl) (kg (sz:=1) (sz':=10) (vk Try.underlying3) (by kernel_rfl) (kg (sz:=1) (sz':=9) (vk Try.underlying3) (by kernel_rfl) (kg (sz:=3) (sz':=6) opQ (by kernel_rfl) (kg (sz:=1) (sz':=5) (OY Try.underlying4) (by kernel_rfl) (wh opS (by kernel_rfl)))))))
theorem opL : H7 Try.prog 71 (fun l:List On=>[.sl (l.map A9)]) (fun l=>l.length ≤ 140737488351232 ∧ ∀ x ∈ l,x.s.d.length ≤ 140737488351232) :=
 BP 11 Try.underlying71 (by kernel_rfl) (by decide) (fun _=>rfl) (by kernel_rfl) opO
end Go.Proofs.Ytdkkgecdhapfhaa.Kn

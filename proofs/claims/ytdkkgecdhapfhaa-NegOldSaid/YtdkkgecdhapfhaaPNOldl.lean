/- A part of the proof of NegOld: cut, joined and given short names by a program of this session (wip/tools/pack.py); Lean checks it. No condition. -/
import Derived.Test.YtdkkgecdhapfhaaPNOldi
import Derived.Test.YtdkkgecdhapfhaaPNOldk
import Derived.Test.YtdkkgecdhapfhaaPNOldj
import Derived.Test.YtdkkgecdhapfhaaPNOldh
import Derived.Test.YtdkkgecdhapfhaaPNOlde
import Derived.ProofKit
import Derived.OpenShut
import Derived.SizedLaws
import Derived.ChangeArms
import Derived.ChangeSlices
import Derived.Carry
import Derived.KernelRfl
import Derived.Test.YtdkkgecdhapfhaaPNOldd
set_option linter.unusedSectionVars false
set_option linter.unusedSimpArgs false
set_option linter.unusedVariables false
namespace Go.Proofs.Ytdkkgecdhapfhaa.ZQ
open Go.RowKit Go.Proofs.YtdkkgecdhapfhaaW.bD Go.Proofs.YtdkkgecdhapfhaaW.dL Go.Proofs.YtdkkgecdhapfhaaW.eH
attribute [local go_sem] jr jv kC kD iH iI jw jy
attribute [local go_sem high] VB
def aH.j0 : Nat → Int → Bool → Option (Int × Int × Int)
  | 0,_,_=>none
  | k + 1,x3,x4=>if x4 = true then (some (0,1,0)) else (if x3 = 6 then (some (0,2,20)) else (if x3 = 15 then (some (2,1,0)) else (if x3 = 33 then (some (6,1,0)) else (if x3 = 1 then (some (4,0,0)) else (if x3 = 28 then (some (16,0,0)) else (some (0,0,0)))))))
def aH.f (k:Nat) (a0:Int):Option (Int × Int × Int):=if a0 = 2 then (aH.j0 k a0 (a0 == 2)) else (if a0 = 5 then (aH.j0 k a0 (a0 == 5)) else (aH.j0 k a0 (a0 == 12)))
set_option maxHeartbeats 8000000 in
set_option maxRecDepth 100000 in
theorem aH.calls (k:Nat) (a0:Int) (r1:Int) (r2:Int) (r3:Int) (w:World) (h:aH.f k a0 = some (r1,r2,r3)) :
    Calls Try.prog 106 #[.int .i64 a0] w fun e w'=>e = .returned (.agg #[.int .i64 r1,.int .i64 r2,.int .i64 r3]) ∧ Below w.heap.size w w':=by
  have Ng:=Try.underlying142
  have HB:=aj.mk (Below.refl w.heap.size w)
  have H:(if a0 = 2 then (aH.j0 k a0 (a0 == 2)) else (if a0 = 5 then (aH.j0 k a0 (a0 == 5)) else (aH.j0 k a0 (a0 == 12)))) = some (r1,r2,r3):=h
  clear h
  have Vm:=aj.mk H
  clear H
  go_enter Try.func106,Try.ntmps106
  go_upto_if 4 with (first | ((with_reducible refine gH (N:=2) rfl ?_);refine fP ?hg (N:=2) ?hd (cs:=#[.int .i64 0,.int .i64 0,.int .i64 0]) (t:=142) ?hr ?_;(case hd=>rfl);(case hg=>rfl);(case hr=>first | (go_simp;done) | (go_simp;rfl));intro gU hg w3 gT hb;have dZ:=aj.mk (bE (by repeat (first | (with_reducible first | exact HB.out | apply ak | apply ah | apply au) | exact HB.out)) hb);have gW:=aj.mk (gT);have jf:=aj.mk ((by rw [hg];exact (bL (by repeat (first | (with_reducible first | exact HB.out | apply ak | apply ah | apply au) | exact HB.out))):w.heap.size ≤ gU));have jL:=aj.mk ((by rw [hg];exact (bL (by repeat (first | (with_reducible first | exact HB.out | apply ak | apply ah | apply au) | exact HB.out))):w.heap.size ≤ gU));clear HB;have HB:=dZ;have dV:=gW;have ag0:=jf;have qZ:=jL;clear dZ gW jf jL;clear hb gT hg))
  (try simp only [Act.put,List.setIfInBounds_toArray,List.set_cons_zero,List.set_cons_succ])
  go_cut [4] (fun v4 wc=>∃ (kq:Nat) (qG:Bool),v4 = .bool qG ∧ aj (aH.j0 kq a0 qG = some (r1,r2,r3)) ∧ aj (kq ≤ k) ∧ aj (wc.heap[gU]? = some (.cells #[.int .i64 0,.int .i64 0,.int .i64 0] 142 (0,0))) ∧ aj (Below w.heap.size w wc))
  case first =>
    have H:=Vm.out
    clear Vm
    by_cases c4:a0 = 2
    · rw [if_pos c4] at H
      have qI:(a0 == 2) = true:=beq_iff_eq.mpr c4
      have JK:(a0 != 2) = false:=bne_eq_false_iff_eq.mpr c4
      clear c4
      (first | rw [qI] | rw [MP] | (simp only [gN,iy];rw [qI]) | skip)
      have H':=aj.mk H
      clear H
      go_wp2
      go_meet
      case rel=>exact ⟨_,((a0 == 2)),(by first | rfl | (simp;done) | (simp [*];done) | (simp [B.aV];done) | (simp [B.aW];done)),H',⟨by first | omega | exact Nat.le_refl _⟩,⟨by (with_reducible repeat (first | refine aG ?_ _ | refine aI ?_ | refine aA ?_ _));exact dV.out⟩,⟨by repeat (first | (with_reducible first | exact HB.out | apply ak | apply ah | apply au | refine aR ?_ qZ.out) | exact HB.out)⟩⟩
    · rw [if_neg c4] at H
      have qI:(a0 == 2) = false:=beq_eq_false_iff_ne.mpr c4
      have JK:(a0 != 2) = true:=bne_iff_ne.mpr c4
      (first | rw [qI] | rw [MP] | (simp only [gN,iy];rw [qI]) | skip)
      by_cases c5:a0 = 5
      · rw [if_pos c5] at H
        have pQ:(a0 == 5) = true:=beq_iff_eq.mpr c5
        have vD:(a0 != 5) = false:=bne_eq_false_iff_eq.mpr c5
        clear c5
        have H':=aj.mk H
        clear H
        go_wp2
        go_meet
        case rel=>exact ⟨_,((a0 == 5)),(by first | rfl | (simp;done) | (simp [*];done) | (simp [B.aV];done) | (simp [B.aW];done)),H',⟨by first | omega | exact Nat.le_refl _⟩,⟨by (with_reducible repeat (first | refine aG ?_ _ | refine aI ?_ | refine aA ?_ _));exact dV.out⟩,⟨by repeat (first | (with_reducible first | exact HB.out | apply ak | apply ah | apply au | refine aR ?_ qZ.out) | exact HB.out)⟩⟩
      · rw [if_neg c5] at H
        have pQ:(a0 == 5) = false:=beq_eq_false_iff_ne.mpr c5
        have vD:(a0 != 5) = true:=bne_iff_ne.mpr c5
        have H':=aj.mk H
        clear H
        go_wp2
        go_meet
        case rel=>exact ⟨_,((a0 == 12)),(by first | rfl | (simp;done) | (simp [*];done) | (simp [B.aV];done) | (simp [B.aW];done)),H',⟨by first | omega | exact Nat.le_refl _⟩,⟨by (with_reducible repeat (first | refine aG ?_ _ | refine aI ?_ | refine aA ?_ _));exact dV.out⟩,⟨by repeat (first | (with_reducible first | exact HB.out | apply ak | apply ah | apply au | refine aR ?_ qZ.out) | exact HB.out)⟩⟩
  case rest =>
    clear Vm
    try clear c1
    try clear p2
    try clear c4
    try clear qI
    try clear JK
    try clear MP
    try clear c5
    try clear pQ
    try clear vD
    obtain ⟨kq,qG,rfl,HA,HJ1,dV,HB⟩:=hcut
    cases kq with
    | zero=>exact absurd HA.out (by simp [aH.j0])
    | succ kj1 =>
      have H:=HA.out
      clear HA
      simp only [aH.j0] at H
      by_cases c6:qG = true
      · subst c6
        have H1:(some (0,1,0)) = some (r1,r2,r3):=by rw [if_pos rfl] at H;exact H
        clear H
        have H:=H1
        clear H1
        simp only [Option.some.injEq,Prod.mk.injEq] at H
        obtain ⟨rfl,rfl,rfl⟩:=H
        have ae5:wc.cell? ⟨gU,0,none⟩ = some (.int .i64 0):=(aM dV.out 0).trans rfl
        have ae6:wc.cell? ⟨gU,1,none⟩ = some (.int .i64 0):=(aM dV.out 1).trans rfl
        have ae7:wc.cell? ⟨gU,2,none⟩ = some (.int .i64 0):=(aM dV.out 2).trans rfl
        have ae8:=ay dV.out 0
        have ae9:=ay dV.out 1
        have afa:=ay dV.out 2
        go_wp2
        refine bodyPost_ret (results_cell_row rfl _ _ gU 142 #[.int .i64 0,.int .i64 1,.int .i64 0] (0,0) _ rfl (by (with_reducible repeat (first | refine aG ?_ _ | refine aI ?_ | refine aA ?_ _));refine bU (cs:=#[.int .i64 0,.int .i64 1,.int .i64 0]) ?_ 2 _ rfl;(with_reducible repeat (first | refine aG ?_ _ | refine aI ?_ | refine aA ?_ _));refine bU (cs:=#[.int .i64 0,.int .i64 0,.int .i64 0]) ?_ 1 _ rfl;(with_reducible repeat (first | refine aG ?_ _ | refine aI ?_ | refine aA ?_ _));refine bU (cs:=#[.int .i64 0,.int .i64 0,.int .i64 0]) ?_ 0 _ rfl;(with_reducible repeat (first | refine aG ?_ _ | refine aI ?_ | refine aA ?_ _));exact dV.out) Try.underlying142 rfl (by kernel_rfl)) rfl ?_
        exact ⟨by first | rfl | (simp [aJ,aK] <;> rfl) | (simp [*,aJ,aK] <;> rfl),by repeat (first | (with_reducible first | exact HB.out | apply ak | apply ah | apply au | refine aR ?_ qZ.out) | exact HB.out)⟩
      · replace c6:=Bool.eq_false_iff.mpr c6
        subst c6
        have H1:(if a0 = 6 then (some (0,2,20)) else (if a0 = 15 then (some (2,1,0)) else (if a0 = 33 then (some (6,1,0)) else (if a0 = 1 then (some (4,0,0)) else (if a0 = 28 then (some (16,0,0)) else (some (0,0,0))))))) = some (r1,r2,r3):=by rw [if_neg (show ¬ (false = true) by decide)] at H;exact H
        clear H
        have H:=H1
        clear H1
        by_cases c8:a0 = 6
        · rw [if_pos c8] at H
          have rR:(a0 == 6) = true:=beq_iff_eq.mpr c8
          have rT:(a0 != 6) = false:=bne_eq_false_iff_eq.mpr c8
          clear c8
          simp only [Option.some.injEq,Prod.mk.injEq] at H
          obtain ⟨rfl,rfl,rfl⟩:=H
          have Nh:wc.cell? ⟨gU,0,none⟩ = some (.int .i64 0):=(aM dV.out 0).trans rfl
          have Ni:wc.cell? ⟨gU,1,none⟩ = some (.int .i64 0):=(aM dV.out 1).trans rfl
          have Nj:wc.cell? ⟨gU,2,none⟩ = some (.int .i64 0):=(aM dV.out 2).trans rfl
          have Nk:=ay dV.out 0
          have Nl:=ay dV.out 1
          have Nn:=ay dV.out 2
          go_wp2
          refine bodyPost_ret (results_cell_row rfl _ _ gU 142 #[.int .i64 0,.int .i64 2,.int .i64 20] (0,0) _ rfl (by (with_reducible repeat (first | refine aG ?_ _ | refine aI ?_ | refine aA ?_ _));refine bU (cs:=#[.int .i64 0,.int .i64 2,.int .i64 0]) ?_ 2 _ rfl;(with_reducible repeat (first | refine aG ?_ _ | refine aI ?_ | refine aA ?_ _));refine bU (cs:=#[.int .i64 0,.int .i64 0,.int .i64 0]) ?_ 1 _ rfl;(with_reducible repeat (first | refine aG ?_ _ | refine aI ?_ | refine aA ?_ _));refine bU (cs:=#[.int .i64 0,.int .i64 0,.int .i64 0]) ?_ 0 _ rfl;(with_reducible repeat (first | refine aG ?_ _ | refine aI ?_ | refine aA ?_ _));exact dV.out) Try.underlying142 rfl (by kernel_rfl)) rfl ?_
          exact ⟨by first | rfl | (simp [aJ,aK] <;> rfl) | (simp [*,aJ,aK] <;> rfl),by repeat (first | (with_reducible first | exact HB.out | apply ak | apply ah | apply au | refine aR ?_ qZ.out) | exact HB.out)⟩
        · rw [if_neg c8] at H
          have rR:(a0 == 6) = false:=beq_eq_false_iff_ne.mpr c8
          have rT:(a0 != 6) = true:=bne_iff_ne.mpr c8
          by_cases c10:a0 = 15
          · rw [if_pos c10] at H
            have qY:(a0 == 15) = true:=beq_iff_eq.mpr c10
            have AB:(a0 != 15) = false:=bne_eq_false_iff_eq.mpr c10
            clear c10
            simp only [Option.some.injEq,Prod.mk.injEq] at H
            obtain ⟨rfl,rfl,rfl⟩:=H
            have acX:wc.cell? ⟨gU,0,none⟩ = some (.int .i64 0):=(aM dV.out 0).trans rfl
            have acY:wc.cell? ⟨gU,1,none⟩ = some (.int .i64 0):=(aM dV.out 1).trans rfl
            have acZ:wc.cell? ⟨gU,2,none⟩ = some (.int .i64 0):=(aM dV.out 2).trans rfl
            have ac0:=ay dV.out 0
            have ac1:=ay dV.out 1
            have ac2:=ay dV.out 2
            go_wp2
            refine bodyPost_ret (results_cell_row rfl _ _ gU 142 #[.int .i64 2,.int .i64 1,.int .i64 0] (0,0) _ rfl (by (with_reducible repeat (first | refine aG ?_ _ | refine aI ?_ | refine aA ?_ _));refine bU (cs:=#[.int .i64 2,.int .i64 1,.int .i64 0]) ?_ 2 _ rfl;(with_reducible repeat (first | refine aG ?_ _ | refine aI ?_ | refine aA ?_ _));refine bU (cs:=#[.int .i64 2,.int .i64 0,.int .i64 0]) ?_ 1 _ rfl;(with_reducible repeat (first | refine aG ?_ _ | refine aI ?_ | refine aA ?_ _));refine bU (cs:=#[.int .i64 0,.int .i64 0,.int .i64 0]) ?_ 0 _ rfl;(with_reducible repeat (first | refine aG ?_ _ | refine aI ?_ | refine aA ?_ _));exact dV.out) Try.underlying142 rfl (by kernel_rfl)) rfl ?_
            exact ⟨by first | rfl | (simp [aJ,aK] <;> rfl) | (simp [*,aJ,aK] <;> rfl),by repeat (first | (with_reducible first | exact HB.out | apply ak | apply ah | apply au | refine aR ?_ qZ.out) | exact HB.out)⟩
          · rw [if_neg c10] at H
            have qY:(a0 == 15) = false:=beq_eq_false_iff_ne.mpr c10
            have AB:(a0 != 15) = true:=bne_iff_ne.mpr c10
            by_cases c12:a0 = 33
            · rw [if_pos c12] at H
              have uo:(a0 == 33) = true:=beq_iff_eq.mpr c12
              have uq:(a0 != 33) = false:=bne_eq_false_iff_eq.mpr c12
              clear c12
              simp only [Option.some.injEq,Prod.mk.injEq] at H
              obtain ⟨rfl,rfl,rfl⟩:=H
              have Cw:wc.cell? ⟨gU,0,none⟩ = some (.int .i64 0):=(aM dV.out 0).trans rfl
              have Cx:wc.cell? ⟨gU,1,none⟩ = some (.int .i64 0):=(aM dV.out 1).trans rfl
              have Cy:wc.cell? ⟨gU,2,none⟩ = some (.int .i64 0):=(aM dV.out 2).trans rfl
              have Cz:=ay dV.out 0
              have CB:=ay dV.out 1
              have CG:=ay dV.out 2
              go_wp2
              refine bodyPost_ret (results_cell_row rfl _ _ gU 142 #[.int .i64 6,.int .i64 1,.int .i64 0] (0,0) _ rfl (by (with_reducible repeat (first | refine aG ?_ _ | refine aI ?_ | refine aA ?_ _));refine bU (cs:=#[.int .i64 6,.int .i64 1,.int .i64 0]) ?_ 2 _ rfl;(with_reducible repeat (first | refine aG ?_ _ | refine aI ?_ | refine aA ?_ _));refine bU (cs:=#[.int .i64 6,.int .i64 0,.int .i64 0]) ?_ 1 _ rfl;(with_reducible repeat (first | refine aG ?_ _ | refine aI ?_ | refine aA ?_ _));refine bU (cs:=#[.int .i64 0,.int .i64 0,.int .i64 0]) ?_ 0 _ rfl;(with_reducible repeat (first | refine aG ?_ _ | refine aI ?_ | refine aA ?_ _));exact dV.out) Try.underlying142 rfl (by kernel_rfl)) rfl ?_
              exact ⟨by first | rfl | (simp [aJ,aK] <;> rfl) | (simp [*,aJ,aK] <;> rfl),by repeat (first | (with_reducible first | exact HB.out | apply ak | apply ah | apply au | refine aR ?_ qZ.out) | exact HB.out)⟩
            · rw [if_neg c12] at H
              have uo:(a0 == 33) = false:=beq_eq_false_iff_ne.mpr c12
              have uq:(a0 != 33) = true:=bne_iff_ne.mpr c12
              by_cases c14:a0 = 1
              · rw [if_pos c14] at H
                have AJ:(a0 == 1) = true:=beq_iff_eq.mpr c14
                have Sv:(a0 != 1) = false:=bne_eq_false_iff_eq.mpr c14
                clear c14
                simp only [Option.some.injEq,Prod.mk.injEq] at H
                obtain ⟨rfl,rfl,rfl⟩:=H
                have CJ:wc.cell? ⟨gU,0,none⟩ = some (.int .i64 0):=(aM dV.out 0).trans rfl
                have CK:wc.cell? ⟨gU,1,none⟩ = some (.int .i64 0):=(aM dV.out 1).trans rfl
                have CO:wc.cell? ⟨gU,2,none⟩ = some (.int .i64 0):=(aM dV.out 2).trans rfl
                have CP:=ay dV.out 0
                have CQ:=ay dV.out 1
                have CS:=ay dV.out 2
                go_wp2
                refine bodyPost_ret (results_cell_row rfl _ _ gU 142 #[.int .i64 4,.int .i64 0,.int .i64 0] (0,0) _ rfl (by (with_reducible repeat (first | refine aG ?_ _ | refine aI ?_ | refine aA ?_ _));refine bU (cs:=#[.int .i64 4,.int .i64 0,.int .i64 0]) ?_ 2 _ rfl;(with_reducible repeat (first | refine aG ?_ _ | refine aI ?_ | refine aA ?_ _));refine bU (cs:=#[.int .i64 4,.int .i64 0,.int .i64 0]) ?_ 1 _ rfl;(with_reducible repeat (first | refine aG ?_ _ | refine aI ?_ | refine aA ?_ _));refine bU (cs:=#[.int .i64 0,.int .i64 0,.int .i64 0]) ?_ 0 _ rfl;(with_reducible repeat (first | refine aG ?_ _ | refine aI ?_ | refine aA ?_ _));exact dV.out) Try.underlying142 rfl (by kernel_rfl)) rfl ?_
                exact ⟨by first | rfl | (simp [aJ,aK] <;> rfl) | (simp [*,aJ,aK] <;> rfl),by repeat (first | (with_reducible first | exact HB.out | apply ak | apply ah | apply au | refine aR ?_ qZ.out) | exact HB.out)⟩
              · rw [if_neg c14] at H
                have AJ:(a0 == 1) = false:=beq_eq_false_iff_ne.mpr c14
                have Sv:(a0 != 1) = true:=bne_iff_ne.mpr c14
                by_cases c16:a0 = 28
                · rw [if_pos c16] at H
                  have H7:(a0 == 28) = true:=beq_iff_eq.mpr c16
                  have aar:(a0 != 28) = false:=bne_eq_false_iff_eq.mpr c16
                  clear c16
                  simp only [Option.some.injEq,Prod.mk.injEq] at H
                  obtain ⟨rfl,rfl,rfl⟩:=H
                  have ac3:wc.cell? ⟨gU,0,none⟩ = some (.int .i64 0):=(aM dV.out 0).trans rfl
                  have ac4:wc.cell? ⟨gU,1,none⟩ = some (.int .i64 0):=(aM dV.out 1).trans rfl
                  have ac5:wc.cell? ⟨gU,2,none⟩ = some (.int .i64 0):=(aM dV.out 2).trans rfl
                  have ac6:=ay dV.out 0
                  have ac7:=ay dV.out 1
                  have ac8:=ay dV.out 2
                  go_wp2
                  refine bodyPost_ret (results_cell_row rfl _ _ gU 142 #[.int .i64 16,.int .i64 0,.int .i64 0] (0,0) _ rfl (by (with_reducible repeat (first | refine aG ?_ _ | refine aI ?_ | refine aA ?_ _));refine bU (cs:=#[.int .i64 16,.int .i64 0,.int .i64 0]) ?_ 2 _ rfl;(with_reducible repeat (first | refine aG ?_ _ | refine aI ?_ | refine aA ?_ _));refine bU (cs:=#[.int .i64 16,.int .i64 0,.int .i64 0]) ?_ 1 _ rfl;(with_reducible repeat (first | refine aG ?_ _ | refine aI ?_ | refine aA ?_ _));refine bU (cs:=#[.int .i64 0,.int .i64 0,.int .i64 0]) ?_ 0 _ rfl;(with_reducible repeat (first | refine aG ?_ _ | refine aI ?_ | refine aA ?_ _));exact dV.out) Try.underlying142 rfl (by kernel_rfl)) rfl ?_
                  exact ⟨by first | rfl | (simp [aJ,aK] <;> rfl) | (simp [*,aJ,aK] <;> rfl),by repeat (first | (with_reducible first | exact HB.out | apply ak | apply ah | apply au | refine aR ?_ qZ.out) | exact HB.out)⟩
                · rw [if_neg c16] at H
                  have H7:(a0 == 28) = false:=beq_eq_false_iff_ne.mpr c16
                  have aar:(a0 != 28) = true:=bne_iff_ne.mpr c16
                  simp only [Option.some.injEq,Prod.mk.injEq] at H
                  obtain ⟨rfl,rfl,rfl⟩:=H
                  have Ip:wc.cell? ⟨gU,0,none⟩ = some (.int .i64 0):=(aM dV.out 0).trans rfl
                  have Iq:wc.cell? ⟨gU,1,none⟩ = some (.int .i64 0):=(aM dV.out 1).trans rfl
                  have Ir:wc.cell? ⟨gU,2,none⟩ = some (.int .i64 0):=(aM dV.out 2).trans rfl
                  have Iu:=ay dV.out 0
                  have Iw:=ay dV.out 1
                  have Iy:=ay dV.out 2
                  go_wp2
                  refine bodyPost_ret (results_cell_row rfl _ _ gU 142 #[.int .i64 0,.int .i64 0,.int .i64 0] (0,0) _ rfl (by (with_reducible repeat (first | refine aG ?_ _ | refine aI ?_ | refine aA ?_ _));refine bU (cs:=#[.int .i64 0,.int .i64 0,.int .i64 0]) ?_ 2 _ rfl;(with_reducible repeat (first | refine aG ?_ _ | refine aI ?_ | refine aA ?_ _));refine bU (cs:=#[.int .i64 0,.int .i64 0,.int .i64 0]) ?_ 1 _ rfl;(with_reducible repeat (first | refine aG ?_ _ | refine aI ?_ | refine aA ?_ _));refine bU (cs:=#[.int .i64 0,.int .i64 0,.int .i64 0]) ?_ 0 _ rfl;(with_reducible repeat (first | refine aG ?_ _ | refine aI ?_ | refine aA ?_ _));exact dV.out) Try.underlying142 rfl (by kernel_rfl)) rfl ?_
                  exact ⟨by first | rfl | (simp [aJ,aK] <;> rfl) | (simp [*,aJ,aK] <;> rfl),by repeat (first | (with_reducible first | exact HB.out | apply ak | apply ah | apply au | refine aR ?_ qZ.out) | exact HB.out)⟩
def bq.l0 : Nat → ByteArray → Int → Option (Bool)
  | 0,_,_=>none
  | k + 1,x0,x3=>if x3 < (x0.size:Int) then (if 0 ≤ x3 then (bq.l0 k x0 (wrap64 ((wrap64 (x3 + 1)) + (wrap64 (bt x0 x3))))) else (none)) else (if x3 = (x0.size:Int) then (some (decide (x3 > 0))) else (some false))
def bq.f (k:Nat) (a0:ByteArray):Option (Bool):=bq.l0 k a0 0
set_option maxHeartbeats 8000000 in
set_option maxRecDepth 100000 in
theorem bq.calls (k:Nat) (a0:ByteArray) (r:Bool) (w:World) (h:bq.f k a0 = some r) :
    Calls Try.prog 117 #[.string a0] w fun e w'=>e = .returned (.bool r) ∧ aY w w':=by
  have H:(bq.l0 k a0 0) = some r:=h
  clear h
  have H':=aj.mk H
  clear H
  go_enter Try.func117,Try.ntmps117
  go_wp2
  go_loopg [3] k (fun kq v3 w'=>∃ (oH:Int),v3 = .int .i64 oH ∧ aj (bq.l0 kq a0 oH = some r) ∧ aj (kq ≤ k) ∧ aY w w')
  case atStart=>exact ⟨(0),(by first | rfl | (simp;done) | (simp [*];done) | (simp [B.aV];done) | (simp [B.aW];done)),H',⟨Nat.le_refl _⟩,by repeat (first | exact aY.refl _ | apply aY.step)⟩
  case round =>
    clear H'
    try clear c1
    obtain ⟨oH,rfl,HA,uj,⟨m1,rfl⟩⟩:=hrel
    cases gk with
    | zero=>exact absurd HA.out (by simp [bq.l0])
    | succ k1 =>
      have H:=HA.out
      clear HA
      simp only [bq.l0] at H
      by_cases c2:oH < (a0.size:Int)
      · rw [if_pos c2] at H
        have wF:decide (oH < (a0.size:Int)) = true:=decide_eq_true c2
        clear c2
        by_cases c3:0 ≤ oH
        · rw [if_pos c3] at H
          have qJ:decide (0 ≤ oH) = true:=decide_eq_true c3
          clear c3
          have H':=aj.mk H
          clear H
          have p4:0 ≤ (oH:Int):=of_decide_eq_true (by first | (with_reducible assumption) | assumption)
          have q4:oH < (a0.size:Int):=of_decide_eq_true (by first | (with_reducible assumption) | assumption)
          have hx4:=nI a0 oH
          replace p4:=eq_true p4
          replace q4:=eq_true q4
          go_wp2
          go_roundg k1
          case measure=>have:=uj.out;omega
          case rel=>exact ⟨(wrap64 ((wrap64 (oH + 1)) + (wrap64 (bt a0 oH)))),(by first | rfl | (simp;done) | (simp [*];done) | (simp [B.aV];done) | (simp [B.aW];done)),H',⟨by have:=uj.out;omega⟩,by repeat (first | exact aY.refl _ | apply aY.step)⟩
        · rw [if_neg c3] at H
          exact absurd H (by simp)
      · rw [if_neg c2] at H
        have wF:decide (oH < (a0.size:Int)) = false:=decide_eq_false c2
        clear c2
        by_cases c5:oH = (a0.size:Int)
        · rw [if_pos c5] at H
          have pQ:(oH == (a0.size:Int)) = true:=beq_iff_eq.mpr c5
          have vD:(oH != (a0.size:Int)) = false:=bne_eq_false_iff_eq.mpr c5
          clear c5
          obtain rfl:=Option.some.inj H
          go_wp2
          go_ret
          exact ⟨by first | rfl | (simp;done) | (simp [*];done),by repeat (first | exact aY.refl _ | apply aY.step)⟩
        · rw [if_neg c5] at H
          have pQ:(oH == (a0.size:Int)) = false:=beq_eq_false_iff_ne.mpr c5
          have vD:(oH != (a0.size:Int)) = true:=bne_iff_ne.mpr c5
          obtain rfl:=Option.some.inj H
          go_wp2
          go_ret
          exact ⟨by first | rfl | (simp;done) | (simp [*];done),by repeat (first | exact aY.refl _ | apply aY.step)⟩
def aX.l0 : Nat → ByteArray → Int → Int → ByteArray → Int → Int → Int → Int → Int → Option (ByteArray × Int)
  | 0,_,_,_,_,_,_,_,_,_=>none
  | k + 1,x0,x1,x2,x13,PY,x15,Qv,Iz,IB=>if x15 < Iz then ((aU.f k x0 PY).bind fun IC=>(if IC.2.2 = 0 then (if x13.size + IC.1.size ≤ 9223372036854775807 then (aX.l0 k x0 x1 x2 (x13 ++ IC.1) IC.2.1 (wrap64 (x15 + 1)) Qv Iz IB) else (none)) else (some ((⟨#[]⟩:ByteArray),4)))) else (if (wrap64 (PY + IB)) = (wrap64 (x1 + x2)) then (if 0 ≤ PY then (if PY ≤ (wrap64 (x1 + x2)) then (if (wrap64 (x1 + x2)) ≤ (x0.size:Int) then (if x13.size + (x0.extract (PY:Int).toNat ((wrap64 (x1 + x2)):Int).toNat).size ≤ 9223372036854775807 then (if ((x13 ++ (x0.extract (PY:Int).toNat ((wrap64 (x1 + x2)):Int).toNat)).size:Int) > 65535 then (some ((⟨#[]⟩:ByteArray),4)) else (some (x13 ++ (x0.extract (PY:Int).toNat ((wrap64 (x1 + x2)):Int).toNat),0))) else (none)) else (none)) else (none)) else (none)) else (some ((⟨#[]⟩:ByteArray),4)))
def aX.f (k:Nat) (a0:ByteArray) (a1:Int) (a2:Int) (a3:Int):Option (ByteArray × Int):=(bC.f a0 a1 a2).bind fun lD=>(if lD.2 = true then ((aH.f k a3).bind fun eU=>(if (eU.1 == 0 && (eU.2.1 == 0 && (eU.2.2 == 0))) = true then (if a3 = 16 then ((bq.f k lD.1).bind fun wI=>(if wI = true then (if (lD.1.size:Int) > 65535 then (some ((⟨#[]⟩:ByteArray),4)) else (some (lD.1,0))) else (some ((⟨#[]⟩:ByteArray),4)))) else (if (lD.1.size:Int) > 65535 then (some ((⟨#[]⟩:ByteArray),4)) else (some (lD.1,0)))) else (if eU.1 > a2 then (some ((⟨#[]⟩:ByteArray),4)) else (if 0 ≤ eU.1 then (if eU.1 ≤ (lD.1.size:Int) then (aX.l0 k a0 a1 a2 (lD.1.extract 0 (eU.1:Int).toNat) (wrap64 (a1 + eU.1)) 0 eU.1 eU.2.1 eU.2.2) else (none)) else (none))))) else (some ((⟨#[]⟩:ByteArray),2)))
set_option maxHeartbeats 8000000 in
set_option maxRecDepth 100000 in
theorem aX.calls (k:Nat) (a0:ByteArray) (a1:Int) (a2:Int) (a3:Int) (r1:ByteArray) (r2:Int) (w:World) (h:aX.f k a0 a1 a2 a3 = some (r1,r2)) :
    Calls Try.prog 104 #[.string a0,.int .i64 a1,.int .i64 a2,.int .i64 a3] w fun e w'=>e = .returned (.tuple #[.string r1,.int .i64 r2]) ∧ Below w.heap.size w w':=by
  have Ng:=Try.underlying142
  have HB:=aj.mk (Below.refl w.heap.size w)
  have H:((bC.f a0 a1 a2).bind fun lD=>(if lD.2 = true then ((aH.f k a3).bind fun eU=>(if (eU.1 == 0 && (eU.2.1 == 0 && (eU.2.2 == 0))) = true then (if a3 = 16 then ((bq.f k lD.1).bind fun wI=>(if wI = true then (if (lD.1.size:Int) > 65535 then (some ((⟨#[]⟩:ByteArray),4)) else (some (lD.1,0))) else (some ((⟨#[]⟩:ByteArray),4)))) else (if (lD.1.size:Int) > 65535 then (some ((⟨#[]⟩:ByteArray),4)) else (some (lD.1,0)))) else (if eU.1 > a2 then (some ((⟨#[]⟩:ByteArray),4)) else (if 0 ≤ eU.1 then (if eU.1 ≤ (lD.1.size:Int) then (aX.l0 k a0 a1 a2 (lD.1.extract 0 (eU.1:Int).toNat) (wrap64 (a1 + eU.1)) 0 eU.1 eU.2.1 eU.2.2) else (none)) else (none))))) else (some ((⟨#[]⟩:ByteArray),2)))) = some (r1,r2):=h
  clear h
  replace H:=zbm H
  obtain ⟨⟨t160,aas⟩,SG,H⟩:=H
  replace H:(if aas = true then ((aH.f k a3).bind fun eU=>(if (eU.1 == 0 && (eU.2.1 == 0 && (eU.2.2 == 0))) = true then (if a3 = 16 then ((bq.f k t160).bind fun wI=>(if wI = true then (if (t160.size:Int) > 65535 then (some ((⟨#[]⟩:ByteArray),4)) else (some (t160,0))) else (some ((⟨#[]⟩:ByteArray),4)))) else (if (t160.size:Int) > 65535 then (some ((⟨#[]⟩:ByteArray),4)) else (some (t160,0)))) else (if eU.1 > a2 then (some ((⟨#[]⟩:ByteArray),4)) else (if 0 ≤ eU.1 then (if eU.1 ≤ (t160.size:Int) then (aX.l0 k a0 a1 a2 (t160.extract 0 (eU.1:Int).toNat) (wrap64 (a1 + eU.1)) 0 eU.1 eU.2.1 eU.2.2) else (none)) else (none))))) else (some ((⟨#[]⟩:ByteArray),2))) = some (r1,r2):=H
  have A5:=aj.mk SG
  clear SG
  by_cases c6:aas = true
  · subst c6
    have H1:((aH.f k a3).bind fun eU=>(if (eU.1 == 0 && (eU.2.1 == 0 && (eU.2.2 == 0))) = true then (if a3 = 16 then ((bq.f k t160).bind fun wI=>(if wI = true then (if (t160.size:Int) > 65535 then (some ((⟨#[]⟩:ByteArray),4)) else (some (t160,0))) else (some ((⟨#[]⟩:ByteArray),4)))) else (if (t160.size:Int) > 65535 then (some ((⟨#[]⟩:ByteArray),4)) else (some (t160,0)))) else (if eU.1 > a2 then (some ((⟨#[]⟩:ByteArray),4)) else (if 0 ≤ eU.1 then (if eU.1 ≤ (t160.size:Int) then (aX.l0 k a0 a1 a2 (t160.extract 0 (eU.1:Int).toNat) (wrap64 (a1 + eU.1)) 0 eU.1 eU.2.1 eU.2.2) else (none)) else (none))))) = some (r1,r2):=by rw [if_pos rfl] at H;exact H
    clear H
    have H:=H1
    clear H1
    replace H:=zbm H
    obtain ⟨⟨t162,kJ,t164⟩,ZF,H⟩:=H
    replace H:(if (t162 == 0 && (kJ == 0 && (t164 == 0))) = true then (if a3 = 16 then ((bq.f k t160).bind fun wI=>(if wI = true then (if (t160.size:Int) > 65535 then (some ((⟨#[]⟩:ByteArray),4)) else (some (t160,0))) else (some ((⟨#[]⟩:ByteArray),4)))) else (if (t160.size:Int) > 65535 then (some ((⟨#[]⟩:ByteArray),4)) else (some (t160,0)))) else (if t162 > a2 then (some ((⟨#[]⟩:ByteArray),4)) else (if 0 ≤ t162 then (if t162 ≤ (t160.size:Int) then (aX.l0 k a0 a1 a2 (t160.extract 0 (t162:Int).toNat) (wrap64 (a1 + t162)) 0 t162 kJ t164) else (none)) else (none)))) = some (r1,r2):=H
    have A7:=aj.mk ZF
    clear ZF
    by_cases c8:(t162 == 0 && (kJ == 0 && (t164 == 0))) = true
    · rw [if_pos c8] at H
      have rR:(t162 == 0 && (kJ == 0 && (t164 == 0))) = true:=c8
      (try (have rT:decide (t162 = 0 && (kJ == 0 && (t164 == 0))) = true:=by simpa using c8))
      (try (have MW:(t162 == 0 && (kJ == 0 && (t164 == 0))) = true:=by simpa using c8))
      clear c8
      by_cases c9:a3 = 16
      · rw [if_pos c9] at H
        have um:(a3 == 16) = true:=beq_iff_eq.mpr c9
        have Eu:(a3 != 16) = false:=bne_eq_false_iff_eq.mpr c9
        clear c9
        replace H:=zbm H
        obtain ⟨wI,M7,H⟩:=H
        replace H:(if wI = true then (if (t160.size:Int) > 65535 then (some ((⟨#[]⟩:ByteArray),4)) else (some (t160,0))) else (some ((⟨#[]⟩:ByteArray),4))) = some (r1,r2):=H
        have Sy:=aj.mk M7
        clear M7
        by_cases c11:wI = true
        · subst c11
          have H1:(if (t160.size:Int) > 65535 then (some ((⟨#[]⟩:ByteArray),4)) else (some (t160,0))) = some (r1,r2):=by rw [if_pos rfl] at H;exact H
          clear H
          have H:=H1
          clear H1
          by_cases c12:(t160.size:Int) > 65535
          · rw [if_pos c12] at H
            have uo:decide (65535 < (t160.size:Int)) = true:=decide_eq_true c12
            have uq:decide (65535 < t160.size) = true:=decide_eq_true (by omega)
            clear c12
            simp only [Option.some.injEq,Prod.mk.injEq] at H
            obtain ⟨rfl,rfl⟩:=H
            go_enter Try.func104,Try.ntmps104
            go_wp2_with (first | ((with_reducible refine aQ (f:=99) rfl ?_);refine bP (some 23) rfl rfl Try.func99 (by kernel_rfl) rfl #[.string a0,.int .i64 a1,.int .i64 a2] rfl (by (try simp only [List.map_toArray,List.map_cons,List.map_nil]);first | done | rfl | (simp only [List.length_drop,List.length_take];rfl) | (simp only [ByteArray.size_append,Int.natCast_add];rfl) | (rw [B.dP] <;> first | rfl | omega | (simp only [decide_eq_false_iff_not,decide_eq_true_eq,Int.not_lt,Nat.not_lt,gt_iff_lt] at * <;> omega))) ?_;(with_reducible refine (bC.calls a0 a1 a2 t160 true _ A5.out).mono ?_);rintro e w' ⟨rfl,⟨nd,rfl⟩⟩;refine ⟨_,rfl,?_⟩) | ((with_reducible refine aQ (f:=106) rfl ?_);refine bP (some 29) rfl rfl Try.func106 (by kernel_rfl) rfl #[.int .i64 a3] rfl (by (try simp only [List.map_toArray,List.map_cons,List.map_nil]);first | done | rfl | (simp only [List.length_drop,List.length_take];rfl) | (simp only [ByteArray.size_append,Int.natCast_add];rfl) | (rw [B.dP] <;> first | rfl | omega | (simp only [decide_eq_false_iff_not,decide_eq_true_eq,Int.not_lt,Nat.not_lt,gt_iff_lt] at * <;> omega))) ?_;(with_reducible refine (aH.calls k a3 t162 kJ t164 _ A7.out).mono ?_);rintro e w13 ⟨rfl,hb⟩;refine ⟨_,rfl,?_⟩;have dZ:=aj.mk (bE (by repeat (first | (with_reducible first | exact HB.out | apply ak | apply ah | apply au) | exact HB.out)) hb);clear HB;have HB:=dZ;clear dZ;(try clear hb);(try clear hb2);(try clear hk);(try clear hi)) | ((with_reducible refine gH (N:=12) rfl ?_);(try (refine jA (by rfl) ?_;dsimp only));refine fP ?hg (N:=12) ?hd (cs:=#[.int .i64 0,.int .i64 0,.int .i64 0]) (t:=142) ?hr ?_;(case hd=>rfl);(case hg=>rfl);(case hr=>first | (go_simp;done) | (go_simp;rfl));intro dM hg w14 gT hb;have dZ:=aj.mk (bE (by repeat (first | (with_reducible first | exact HB.out | apply ak | apply ah | apply au) | exact HB.out)) hb);have gW:=aj.mk (gT);have jf:=aj.mk ((by rw [hg];exact (bL (by repeat (first | (with_reducible first | exact HB.out | apply ak | apply ah | apply au) | exact HB.out))):w.heap.size ≤ dM));have jL:=aj.mk ((by rw [hg];exact (bL (by repeat (first | (with_reducible first | exact HB.out | apply ak | apply ah | apply au) | exact HB.out))):w.heap.size ≤ dM));clear HB;have HB:=dZ;have bT:=gW;have AX:=jf;have kN:=jL;clear dZ gW jf jL;clear hb gT hg;have CJ:w14.cell? ⟨dM,0,none⟩ = some (.int .i64 0):=(aM bT.out 0).trans rfl;have CK:w14.cell? ⟨dM,1,none⟩ = some (.int .i64 0):=(aM bT.out 1).trans rfl;have CO:w14.cell? ⟨dM,2,none⟩ = some (.int .i64 0):=(aM bT.out 2).trans rfl;have CP:=ay bT.out 0;have CQ:=ay bT.out 1;have CS:=ay bT.out 2) | (go_at_call 117;(with_reducible refine (bq.calls k t160 true _ Sy.out).mono ?_);rintro e w' ⟨rfl,⟨nd,rfl⟩⟩))
            go_ret2
            exact ⟨by first | rfl | (simp [aJ,aK] <;> rfl) | (simp [*,aJ,aK] <;> rfl),by repeat (first | (with_reducible first | exact HB.out | apply ak | apply ah | apply au | refine aR ?_ kN.out) | exact HB.out)⟩
          · rw [if_neg c12] at H
            have uo:decide (65535 < (t160.size:Int)) = false:=decide_eq_false c12
            have uq:decide (65535 < t160.size) = false:=decide_eq_false (by omega)
            clear c12
            simp only [Option.some.injEq,Prod.mk.injEq] at H
            obtain ⟨rfl,rfl⟩:=H
            go_enter Try.func104,Try.ntmps104
            go_wp2_with (first | ((with_reducible refine aQ (f:=99) rfl ?_);refine bP (some 23) rfl rfl Try.func99 (by kernel_rfl) rfl #[.string a0,.int .i64 a1,.int .i64 a2] rfl (by (try simp only [List.map_toArray,List.map_cons,List.map_nil]);first | done | rfl | (simp only [List.length_drop,List.length_take];rfl) | (simp only [ByteArray.size_append,Int.natCast_add];rfl) | (rw [B.dP] <;> first | rfl | omega | (simp only [decide_eq_false_iff_not,decide_eq_true_eq,Int.not_lt,Nat.not_lt,gt_iff_lt] at * <;> omega))) ?_;(with_reducible refine (bC.calls a0 a1 a2 t160 true _ A5.out).mono ?_);rintro e w' ⟨rfl,⟨nd,rfl⟩⟩;refine ⟨_,rfl,?_⟩) | ((with_reducible refine aQ (f:=106) rfl ?_);refine bP (some 29) rfl rfl Try.func106 (by kernel_rfl) rfl #[.int .i64 a3] rfl (by (try simp only [List.map_toArray,List.map_cons,List.map_nil]);first | done | rfl | (simp only [List.length_drop,List.length_take];rfl) | (simp only [ByteArray.size_append,Int.natCast_add];rfl) | (rw [B.dP] <;> first | rfl | omega | (simp only [decide_eq_false_iff_not,decide_eq_true_eq,Int.not_lt,Nat.not_lt,gt_iff_lt] at * <;> omega))) ?_;(with_reducible refine (aH.calls k a3 t162 kJ t164 _ A7.out).mono ?_);rintro e w16 ⟨rfl,hb⟩;refine ⟨_,rfl,?_⟩;have dZ:=aj.mk (bE (by repeat (first | (with_reducible first | exact HB.out | apply ak | apply ah | apply au) | exact HB.out)) hb);clear HB;have HB:=dZ;clear dZ;(try clear hb);(try clear hb2);(try clear hk);(try clear hi)) | ((with_reducible refine gH (N:=12) rfl ?_);(try (refine jA (by rfl) ?_;dsimp only));refine fP ?hg (N:=12) ?hd (cs:=#[.int .i64 0,.int .i64 0,.int .i64 0]) (t:=142) ?hr ?_;(case hd=>rfl);(case hg=>rfl);(case hr=>first | (go_simp;done) | (go_simp;rfl));intro dM hg w17 gT hb;have dZ:=aj.mk (bE (by repeat (first | (with_reducible first | exact HB.out | apply ak | apply ah | apply au) | exact HB.out)) hb);have gW:=aj.mk (gT);have jf:=aj.mk ((by rw [hg];exact (bL (by repeat (first | (with_reducible first | exact HB.out | apply ak | apply ah | apply au) | exact HB.out))):w.heap.size ≤ dM));have jL:=aj.mk ((by rw [hg];exact (bL (by repeat (first | (with_reducible first | exact HB.out | apply ak | apply ah | apply au) | exact HB.out))):w.heap.size ≤ dM));clear HB;have HB:=dZ;have bT:=gW;have AX:=jf;have kN:=jL;clear dZ gW jf jL;clear hb gT hg;have Ip:w17.cell? ⟨dM,0,none⟩ = some (.int .i64 0):=(aM bT.out 0).trans rfl;have Iq:w17.cell? ⟨dM,1,none⟩ = some (.int .i64 0):=(aM bT.out 1).trans rfl;have Ir:w17.cell? ⟨dM,2,none⟩ = some (.int .i64 0):=(aM bT.out 2).trans rfl;have Iu:=ay bT.out 0;have Iw:=ay bT.out 1;have Iy:=ay bT.out 2) | (go_at_call 117;(with_reducible refine (bq.calls k t160 true _ Sy.out).mono ?_);rintro e w' ⟨rfl,⟨nd,rfl⟩⟩))
            go_ret2
            exact ⟨by first | rfl | (simp [aJ,aK] <;> rfl) | (simp [*,aJ,aK] <;> rfl),by repeat (first | (with_reducible first | exact HB.out | apply ak | apply ah | apply au | refine aR ?_ kN.out) | exact HB.out)⟩
        · replace c11:=Bool.eq_false_iff.mpr c11
          subst c11
          have H1:(some ((⟨#[]⟩:ByteArray),4)) = some (r1,r2):=by rw [if_neg (show ¬ (false = true) by decide)] at H;exact H
          clear H
          have H:=H1
          clear H1
          simp only [Option.some.injEq,Prod.mk.injEq] at H
          obtain ⟨rfl,rfl⟩:=H
          go_enter Try.func104,Try.ntmps104
          go_wp2_with (first | ((with_reducible refine aQ (f:=99) rfl ?_);refine bP (some 23) rfl rfl Try.func99 (by kernel_rfl) rfl #[.string a0,.int .i64 a1,.int .i64 a2] rfl (by (try simp only [List.map_toArray,List.map_cons,List.map_nil]);first | done | rfl | (simp only [List.length_drop,List.length_take];rfl) | (simp only [ByteArray.size_append,Int.natCast_add];rfl) | (rw [B.dP] <;> first | rfl | omega | (simp only [decide_eq_false_iff_not,decide_eq_true_eq,Int.not_lt,Nat.not_lt,gt_iff_lt] at * <;> omega))) ?_;(with_reducible refine (bC.calls a0 a1 a2 t160 true _ A5.out).mono ?_);rintro e w' ⟨rfl,⟨nd,rfl⟩⟩;refine ⟨_,rfl,?_⟩) | ((with_reducible refine aQ (f:=106) rfl ?_);refine bP (some 29) rfl rfl Try.func106 (by kernel_rfl) rfl #[.int .i64 a3] rfl (by (try simp only [List.map_toArray,List.map_cons,List.map_nil]);first | done | rfl | (simp only [List.length_drop,List.length_take];rfl) | (simp only [ByteArray.size_append,Int.natCast_add];rfl) | (rw [B.dP] <;> first | rfl | omega | (simp only [decide_eq_false_iff_not,decide_eq_true_eq,Int.not_lt,Nat.not_lt,gt_iff_lt] at * <;> omega))) ?_;(with_reducible refine (aH.calls k a3 t162 kJ t164 _ A7.out).mono ?_);rintro e w19 ⟨rfl,hb⟩;refine ⟨_,rfl,?_⟩;have dZ:=aj.mk (bE (by repeat (first | (with_reducible first | exact HB.out | apply ak | apply ah | apply au) | exact HB.out)) hb);clear HB;have HB:=dZ;clear dZ;(try clear hb);(try clear hb2);(try clear hk);(try clear hi)) | ((with_reducible refine gH (N:=12) rfl ?_);(try (refine jA (by rfl) ?_;dsimp only));refine fP ?hg (N:=12) ?hd (cs:=#[.int .i64 0,.int .i64 0,.int .i64 0]) (t:=142) ?hr ?_;(case hd=>rfl);(case hg=>rfl);(case hr=>first | (go_simp;done) | (go_simp;rfl));intro dM hg w20 gT hb;have dZ:=aj.mk (bE (by repeat (first | (with_reducible first | exact HB.out | apply ak | apply ah | apply au) | exact HB.out)) hb);have gW:=aj.mk (gT);have jf:=aj.mk ((by rw [hg];exact (bL (by repeat (first | (with_reducible first | exact HB.out | apply ak | apply ah | apply au) | exact HB.out))):w.heap.size ≤ dM));have jL:=aj.mk ((by rw [hg];exact (bL (by repeat (first | (with_reducible first | exact HB.out | apply ak | apply ah | apply au) | exact HB.out))):w.heap.size ≤ dM));clear HB;have HB:=dZ;have bT:=gW;have AX:=jf;have kN:=jL;clear dZ gW jf jL;clear hb gT hg;have Qw:w20.cell? ⟨dM,0,none⟩ = some (.int .i64 0):=(aM bT.out 0).trans rfl;have Qx:w20.cell? ⟨dM,1,none⟩ = some (.int .i64 0):=(aM bT.out 1).trans rfl;have Qy:w20.cell? ⟨dM,2,none⟩ = some (.int .i64 0):=(aM bT.out 2).trans rfl;have Qz:=ay bT.out 0;have QA:=ay bT.out 1;have QB:=ay bT.out 2) | (go_at_call 117;(with_reducible refine (bq.calls k t160 false _ Sy.out).mono ?_);rintro e w' ⟨rfl,⟨nd,rfl⟩⟩))
          go_ret2
          exact ⟨by first | rfl | (simp [aJ,aK] <;> rfl) | (simp [*,aJ,aK] <;> rfl),by repeat (first | (with_reducible first | exact HB.out | apply ak | apply ah | apply au | refine aR ?_ kN.out) | exact HB.out)⟩
      · rw [if_neg c9] at H
        have um:(a3 == 16) = false:=beq_eq_false_iff_ne.mpr c9
        have Eu:(a3 != 16) = true:=bne_iff_ne.mpr c9
        by_cases EX:(t160.size:Int) > 65535
        · rw [if_pos EX] at H
          have Np:decide (65535 < (t160.size:Int)) = true:=decide_eq_true EX
          have Nq:decide (65535 < t160.size) = true:=decide_eq_true (by omega)
          clear EX
          simp only [Option.some.injEq,Prod.mk.injEq] at H
          obtain ⟨rfl,rfl⟩:=H
          go_enter Try.func104,Try.ntmps104
          go_wp2_with (first | ((with_reducible refine aQ (f:=99) rfl ?_);refine bP (some 23) rfl rfl Try.func99 (by kernel_rfl) rfl #[.string a0,.int .i64 a1,.int .i64 a2] rfl (by (try simp only [List.map_toArray,List.map_cons,List.map_nil]);first | done | rfl | (simp only [List.length_drop,List.length_take];rfl) | (simp only [ByteArray.size_append,Int.natCast_add];rfl) | (rw [B.dP] <;> first | rfl | omega | (simp only [decide_eq_false_iff_not,decide_eq_true_eq,Int.not_lt,Nat.not_lt,gt_iff_lt] at * <;> omega))) ?_;(with_reducible refine (bC.calls a0 a1 a2 t160 true _ A5.out).mono ?_);rintro e w' ⟨rfl,⟨nd,rfl⟩⟩;refine ⟨_,rfl,?_⟩) | ((with_reducible refine aQ (f:=106) rfl ?_);refine bP (some 29) rfl rfl Try.func106 (by kernel_rfl) rfl #[.int .i64 a3] rfl (by (try simp only [List.map_toArray,List.map_cons,List.map_nil]);first | done | rfl | (simp only [List.length_drop,List.length_take];rfl) | (simp only [ByteArray.size_append,Int.natCast_add];rfl) | (rw [B.dP] <;> first | rfl | omega | (simp only [decide_eq_false_iff_not,decide_eq_true_eq,Int.not_lt,Nat.not_lt,gt_iff_lt] at * <;> omega))) ?_;(with_reducible refine (aH.calls k a3 t162 kJ t164 _ A7.out).mono ?_);rintro e w23 ⟨rfl,hb⟩;refine ⟨_,rfl,?_⟩;have dZ:=aj.mk (bE (by repeat (first | (with_reducible first | exact HB.out | apply ak | apply ah | apply au) | exact HB.out)) hb);clear HB;have HB:=dZ;clear dZ;(try clear hb);(try clear hb2);(try clear hk);(try clear hi)) | ((with_reducible refine gH (N:=12) rfl ?_);(try (refine jA (by rfl) ?_;dsimp only));refine fP ?hg (N:=12) ?hd (cs:=#[.int .i64 0,.int .i64 0,.int .i64 0]) (t:=142) ?hr ?_;(case hd=>rfl);(case hg=>rfl);(case hr=>first | (go_simp;done) | (go_simp;rfl));intro dM hg w24 gT hb;have dZ:=aj.mk (bE (by repeat (first | (with_reducible first | exact HB.out | apply ak | apply ah | apply au) | exact HB.out)) hb);have gW:=aj.mk (gT);have jf:=aj.mk ((by rw [hg];exact (bL (by repeat (first | (with_reducible first | exact HB.out | apply ak | apply ah | apply au) | exact HB.out))):w.heap.size ≤ dM));have jL:=aj.mk ((by rw [hg];exact (bL (by repeat (first | (with_reducible first | exact HB.out | apply ak | apply ah | apply au) | exact HB.out))):w.heap.size ≤ dM));clear HB;have HB:=dZ;have bT:=gW;have AX:=jf;have kN:=jL;clear dZ gW jf jL;clear hb gT hg;have QC:w24.cell? ⟨dM,0,none⟩ = some (.int .i64 0):=(aM bT.out 0).trans rfl;have QD:w24.cell? ⟨dM,1,none⟩ = some (.int .i64 0):=(aM bT.out 1).trans rfl;have QE:w24.cell? ⟨dM,2,none⟩ = some (.int .i64 0):=(aM bT.out 2).trans rfl;have QF:=ay bT.out 0;have QG:=ay bT.out 1;have QH:=ay bT.out 2))
          go_ret2
          exact ⟨by first | rfl | (simp [aJ,aK] <;> rfl) | (simp [*,aJ,aK] <;> rfl),by repeat (first | (with_reducible first | exact HB.out | apply ak | apply ah | apply au | refine aR ?_ kN.out) | exact HB.out)⟩
        · rw [if_neg EX] at H
          have Np:decide (65535 < (t160.size:Int)) = false:=decide_eq_false EX
          have Nq:decide (65535 < t160.size) = false:=decide_eq_false (by omega)
          clear EX
          simp only [Option.some.injEq,Prod.mk.injEq] at H
          obtain ⟨rfl,rfl⟩:=H
          go_enter Try.func104,Try.ntmps104
          go_wp2_with (first | ((with_reducible refine aQ (f:=99) rfl ?_);refine bP (some 23) rfl rfl Try.func99 (by kernel_rfl) rfl #[.string a0,.int .i64 a1,.int .i64 a2] rfl (by (try simp only [List.map_toArray,List.map_cons,List.map_nil]);first | done | rfl | (simp only [List.length_drop,List.length_take];rfl) | (simp only [ByteArray.size_append,Int.natCast_add];rfl) | (rw [B.dP] <;> first | rfl | omega | (simp only [decide_eq_false_iff_not,decide_eq_true_eq,Int.not_lt,Nat.not_lt,gt_iff_lt] at * <;> omega))) ?_;(with_reducible refine (bC.calls a0 a1 a2 t160 true _ A5.out).mono ?_);rintro e w' ⟨rfl,⟨nd,rfl⟩⟩;refine ⟨_,rfl,?_⟩) | ((with_reducible refine aQ (f:=106) rfl ?_);refine bP (some 29) rfl rfl Try.func106 (by kernel_rfl) rfl #[.int .i64 a3] rfl (by (try simp only [List.map_toArray,List.map_cons,List.map_nil]);first | done | rfl | (simp only [List.length_drop,List.length_take];rfl) | (simp only [ByteArray.size_append,Int.natCast_add];rfl) | (rw [B.dP] <;> first | rfl | omega | (simp only [decide_eq_false_iff_not,decide_eq_true_eq,Int.not_lt,Nat.not_lt,gt_iff_lt] at * <;> omega))) ?_;(with_reducible refine (aH.calls k a3 t162 kJ t164 _ A7.out).mono ?_);rintro e w26 ⟨rfl,hb⟩;refine ⟨_,rfl,?_⟩;have dZ:=aj.mk (bE (by repeat (first | (with_reducible first | exact HB.out | apply ak | apply ah | apply au) | exact HB.out)) hb);clear HB;have HB:=dZ;clear dZ;(try clear hb);(try clear hb2);(try clear hk);(try clear hi)) | ((with_reducible refine gH (N:=12) rfl ?_);(try (refine jA (by rfl) ?_;dsimp only));refine fP ?hg (N:=12) ?hd (cs:=#[.int .i64 0,.int .i64 0,.int .i64 0]) (t:=142) ?hr ?_;(case hd=>rfl);(case hg=>rfl);(case hr=>first | (go_simp;done) | (go_simp;rfl));intro dM hg w27 gT hb;have dZ:=aj.mk (bE (by repeat (first | (with_reducible first | exact HB.out | apply ak | apply ah | apply au) | exact HB.out)) hb);have gW:=aj.mk (gT);have jf:=aj.mk ((by rw [hg];exact (bL (by repeat (first | (with_reducible first | exact HB.out | apply ak | apply ah | apply au) | exact HB.out))):w.heap.size ≤ dM));have jL:=aj.mk ((by rw [hg];exact (bL (by repeat (first | (with_reducible first | exact HB.out | apply ak | apply ah | apply au) | exact HB.out))):w.heap.size ≤ dM));clear HB;have HB:=dZ;have bT:=gW;have AX:=jf;have kN:=jL;clear dZ gW jf jL;clear hb gT hg;have QI:w27.cell? ⟨dM,0,none⟩ = some (.int .i64 0):=(aM bT.out 0).trans rfl;have QJ:w27.cell? ⟨dM,1,none⟩ = some (.int .i64 0):=(aM bT.out 1).trans rfl;have QK:w27.cell? ⟨dM,2,none⟩ = some (.int .i64 0):=(aM bT.out 2).trans rfl;have QL:=ay bT.out 0;have QM:=ay bT.out 1;have QN:=ay bT.out 2))
          go_ret2
          exact ⟨by first | rfl | (simp [aJ,aK] <;> rfl) | (simp [*,aJ,aK] <;> rfl),by repeat (first | (with_reducible first | exact HB.out | apply ak | apply ah | apply au | refine aR ?_ kN.out) | exact HB.out)⟩
    · rw [if_neg c8] at H
      have rR:(t162 == 0 && (kJ == 0 && (t164 == 0))) = false:=by simpa using c8
      (try (have rT:decide (t162 = 0 && (kJ == 0 && (t164 == 0))) = false:=by simpa using c8))
      (try (have MW:(t162 == 0 && (kJ == 0 && (t164 == 0))) = false:=by simpa using c8))
      (try (have Zy:¬ (t162 = 0 && (kJ == 0 && (t164 == 0))):=by simpa using c8))
      clear c8
      by_cases VD:t162 > a2
      · rw [if_pos VD] at H
        have SH:decide (a2 < t162) = true:=decide_eq_true VD
        clear VD
        simp only [Option.some.injEq,Prod.mk.injEq] at H
        obtain ⟨rfl,rfl⟩:=H
        go_enter Try.func104,Try.ntmps104
        go_wp2_with (first | ((with_reducible refine aQ (f:=99) rfl ?_);refine bP (some 23) rfl rfl Try.func99 (by kernel_rfl) rfl #[.string a0,.int .i64 a1,.int .i64 a2] rfl (by (try simp only [List.map_toArray,List.map_cons,List.map_nil]);first | done | rfl | (simp only [List.length_drop,List.length_take];rfl) | (simp only [ByteArray.size_append,Int.natCast_add];rfl) | (rw [B.dP] <;> first | rfl | omega | (simp only [decide_eq_false_iff_not,decide_eq_true_eq,Int.not_lt,Nat.not_lt,gt_iff_lt] at * <;> omega))) ?_;(with_reducible refine (bC.calls a0 a1 a2 t160 true _ A5.out).mono ?_);rintro e w' ⟨rfl,⟨nd,rfl⟩⟩;refine ⟨_,rfl,?_⟩) | ((with_reducible refine aQ (f:=106) rfl ?_);refine bP (some 29) rfl rfl Try.func106 (by kernel_rfl) rfl #[.int .i64 a3] rfl (by (try simp only [List.map_toArray,List.map_cons,List.map_nil]);first | done | rfl | (simp only [List.length_drop,List.length_take];rfl) | (simp only [ByteArray.size_append,Int.natCast_add];rfl) | (rw [B.dP] <;> first | rfl | omega | (simp only [decide_eq_false_iff_not,decide_eq_true_eq,Int.not_lt,Nat.not_lt,gt_iff_lt] at * <;> omega))) ?_;(with_reducible refine (aH.calls k a3 t162 kJ t164 _ A7.out).mono ?_);rintro e w30 ⟨rfl,hb⟩;refine ⟨_,rfl,?_⟩;have dZ:=aj.mk (bE (by repeat (first | (with_reducible first | exact HB.out | apply ak | apply ah | apply au) | exact HB.out)) hb);clear HB;have HB:=dZ;clear dZ;(try clear hb);(try clear hb2);(try clear hk);(try clear hi)) | ((with_reducible refine gH (N:=12) rfl ?_);(try (refine jA (by rfl) ?_;dsimp only));refine fP ?hg (N:=12) ?hd (cs:=#[.int .i64 0,.int .i64 0,.int .i64 0]) (t:=142) ?hr ?_;(case hd=>rfl);(case hg=>rfl);(case hr=>first | (go_simp;done) | (go_simp;rfl));intro dM hg w31 gT hb;have dZ:=aj.mk (bE (by repeat (first | (with_reducible first | exact HB.out | apply ak | apply ah | apply au) | exact HB.out)) hb);have gW:=aj.mk (gT);have jf:=aj.mk ((by rw [hg];exact (bL (by repeat (first | (with_reducible first | exact HB.out | apply ak | apply ah | apply au) | exact HB.out))):w.heap.size ≤ dM));have jL:=aj.mk ((by rw [hg];exact (bL (by repeat (first | (with_reducible first | exact HB.out | apply ak | apply ah | apply au) | exact HB.out))):w.heap.size ≤ dM));clear HB;have HB:=dZ;have bT:=gW;have AX:=jf;have kN:=jL;clear dZ gW jf jL;clear hb gT hg;have Ii:w31.cell? ⟨dM,0,none⟩ = some (.int .i64 0):=(aM bT.out 0).trans rfl;have Ij:w31.cell? ⟨dM,1,none⟩ = some (.int .i64 0):=(aM bT.out 1).trans rfl;have Ik:w31.cell? ⟨dM,2,none⟩ = some (.int .i64 0):=(aM bT.out 2).trans rfl;have Il:=ay bT.out 0;have Im:=ay bT.out 1;have Io:=ay bT.out 2))
        go_ret2
        exact ⟨by first | rfl | (simp [aJ,aK] <;> rfl) | (simp [*,aJ,aK] <;> rfl),by repeat (first | (with_reducible first | exact HB.out | apply ak | apply ah | apply au | refine aR ?_ kN.out) | exact HB.out)⟩
      · rw [if_neg VD] at H
        have SH:decide (a2 < t162) = false:=decide_eq_false VD
        clear VD
        by_cases OV:0 ≤ t162
        · rw [if_pos OV] at H
          have aat:=eq_true OV
          have aau:decide (0 ≤ t162) = true:=decide_eq_true OV
          clear OV
          by_cases c34:t162 ≤ (t160.size:Int)
          · rw [if_pos c34] at H
            have aav:=eq_true c34
            have aaw:decide (t162 ≤ (t160.size:Int)) = true:=decide_eq_true c34
            clear c34
            have H':=aj.mk H
            clear H
            go_enter Try.func104,Try.ntmps104
            go_wp2_with (first | ((with_reducible refine aQ (f:=99) rfl ?_);refine bP (some 23) rfl rfl Try.func99 (by kernel_rfl) rfl #[.string a0,.int .i64 a1,.int .i64 a2] rfl (by (try simp only [List.map_toArray,List.map_cons,List.map_nil]);first | done | rfl | (simp only [List.length_drop,List.length_take];rfl) | (simp only [ByteArray.size_append,Int.natCast_add];rfl) | (rw [B.dP] <;> first | rfl | omega | (simp only [decide_eq_false_iff_not,decide_eq_true_eq,Int.not_lt,Nat.not_lt,gt_iff_lt] at * <;> omega))) ?_;(with_reducible refine (bC.calls a0 a1 a2 t160 true _ A5.out).mono ?_);rintro e w' ⟨rfl,⟨nd,rfl⟩⟩;refine ⟨_,rfl,?_⟩) | ((with_reducible refine aQ (f:=106) rfl ?_);refine bP (some 29) rfl rfl Try.func106 (by kernel_rfl) rfl #[.int .i64 a3] rfl (by (try simp only [List.map_toArray,List.map_cons,List.map_nil]);first | done | rfl | (simp only [List.length_drop,List.length_take];rfl) | (simp only [ByteArray.size_append,Int.natCast_add];rfl) | (rw [B.dP] <;> first | rfl | omega | (simp only [decide_eq_false_iff_not,decide_eq_true_eq,Int.not_lt,Nat.not_lt,gt_iff_lt] at * <;> omega))) ?_;(with_reducible refine (aH.calls k a3 t162 kJ t164 _ A7.out).mono ?_);rintro e w35 ⟨rfl,hb⟩;refine ⟨_,rfl,?_⟩;have dZ:=aj.mk (bE (by repeat (first | (with_reducible first | exact HB.out | apply ak | apply ah | apply au) | exact HB.out)) hb);clear HB;have HB:=dZ;clear dZ;(try clear hb);(try clear hb2);(try clear hk);(try clear hi)) | ((with_reducible refine gH (N:=12) rfl ?_);(try (refine jA (by rfl) ?_;dsimp only));refine fP ?hg (N:=12) ?hd (cs:=#[.int .i64 0,.int .i64 0,.int .i64 0]) (t:=142) ?hr ?_;(case hd=>rfl);(case hg=>rfl);(case hr=>first | (go_simp;done) | (go_simp;rfl));intro dM hg w36 gT hb;have dZ:=aj.mk (bE (by repeat (first | (with_reducible first | exact HB.out | apply ak | apply ah | apply au) | exact HB.out)) hb);have gW:=aj.mk (gT);have jf:=aj.mk ((by rw [hg];exact (bL (by repeat (first | (with_reducible first | exact HB.out | apply ak | apply ah | apply au) | exact HB.out))):w.heap.size ≤ dM));have jL:=aj.mk ((by rw [hg];exact (bL (by repeat (first | (with_reducible first | exact HB.out | apply ak | apply ah | apply au) | exact HB.out))):w.heap.size ≤ dM));clear HB;have HB:=dZ;have bT:=gW;have AX:=jf;have kN:=jL;clear dZ gW jf jL;clear hb gT hg;have QO:w36.cell? ⟨dM,0,none⟩ = some (.int .i64 0):=(aM bT.out 0).trans rfl;have QS:w36.cell? ⟨dM,1,none⟩ = some (.int .i64 0):=(aM bT.out 1).trans rfl;have QT:w36.cell? ⟨dM,2,none⟩ = some (.int .i64 0):=(aM bT.out 2).trans rfl;have QU:=ay bT.out 0;have QV:=ay bT.out 1;have QW:=ay bT.out 2))
            go_loopg [13,14,15] k (fun kq v13 v14 v15 w'=>∃ (dG:ByteArray) (bQ:Int) (vX:Int),v13 = .string dG ∧ v14 = .int .i64 bQ ∧ v15 = .int .i64 vX ∧ aj (aX.l0 kq a0 a1 a2 dG bQ vX t162 kJ t164 = some (r1,r2)) ∧ aj (kq ≤ k) ∧ aj (w'.heap[dM]? = some (.cells #[.int .i64 t162,.int .i64 kJ,.int .i64 t164] 142 (0,0))) ∧ aj (Below w.heap.size w w'))
            case atStart=>exact ⟨(t160.extract 0 (t162:Int).toNat),(wrap64 (a1 + t162)),(0),(by first | rfl | (simp;done) | (simp [*];done) | (simp [B.aV];done) | (simp [B.aW];done)),(by first | rfl | (simp;done) | (simp [*];done) | (simp [B.aV];done) | (simp [B.aW];done)),(by first | rfl | (simp;done) | (simp [*];done) | (simp [B.aV];done) | (simp [B.aW];done)),H',⟨Nat.le_refl _⟩,⟨by (with_reducible repeat (first | refine aG ?_ _ | refine aI ?_ | refine aA ?_ _));refine bU (cs:=#[.int .i64 t162,.int .i64 kJ,.int .i64 0]) ?_ 2 _ rfl;(with_reducible repeat (first | refine aG ?_ _ | refine aI ?_ | refine aA ?_ _));refine bU (cs:=#[.int .i64 t162,.int .i64 0,.int .i64 0]) ?_ 1 _ rfl;(with_reducible repeat (first | refine aG ?_ _ | refine aI ?_ | refine aA ?_ _));refine bU (cs:=#[.int .i64 0,.int .i64 0,.int .i64 0]) ?_ 0 _ rfl;(with_reducible repeat (first | refine aG ?_ _ | refine aI ?_ | refine aA ?_ _));exact bT.out⟩,⟨by repeat (first | (with_reducible first | exact HB.out | apply ak | apply ah | apply au | refine aR ?_ kN.out) | exact HB.out)⟩⟩
            case round =>
              clear H'
              try clear c1
              try clear c2
              try clear p2
              try clear c3
              try clear c6
              try clear p6
              try clear c8
              try clear rR
              try clear rT
              try clear MW
              try clear c9
              try clear um
              try clear Eu
              try clear c10
              try clear c11
              try clear c12
              try clear uo
              try clear uq
              try clear EX
              try clear Np
              try clear Nq
              try clear VD
              try clear SH
              try clear OV
              try clear aat
              try clear aau
              try clear c34
              try clear aav
              try clear aaw
              try clear CJ
              try clear CK
              try clear CO
              try clear Ip
              try clear Iq
              try clear Ir
              try clear Qw
              try clear Qx
              try clear Qy
              try clear QC
              try clear QD
              try clear QE
              try clear QI
              try clear QJ
              try clear QK
              try clear Ii
              try clear Ij
              try clear Ik
              try clear QO
              try clear QS
              try clear QT
              try clear CP
              try clear CQ
              try clear CS
              try clear Iu
              try clear Iw
              try clear Iy
              try clear Qz
              try clear QA
              try clear QB
              try clear QF
              try clear QG
              try clear QH
              try clear QL
              try clear QM
              try clear QN
              try clear Il
              try clear Im
              try clear Io
              try clear QU
              try clear QV
              try clear QW
              obtain ⟨dG,bQ,vX,rfl,rfl,rfl,HA,uj,bT,HB⟩:=hrel
              cases gk with
              | zero=>exact absurd HA.out (by simp [aX.l0])
              | succ k1 =>
                have H:=HA.out
                clear HA
                simp only [aX.l0] at H
                by_cases DW:vX < kJ
                · rw [if_pos DW] at H
                  have SF:decide (vX < kJ) = true:=decide_eq_true DW
                  clear DW
                  replace H:=zbm H
                  obtain ⟨⟨t167,t168,EH⟩,aax,H⟩:=H
                  replace H:(if EH = 0 then (if dG.size + t167.size ≤ 9223372036854775807 then (aX.l0 k1 a0 a1 a2 (dG ++ t167) t168 (wrap64 (vX + 1)) t162 kJ t164) else (none)) else (some ((⟨#[]⟩:ByteArray),4))) = some (r1,r2):=H
                  have A39:=aj.mk aax
                  clear aax
                  by_cases c40:EH = 0
                  · rw [if_pos c40] at H
                    have aay:(EH == 0) = true:=beq_iff_eq.mpr c40
                    have aaz:(EH != 0) = false:=bne_eq_false_iff_eq.mpr c40
                    clear c40
                    by_cases Kq:dG.size + t167.size ≤ 9223372036854775807
                    · rw [if_pos Kq] at H
                      have ag1:=eq_true Kq
                      have ag2:decide (dG.size + t167.size ≤ 9223372036854775807) = true:=decide_eq_true Kq
                      try have ag3:(9223372036854775807 < dG.size + t167.size) = False:=eq_false (Nat.not_lt.2 Kq)
                      have H':=aj.mk H
                      clear H
                      have Qo:wr.cell? ⟨dM,0,none⟩ = some (.int .i64 t162):=(aM bT.out 0).trans rfl
                      have Qp:wr.cell? ⟨dM,1,none⟩ = some (.int .i64 kJ):=(aM bT.out 1).trans rfl
                      have Qq:wr.cell? ⟨dM,2,none⟩ = some (.int .i64 t164):=(aM bT.out 2).trans rfl
                      have Qr:=ay bT.out 0
                      have Qs:=ay bT.out 1
                      have Qt:=ay bT.out 2
                      go_wp2_with (first | ((with_reducible refine aQ (f:=118) rfl ?_);refine bP (some 67) rfl rfl Try.func118 (by kernel_rfl) rfl #[.string a0,.int .i64 bQ] rfl (by (try simp only [List.map_toArray,List.map_cons,List.map_nil]);first | done | rfl | (simp only [List.length_drop,List.length_take];rfl) | (simp only [ByteArray.size_append,Int.natCast_add];rfl) | (rw [B.dP] <;> first | rfl | omega | (simp only [decide_eq_false_iff_not,decide_eq_true_eq,Int.not_lt,Nat.not_lt,gt_iff_lt] at * <;> omega))) ?_;(with_reducible refine (aU.calls k1 a0 bQ t167 t168 EH _ A39.out).mono ?_);rintro e w' ⟨rfl,⟨nd,rfl⟩⟩;refine ⟨_,rfl,?_⟩))
                      go_roundg k1
                      case measure=>have:=uj.out;omega
                      case rel=>exact ⟨(dG ++ t167),(t168),(wrap64 (vX + 1)),(by first | rfl | (simp;done) | (simp [*];done) | (simp [B.aV];done) | (simp [B.aW];done)),(by first | rfl | (simp;done) | (simp [*];done) | (simp [B.aV];done) | (simp [B.aW];done)),(by first | rfl | (simp;done) | (simp [*];done) | (simp [B.aV];done) | (simp [B.aW];done)),H',⟨by have:=uj.out;omega⟩,⟨by (with_reducible repeat (first | refine aG ?_ _ | refine aI ?_ | refine aA ?_ _));exact bT.out⟩,⟨by repeat (first | (with_reducible first | exact HB.out | apply ak | apply ah | apply au | refine aR ?_ kN.out) | exact HB.out)⟩⟩
                    · rw [if_neg Kq] at H
                      exact absurd H (by simp)
                  · rw [if_neg c40] at H
                    have aay:(EH == 0) = false:=beq_eq_false_iff_ne.mpr c40
                    have aaz:(EH != 0) = true:=bne_iff_ne.mpr c40
                    simp only [Option.some.injEq,Prod.mk.injEq] at H
                    obtain ⟨rfl,rfl⟩:=H
                    have ac9:wr.cell? ⟨dM,0,none⟩ = some (.int .i64 t162):=(aM bT.out 0).trans rfl
                    have ada:wr.cell? ⟨dM,1,none⟩ = some (.int .i64 kJ):=(aM bT.out 1).trans rfl
                    have adb:wr.cell? ⟨dM,2,none⟩ = some (.int .i64 t164):=(aM bT.out 2).trans rfl
                    have ade:=ay bT.out 0
                    have adf:=ay bT.out 1
                    have adg:=ay bT.out 2
                    go_wp2_with (first | ((with_reducible refine aQ (f:=118) rfl ?_);refine bP (some 67) rfl rfl Try.func118 (by kernel_rfl) rfl #[.string a0,.int .i64 bQ] rfl (by (try simp only [List.map_toArray,List.map_cons,List.map_nil]);first | done | rfl | (simp only [List.length_drop,List.length_take];rfl) | (simp only [ByteArray.size_append,Int.natCast_add];rfl) | (rw [B.dP] <;> first | rfl | omega | (simp only [decide_eq_false_iff_not,decide_eq_true_eq,Int.not_lt,Nat.not_lt,gt_iff_lt] at * <;> omega))) ?_;(with_reducible refine (aU.calls k1 a0 bQ t167 t168 EH _ A39.out).mono ?_);rintro e w' ⟨rfl,⟨nd,rfl⟩⟩;refine ⟨_,rfl,?_⟩))
                    go_ret2
                    exact ⟨by first | rfl | (simp [aJ,aK] <;> rfl) | (simp [*,aJ,aK] <;> rfl),by repeat (first | (with_reducible first | exact HB.out | apply ak | apply ah | apply au | refine aR ?_ kN.out) | exact HB.out)⟩
                · rw [if_neg DW] at H
                  have SF:decide (vX < kJ) = false:=decide_eq_false DW
                  clear DW
                  by_cases Ai:(wrap64 (bQ + t164)) = (wrap64 (a1 + a2))
                  · rw [if_pos Ai] at H
                    have aaA:((wrap64 (bQ + t164)) == (wrap64 (a1 + a2))) = true:=beq_iff_eq.mpr Ai
                    have aaB:((wrap64 (bQ + t164)) != (wrap64 (a1 + a2))) = false:=bne_eq_false_iff_eq.mpr Ai
                    (try (have aaC:(((bQ + t164)) == ((a1 + a2))) = true:=by have h_:((wrap64 (bQ + t164)) == (wrap64 (a1 + a2))) = true:=beq_iff_eq.mpr Ai;rw [B.dP (by omega) (by omega)] at h_;rw [B.dP (by omega) (by omega)] at h_;exact h_))
                    (try (have aaD:(((bQ + t164)) != ((a1 + a2))) = false:=by have h_:((wrap64 (bQ + t164)) != (wrap64 (a1 + a2))) = false:=bne_eq_false_iff_eq.mpr Ai;rw [B.dP (by omega) (by omega)] at h_;rw [B.dP (by omega) (by omega)] at h_;exact h_))
                    clear Ai
                    by_cases R5:0 ≤ bQ
                    · rw [if_pos R5] at H
                      have ag4:=eq_true R5
                      have ag5:decide (0 ≤ bQ) = true:=decide_eq_true R5
                      clear R5
                      by_cases c46:bQ ≤ (wrap64 (a1 + a2))
                      · rw [if_pos c46] at H
                        have ag6:=eq_true c46
                        have ag7:decide (bQ ≤ (wrap64 (a1 + a2))) = true:=decide_eq_true c46
                        by_cases UN:(wrap64 (a1 + a2)) ≤ (a0.size:Int)
                        · rw [if_pos UN] at H
                          have ag8:=eq_true UN
                          have ag9:decide ((wrap64 (a1 + a2)) ≤ (a0.size:Int)) = true:=decide_eq_true UN
                          by_cases R6:dG.size + (a0.extract (bQ:Int).toNat ((wrap64 (a1 + a2)):Int).toNat).size ≤ 9223372036854775807
                          · rw [if_pos R6] at H
                            have aha:=eq_true R6
                            have ahb:decide (dG.size + (a0.extract (bQ:Int).toNat ((wrap64 (a1 + a2)):Int).toNat).size ≤ 9223372036854775807) = true:=decide_eq_true R6
                            try have ahc:(9223372036854775807 < dG.size + (a0.extract (bQ:Int).toNat ((wrap64 (a1 + a2)):Int).toNat).size) = False:=eq_false (Nat.not_lt.2 R6)
                            by_cases c49:((dG ++ (a0.extract (bQ:Int).toNat ((wrap64 (a1 + a2)):Int).toNat)).size:Int) > 65535
                            · rw [if_pos c49] at H
                              have aaE:decide (65535 < ((dG ++ (a0.extract (bQ:Int).toNat ((wrap64 (a1 + a2)):Int).toNat)).size:Int)) = true:=decide_eq_true c49
                              have aaF:decide (65535 < (dG ++ (a0.extract (bQ:Int).toNat ((wrap64 (a1 + a2)):Int).toNat)).size) = true:=decide_eq_true (by omega)
                              (try (have aaG:decide (65535 < ((dG.size:Int) + ((a0.extract (bQ:Int).toNat ((wrap64 (a1 + a2)):Int).toNat).size:Int))) = true:=by have h_:decide (65535 < ((dG ++ (a0.extract (bQ:Int).toNat ((wrap64 (a1 + a2)):Int).toNat)).size:Int)) = true:=decide_eq_true c49;rw [show ((dG ++ (a0.extract (bQ:Int).toNat ((wrap64 (a1 + a2)):Int).toNat)).size:Int) = ((dG.size:Int) + ((a0.extract (bQ:Int).toNat ((wrap64 (a1 + a2)):Int).toNat).size:Int)) from by (simp only [ByteArray.size_append,Int.natCast_add];first | done | rfl)] at h_;(first | exact h_ | (simp only [Int.add_sub_cancel] at h_;exact h_))))
                              (try (have aaH:decide (65535 < ((dG.size:Int) + ((((wrap64 (a1 + a2)):Int).toNat - (bQ:Int).toNat:Nat):Int))) = true:=by have h_:decide (65535 < ((dG ++ (a0.extract (bQ:Int).toNat ((wrap64 (a1 + a2)):Int).toNat)).size:Int)) = true:=decide_eq_true c49;rw [show ((dG ++ (a0.extract (bQ:Int).toNat ((wrap64 (a1 + a2)):Int).toNat)).size:Int) = ((dG.size:Int) + ((a0.extract (bQ:Int).toNat ((wrap64 (a1 + a2)):Int).toNat).size:Int)) from by (simp only [ByteArray.size_append,Int.natCast_add];first | done | rfl)] at h_;rw [show ((a0.extract (bQ:Int).toNat ((wrap64 (a1 + a2)):Int).toNat).size:Int) = ((((wrap64 (a1 + a2)):Int).toNat - (bQ:Int).toNat:Nat):Int) from by (have h1_:(wrap64 (a1 + a2)) ≤ (a0.size:Int):=of_decide_eq_true (by assumption);rw [ByteArray.size_extract];omega)] at h_;exact h_))
                              (try (have aaI:decide (65535 < ((dG ++ (a0.extract (bQ:Int).toNat (((a1 + a2)):Int).toNat)).size:Int)) = true:=by have h_:decide (65535 < ((dG ++ (a0.extract (bQ:Int).toNat ((wrap64 (a1 + a2)):Int).toNat)).size:Int)) = true:=decide_eq_true c49;rw [B.dP (by omega) (by omega)] at h_;exact h_))
                              (try (have aaJ:decide (65535 < (dG ++ (a0.extract (bQ:Int).toNat (((a1 + a2)):Int).toNat)).size) = true:=by have h_:decide (65535 < (dG ++ (a0.extract (bQ:Int).toNat ((wrap64 (a1 + a2)):Int).toNat)).size) = true:=decide_eq_true (by omega);rw [B.dP (by omega) (by omega)] at h_;exact h_))
                              (try (have aaK:decide (65535 < ((dG.size:Int) + ((a0.extract (bQ:Int).toNat (((a1 + a2)):Int).toNat).size:Int))) = true:=by have h_:decide (65535 < ((dG.size:Int) + ((a0.extract (bQ:Int).toNat ((wrap64 (a1 + a2)):Int).toNat).size:Int))) = true:=by have h_:decide (65535 < ((dG ++ (a0.extract (bQ:Int).toNat ((wrap64 (a1 + a2)):Int).toNat)).size:Int)) = true:=decide_eq_true c49;rw [show ((dG ++ (a0.extract (bQ:Int).toNat ((wrap64 (a1 + a2)):Int).toNat)).size:Int) = ((dG.size:Int) + ((a0.extract (bQ:Int).toNat ((wrap64 (a1 + a2)):Int).toNat).size:Int)) from by (simp only [ByteArray.size_append,Int.natCast_add];first | done | rfl)] at h_;(first | exact h_ | (simp only [Int.add_sub_cancel] at h_;exact h_));rw [B.dP (by omega) (by omega)] at h_;exact h_))
                              (try (have aaL:decide (65535 < ((dG.size:Int) + (((((a1 + a2)):Int).toNat - (bQ:Int).toNat:Nat):Int))) = true:=by have h_:decide (65535 < ((dG.size:Int) + ((((wrap64 (a1 + a2)):Int).toNat - (bQ:Int).toNat:Nat):Int))) = true:=by have h_:decide (65535 < ((dG ++ (a0.extract (bQ:Int).toNat ((wrap64 (a1 + a2)):Int).toNat)).size:Int)) = true:=decide_eq_true c49;rw [show ((dG ++ (a0.extract (bQ:Int).toNat ((wrap64 (a1 + a2)):Int).toNat)).size:Int) = ((dG.size:Int) + ((a0.extract (bQ:Int).toNat ((wrap64 (a1 + a2)):Int).toNat).size:Int)) from by (simp only [ByteArray.size_append,Int.natCast_add];first | done | rfl)] at h_;rw [show ((a0.extract (bQ:Int).toNat ((wrap64 (a1 + a2)):Int).toNat).size:Int) = ((((wrap64 (a1 + a2)):Int).toNat - (bQ:Int).toNat:Nat):Int) from by (have h1_:(wrap64 (a1 + a2)) ≤ (a0.size:Int):=of_decide_eq_true (by assumption);rw [ByteArray.size_extract];omega)] at h_;exact h_;rw [B.dP (by omega) (by omega)] at h_;exact h_))
                              clear c49
                              simp only [Option.some.injEq,Prod.mk.injEq] at H
                              obtain ⟨rfl,rfl⟩:=H
                              have adh:wr.cell? ⟨dM,0,none⟩ = some (.int .i64 t162):=(aM bT.out 0).trans rfl
                              have adi:wr.cell? ⟨dM,1,none⟩ = some (.int .i64 kJ):=(aM bT.out 1).trans rfl
                              have adj:wr.cell? ⟨dM,2,none⟩ = some (.int .i64 t164):=(aM bT.out 2).trans rfl
                              have adk:=ay bT.out 0
                              have adl:=ay bT.out 1
                              have adn:=ay bT.out 2
                              go_wp2
                              go_ret2
                              exact ⟨by first | rfl | (simp [aJ,aK] <;> rfl) | (simp [*,aJ,aK] <;> rfl),by repeat (first | (with_reducible first | exact HB.out | apply ak | apply ah | apply au | refine aR ?_ kN.out) | exact HB.out)⟩
                            · rw [if_neg c49] at H
                              have aaE:decide (65535 < ((dG ++ (a0.extract (bQ:Int).toNat ((wrap64 (a1 + a2)):Int).toNat)).size:Int)) = false:=decide_eq_false c49
                              have aaF:decide (65535 < (dG ++ (a0.extract (bQ:Int).toNat ((wrap64 (a1 + a2)):Int).toNat)).size) = false:=decide_eq_false (by omega)
                              (try (have aaG:decide (65535 < ((dG.size:Int) + ((a0.extract (bQ:Int).toNat ((wrap64 (a1 + a2)):Int).toNat).size:Int))) = false:=by have h_:decide (65535 < ((dG ++ (a0.extract (bQ:Int).toNat ((wrap64 (a1 + a2)):Int).toNat)).size:Int)) = false:=decide_eq_false c49;rw [show ((dG ++ (a0.extract (bQ:Int).toNat ((wrap64 (a1 + a2)):Int).toNat)).size:Int) = ((dG.size:Int) + ((a0.extract (bQ:Int).toNat ((wrap64 (a1 + a2)):Int).toNat).size:Int)) from by (simp only [ByteArray.size_append,Int.natCast_add];first | done | rfl)] at h_;(first | exact h_ | (simp only [Int.add_sub_cancel] at h_;exact h_))))
                              (try (have aaH:decide (65535 < ((dG.size:Int) + ((((wrap64 (a1 + a2)):Int).toNat - (bQ:Int).toNat:Nat):Int))) = false:=by have h_:decide (65535 < ((dG ++ (a0.extract (bQ:Int).toNat ((wrap64 (a1 + a2)):Int).toNat)).size:Int)) = false:=decide_eq_false c49;rw [show ((dG ++ (a0.extract (bQ:Int).toNat ((wrap64 (a1 + a2)):Int).toNat)).size:Int) = ((dG.size:Int) + ((a0.extract (bQ:Int).toNat ((wrap64 (a1 + a2)):Int).toNat).size:Int)) from by (simp only [ByteArray.size_append,Int.natCast_add];first | done | rfl)] at h_;rw [show ((a0.extract (bQ:Int).toNat ((wrap64 (a1 + a2)):Int).toNat).size:Int) = ((((wrap64 (a1 + a2)):Int).toNat - (bQ:Int).toNat:Nat):Int) from by (have h1_:(wrap64 (a1 + a2)) ≤ (a0.size:Int):=of_decide_eq_true (by assumption);rw [ByteArray.size_extract];omega)] at h_;exact h_))
                              (try (have aaI:decide (65535 < ((dG ++ (a0.extract (bQ:Int).toNat (((a1 + a2)):Int).toNat)).size:Int)) = false:=by have h_:decide (65535 < ((dG ++ (a0.extract (bQ:Int).toNat ((wrap64 (a1 + a2)):Int).toNat)).size:Int)) = false:=decide_eq_false c49;rw [B.dP (by omega) (by omega)] at h_;exact h_))
                              (try (have aaJ:decide (65535 < (dG ++ (a0.extract (bQ:Int).toNat (((a1 + a2)):Int).toNat)).size) = false:=by have h_:decide (65535 < (dG ++ (a0.extract (bQ:Int).toNat ((wrap64 (a1 + a2)):Int).toNat)).size) = false:=decide_eq_false (by omega);rw [B.dP (by omega) (by omega)] at h_;exact h_))
                              (try (have aaK:decide (65535 < ((dG.size:Int) + ((a0.extract (bQ:Int).toNat (((a1 + a2)):Int).toNat).size:Int))) = false:=by have h_:decide (65535 < ((dG.size:Int) + ((a0.extract (bQ:Int).toNat ((wrap64 (a1 + a2)):Int).toNat).size:Int))) = false:=by have h_:decide (65535 < ((dG ++ (a0.extract (bQ:Int).toNat ((wrap64 (a1 + a2)):Int).toNat)).size:Int)) = false:=decide_eq_false c49;rw [show ((dG ++ (a0.extract (bQ:Int).toNat ((wrap64 (a1 + a2)):Int).toNat)).size:Int) = ((dG.size:Int) + ((a0.extract (bQ:Int).toNat ((wrap64 (a1 + a2)):Int).toNat).size:Int)) from by (simp only [ByteArray.size_append,Int.natCast_add];first | done | rfl)] at h_;(first | exact h_ | (simp only [Int.add_sub_cancel] at h_;exact h_));rw [B.dP (by omega) (by omega)] at h_;exact h_))
                              (try (have aaL:decide (65535 < ((dG.size:Int) + (((((a1 + a2)):Int).toNat - (bQ:Int).toNat:Nat):Int))) = false:=by have h_:decide (65535 < ((dG.size:Int) + ((((wrap64 (a1 + a2)):Int).toNat - (bQ:Int).toNat:Nat):Int))) = false:=by have h_:decide (65535 < ((dG ++ (a0.extract (bQ:Int).toNat ((wrap64 (a1 + a2)):Int).toNat)).size:Int)) = false:=decide_eq_false c49;rw [show ((dG ++ (a0.extract (bQ:Int).toNat ((wrap64 (a1 + a2)):Int).toNat)).size:Int) = ((dG.size:Int) + ((a0.extract (bQ:Int).toNat ((wrap64 (a1 + a2)):Int).toNat).size:Int)) from by (simp only [ByteArray.size_append,Int.natCast_add];first | done | rfl)] at h_;rw [show ((a0.extract (bQ:Int).toNat ((wrap64 (a1 + a2)):Int).toNat).size:Int) = ((((wrap64 (a1 + a2)):Int).toNat - (bQ:Int).toNat:Nat):Int) from by (have h1_:(wrap64 (a1 + a2)) ≤ (a0.size:Int):=of_decide_eq_true (by assumption);rw [ByteArray.size_extract];omega)] at h_;exact h_;rw [B.dP (by omega) (by omega)] at h_;exact h_))
                              clear c49
                              simp only [Option.some.injEq,Prod.mk.injEq] at H
                              obtain ⟨rfl,rfl⟩:=H
                              have ado:wr.cell? ⟨dM,0,none⟩ = some (.int .i64 t162):=(aM bT.out 0).trans rfl
                              have adp:wr.cell? ⟨dM,1,none⟩ = some (.int .i64 kJ):=(aM bT.out 1).trans rfl
                              have adq:wr.cell? ⟨dM,2,none⟩ = some (.int .i64 t164):=(aM bT.out 2).trans rfl
                              have adr:=ay bT.out 0
                              have ads:=ay bT.out 1
                              have adt:=ay bT.out 2
                              go_wp2
                              go_ret2
                              exact ⟨by first | rfl | (simp [aJ,aK] <;> rfl) | (simp [*,aJ,aK] <;> rfl),by repeat (first | (with_reducible first | exact HB.out | apply ak | apply ah | apply au | refine aR ?_ kN.out) | exact HB.out)⟩
                          · rw [if_neg R6] at H
                            exact absurd H (by simp)
                        · rw [if_neg UN] at H
                          exact absurd H (by simp)
                      · rw [if_neg c46] at H
                        exact absurd H (by simp)
                    · rw [if_neg R5] at H
                      exact absurd H (by simp)
                  · rw [if_neg Ai] at H
                    have aaA:((wrap64 (bQ + t164)) == (wrap64 (a1 + a2))) = false:=beq_eq_false_iff_ne.mpr Ai
                    have aaB:((wrap64 (bQ + t164)) != (wrap64 (a1 + a2))) = true:=bne_iff_ne.mpr Ai
                    (try (have aaC:(((bQ + t164)) == ((a1 + a2))) = false:=by have h_:((wrap64 (bQ + t164)) == (wrap64 (a1 + a2))) = false:=beq_eq_false_iff_ne.mpr Ai;rw [B.dP (by omega) (by omega)] at h_;rw [B.dP (by omega) (by omega)] at h_;exact h_))
                    (try (have aaD:(((bQ + t164)) != ((a1 + a2))) = true:=by have h_:((wrap64 (bQ + t164)) != (wrap64 (a1 + a2))) = true:=bne_iff_ne.mpr Ai;rw [B.dP (by omega) (by omega)] at h_;rw [B.dP (by omega) (by omega)] at h_;exact h_))
                    simp only [Option.some.injEq,Prod.mk.injEq] at H
                    obtain ⟨rfl,rfl⟩:=H
                    have adu:wr.cell? ⟨dM,0,none⟩ = some (.int .i64 t162):=(aM bT.out 0).trans rfl
                    have adv:wr.cell? ⟨dM,1,none⟩ = some (.int .i64 kJ):=(aM bT.out 1).trans rfl
                    have adw:wr.cell? ⟨dM,2,none⟩ = some (.int .i64 t164):=(aM bT.out 2).trans rfl
                    have adx:=ay bT.out 0
                    have ady:=ay bT.out 1
                    have adz:=ay bT.out 2
                    go_wp2
                    go_ret2
                    exact ⟨by first | rfl | (simp [aJ,aK] <;> rfl) | (simp [*,aJ,aK] <;> rfl),by repeat (first | (with_reducible first | exact HB.out | apply ak | apply ah | apply au | refine aR ?_ kN.out) | exact HB.out)⟩
          · rw [if_neg c34] at H
            exact absurd H (by simp)
        · rw [if_neg OV] at H
          exact absurd H (by simp)
  · replace c6:=Bool.eq_false_iff.mpr c6
    subst c6
    have H1:(some ((⟨#[]⟩:ByteArray),2)) = some (r1,r2):=by rw [if_neg (show ¬ (false = true) by decide)] at H;exact H
    clear H
    have H:=H1
    clear H1
    simp only [Option.some.injEq,Prod.mk.injEq] at H
    obtain ⟨rfl,rfl⟩:=H
    go_enter Try.func104,Try.ntmps104
    go_wp2_with (first | ((with_reducible refine aQ (f:=99) rfl ?_);refine bP (some 23) rfl rfl Try.func99 (by kernel_rfl) rfl #[.string a0,.int .i64 a1,.int .i64 a2] rfl (by (try simp only [List.map_toArray,List.map_cons,List.map_nil]);first | done | rfl | (simp only [List.length_drop,List.length_take];rfl) | (simp only [ByteArray.size_append,Int.natCast_add];rfl) | (rw [B.dP] <;> first | rfl | omega | (simp only [decide_eq_false_iff_not,decide_eq_true_eq,Int.not_lt,Nat.not_lt,gt_iff_lt] at * <;> omega))) ?_;(with_reducible refine (bC.calls a0 a1 a2 t160 false _ A5.out).mono ?_);rintro e w' ⟨rfl,⟨nd,rfl⟩⟩;refine ⟨_,rfl,?_⟩))
    go_ret2
    exact ⟨by first | rfl | (simp [aJ,aK] <;> rfl) | (simp [*,aJ,aK] <;> rfl),by repeat (first | (with_reducible first | exact HB.out | apply ak | apply ah | apply au) | exact HB.out)⟩
def bR.f (k:Nat) (a0:Int) (a1:ByteArray):Option (Bool):=if (a1.size:Int) > 65535 then (some false) else ((aX.f k a1 0 (a1.size:Int) a0).bind fun EI=>(if EI.2 = 0 then (some (EI.1.toList == a1.toList)) else (some false)))
set_option maxHeartbeats 8000000 in
set_option maxRecDepth 100000 in
theorem bR.calls (k:Nat) (a0:Int) (a1:ByteArray) (r:Bool) (w:World) (h:bR.f k a0 a1 = some r) :
    Calls Try.prog 83 #[.int .i64 a0,.string a1] w fun e w'=>e = .returned (.bool r) ∧ Below w.heap.size w w':=by
  have HB:=aj.mk (Below.refl w.heap.size w)
  have H:(if (a1.size:Int) > 65535 then (some false) else ((aX.f k a1 0 (a1.size:Int) a0).bind fun EI=>(if EI.2 = 0 then (some (EI.1.toList == a1.toList)) else (some false)))) = some r:=h
  clear h
  by_cases c3:(a1.size:Int) > 65535
  · rw [if_pos c3] at H
    have qJ:decide (65535 < (a1.size:Int)) = true:=decide_eq_true c3
    have Cq:decide (65535 < a1.size) = true:=decide_eq_true (by omega)
    clear c3
    obtain rfl:=Option.some.inj H
    go_enter Try.func83,Try.ntmps83
    go_wp2
    go_ret
    exact ⟨by first | rfl | (simp [aJ,aK] <;> rfl) | (simp [*,aJ,aK] <;> rfl),by repeat (first | (with_reducible first | exact HB.out | apply ak | apply ah | apply au) | exact HB.out)⟩
  · rw [if_neg c3] at H
    have qJ:decide (65535 < (a1.size:Int)) = false:=decide_eq_false c3
    have Cq:decide (65535 < a1.size) = false:=decide_eq_false (by omega)
    clear c3
    replace H:=zbm H
    obtain ⟨⟨VE,t171⟩,Ew,H⟩:=H
    replace H:(if t171 = 0 then (some (VE.toList == a1.toList)) else (some false)) = some r:=H
    have A4:=aj.mk Ew
    clear Ew
    by_cases c5:t171 = 0
    · rw [if_pos c5] at H
      have pQ:(t171 == 0) = true:=beq_iff_eq.mpr c5
      have vD:(t171 != 0) = false:=bne_eq_false_iff_eq.mpr c5
      clear c5
      obtain rfl:=Option.some.inj H
      go_enter Try.func83,Try.ntmps83
      go_wp2_with (first | ((with_reducible refine aQ (f:=104) rfl ?_);refine bP (some 15) rfl rfl Try.func104 (by kernel_rfl) rfl #[.string a1,.int .i64 0,.int .i64 (a1.size:Int),.int .i64 a0] rfl (by (try simp only [List.map_toArray,List.map_cons,List.map_nil]);first | done | rfl | (simp only [List.length_drop,List.length_take];rfl) | (simp only [ByteArray.size_append,Int.natCast_add];rfl) | (rw [B.dP] <;> first | rfl | omega | (simp only [decide_eq_false_iff_not,decide_eq_true_eq,Int.not_lt,Nat.not_lt,gt_iff_lt] at * <;> omega))) ?_;(with_reducible refine (aX.calls k a1 0 (a1.size:Int) a0 VE t171 _ A4.out).mono ?_);rintro e w6 ⟨rfl,hb⟩;refine ⟨_,rfl,?_⟩;have dZ:=aj.mk (bE (by repeat (first | (with_reducible first | exact HB.out | apply ak | apply ah | apply au) | exact HB.out)) hb);clear HB;have HB:=dZ;clear dZ;(try clear hb);(try clear hb2);(try clear hk);(try clear hi)))
      go_ret
      exact ⟨by first | rfl | (simp [aJ,aK] <;> rfl) | (simp [*,aJ,aK] <;> rfl),by repeat (first | (with_reducible first | exact HB.out | apply ak | apply ah | apply au) | exact HB.out)⟩
    · rw [if_neg c5] at H
      have pQ:(t171 == 0) = false:=beq_eq_false_iff_ne.mpr c5
      have vD:(t171 != 0) = true:=bne_iff_ne.mpr c5
      obtain rfl:=Option.some.inj H
      go_enter Try.func83,Try.ntmps83
      go_wp2_with (first | ((with_reducible refine aQ (f:=104) rfl ?_);refine bP (some 15) rfl rfl Try.func104 (by kernel_rfl) rfl #[.string a1,.int .i64 0,.int .i64 (a1.size:Int),.int .i64 a0] rfl (by (try simp only [List.map_toArray,List.map_cons,List.map_nil]);first | done | rfl | (simp only [List.length_drop,List.length_take];rfl) | (simp only [ByteArray.size_append,Int.natCast_add];rfl) | (rw [B.dP] <;> first | rfl | omega | (simp only [decide_eq_false_iff_not,decide_eq_true_eq,Int.not_lt,Nat.not_lt,gt_iff_lt] at * <;> omega))) ?_;(with_reducible refine (aX.calls k a1 0 (a1.size:Int) a0 VE t171 _ A4.out).mono ?_);rintro e w7 ⟨rfl,hb⟩;refine ⟨_,rfl,?_⟩;have dZ:=aj.mk (bE (by repeat (first | (with_reducible first | exact HB.out | apply ak | apply ah | apply au) | exact HB.out)) hb);clear HB;have HB:=dZ;clear dZ;(try clear hb);(try clear hb2);(try clear hk);(try clear hi)))
      go_ret
      exact ⟨by first | rfl | (simp [aJ,aK] <;> rfl) | (simp [*,aJ,aK] <;> rfl),by repeat (first | (with_reducible first | exact HB.out | apply ak | apply ah | apply au) | exact HB.out)⟩
def bg.l0 : Nat → ByteArray → List ByteArray → Int → Int → Int → Int → Int → Option (List ByteArray)
  | 0,_,_,_,_,_,_,_=>none
  | k + 1,x1,x5,x7,x8,QX,IE,QY=>if x8 < IE then ((aU.f k x1 x7).bind fun SI=>(if x5.length < 8796093022208 then (bg.l0 k x1 (x5 ++ [SI.1]) SI.2.1 (wrap64 (x8 + 1)) QX IE QY) else (none))) else (some x5)
def bg.f (k:Nat) (a0:Int) (a1:ByteArray):Option (List ByteArray):=(bR.f k a0 a1).bind fun JZ=>(if JZ = true then ((aH.f k a0).bind fun kK=>(bg.l0 k a1 ([]:List ByteArray) kK.1 0 kK.1 kK.2.1 kK.2.2)) else (some ([]:List ByteArray)))
set_option maxHeartbeats 8000000 in
set_option maxRecDepth 100000 in
theorem bg.calls (k:Nat) (a0:Int) (a1:ByteArray) (r:List ByteArray) (w:World) (h:bg.f k a0 a1 = some r) :
    Calls Try.prog 105 #[.int .i64 a0,.string a1] w fun e w'=>∃ Sn:Value,e = .returned (Sn) ∧ Kd.R Kd.string 9 w' w.heap.size (fun _=>True) Sn r ∧ Below w.heap.size w w':=by
  have Ng:=Try.underlying142
  have HB:=aj.mk (Below.refl w.heap.size w)
  have H:((bR.f k a0 a1).bind fun JZ=>(if JZ = true then ((aH.f k a0).bind fun kK=>(bg.l0 k a1 ([]:List ByteArray) kK.1 0 kK.1 kK.2.1 kK.2.2)) else (some ([]:List ByteArray)))) = some r:=h
  clear h
  replace H:=zbm H
  obtain ⟨JZ,Sw,H⟩:=H
  replace H:(if JZ = true then ((aH.f k a0).bind fun kK=>(bg.l0 k a1 ([]:List ByteArray) kK.1 0 kK.1 kK.2.1 kK.2.2)) else (some ([]:List ByteArray))) = some r:=H
  have A3:=aj.mk Sw
  clear Sw
  by_cases c4:JZ = true
  · subst c4
    have H1:((aH.f k a0).bind fun kK=>(bg.l0 k a1 ([]:List ByteArray) kK.1 0 kK.1 kK.2.1 kK.2.2)) = some r:=by rw [if_pos rfl] at H;exact H
    clear H
    have H:=H1
    clear H1
    replace H:=zbm H
    obtain ⟨⟨t173,vE,t175⟩,SG,H⟩:=H
    replace H:(bg.l0 k a1 ([]:List ByteArray) t173 0 t173 vE t175) = some r:=H
    have A5:=aj.mk SG
    clear SG
    have H':=aj.mk H
    clear H
    go_enter Try.func105,Try.ntmps105
    go_wp2_with (first | ((with_reducible refine aQ (f:=83) rfl ?_);refine bP (some 14) rfl rfl Try.func83 (by kernel_rfl) rfl #[.int .i64 a0,.string a1] rfl (by (try simp only [List.map_toArray,List.map_cons,List.map_nil]);first | done | rfl | (simp only [List.length_drop,List.length_take];rfl) | (simp only [ByteArray.size_append,Int.natCast_add];rfl) | (rw [B.dP] <;> first | rfl | omega | (simp only [decide_eq_false_iff_not,decide_eq_true_eq,Int.not_lt,Nat.not_lt,gt_iff_lt] at * <;> omega))) ?_;(with_reducible refine (bR.calls k a0 a1 true _ A3.out).mono ?_);rintro e w6 ⟨rfl,hb⟩;refine ⟨_,rfl,?_⟩;have dZ:=aj.mk (bE (by repeat (first | (with_reducible first | exact HB.out | apply ak | apply ah | apply au) | exact HB.out)) hb);clear HB;have HB:=dZ;clear dZ;(try clear hb);(try clear hb2);(try clear hk);(try clear hi)) | ((with_reducible refine aQ (f:=106) rfl ?_);refine bP (some 17) rfl rfl Try.func106 (by kernel_rfl) rfl #[.int .i64 a0] rfl (by (try simp only [List.map_toArray,List.map_cons,List.map_nil]);first | done | rfl | (simp only [List.length_drop,List.length_take];rfl) | (simp only [ByteArray.size_append,Int.natCast_add];rfl) | (rw [B.dP] <;> first | rfl | omega | (simp only [decide_eq_false_iff_not,decide_eq_true_eq,Int.not_lt,Nat.not_lt,gt_iff_lt] at * <;> omega))) ?_;(with_reducible refine (aH.calls k a0 t173 vE t175 _ A5.out).mono ?_);rintro e w7 ⟨rfl,hb⟩;refine ⟨_,rfl,?_⟩;have dZ:=aj.mk (bE (by repeat (first | (with_reducible first | exact HB.out | apply ak | apply ah | apply au) | exact HB.out)) hb);clear HB;have HB:=dZ;clear dZ;(try clear hb);(try clear hb2);(try clear hk);(try clear hi)) | ((with_reducible refine gH (N:=6) rfl ?_);refine fP ?hg (N:=6) ?hd (cs:=#[.int .i64 0,.int .i64 0,.int .i64 0]) (t:=142) ?hr ?_;(case hd=>rfl);(case hg=>rfl);(case hr=>first | (go_simp;done) | (go_simp;rfl));intro nL hg w8 gT hb;have dZ:=aj.mk (bE (by repeat (first | (with_reducible first | exact HB.out | apply ak | apply ah | apply au) | exact HB.out)) hb);have gW:=aj.mk (gT);have jf:=aj.mk ((by rw [hg];exact (bL (by repeat (first | (with_reducible first | exact HB.out | apply ak | apply ah | apply au) | exact HB.out))):w.heap.size ≤ nL));have jL:=aj.mk ((by rw [hg];exact (bL (by repeat (first | (with_reducible first | exact HB.out | apply ak | apply ah | apply au) | exact HB.out))):w.heap.size ≤ nL));clear HB;have HB:=dZ;have iX:=gW;have ahd:=jf;have EJ:=jL;clear dZ gW jf jL;clear hb gT hg;have Nh:w8.cell? ⟨nL,0,none⟩ = some (.int .i64 0):=(aM iX.out 0).trans rfl;have Ni:w8.cell? ⟨nL,1,none⟩ = some (.int .i64 0):=(aM iX.out 1).trans rfl;have Nj:w8.cell? ⟨nL,2,none⟩ = some (.int .i64 0):=(aM iX.out 2).trans rfl;have Nk:=ay iX.out 0;have Nl:=ay iX.out 1;have Nn:=ay iX.out 2))
    go_loopg [5,7,8] k (fun kq v5 v7 v8 w'=>∃ (EK:List ByteArray) (dJ:Int) (gI:Int),v7 = .int .i64 dJ ∧ v8 = .int .i64 gI ∧ aj (bg.l0 kq a1 EK dJ gI t173 vE t175 = some r) ∧ aj (kq ≤ k) ∧ aj (Kd.R Kd.string 9 w' w.heap.size (fun _=>True) v5 EK) ∧ aj (w'.heap[nL]? = some (.cells #[.int .i64 t173,.int .i64 vE,.int .i64 t175] 142 (0,0))) ∧ aj (Below w.heap.size w w'))
    case atStart=>exact ⟨(([]:List ByteArray)),(t173),(0),(by first | rfl | (simp;done) | (simp [*];done) | (simp [B.aV];done) | (simp [B.aW];done)),(by first | rfl | (simp;done) | (simp [*];done) | (simp [B.aV];done) | (simp [B.aW];done)),H',⟨Nat.le_refl _⟩,⟨by first | exact Kd.jE _ _ _ _ _ | exact Kd.lg _ _ _ _ _ | exact Kd.lq _ _ _ _ _ | exact Kd.kY _ _ _ _ _ | exact Kd.kZ _ _ _ _ _⟩,⟨by (with_reducible repeat (first | refine aG ?_ _ | refine aI ?_ | refine aA ?_ _));refine bU (cs:=#[.int .i64 t173,.int .i64 vE,.int .i64 0]) ?_ 2 _ rfl;(with_reducible repeat (first | refine aG ?_ _ | refine aI ?_ | refine aA ?_ _));refine bU (cs:=#[.int .i64 t173,.int .i64 0,.int .i64 0]) ?_ 1 _ rfl;(with_reducible repeat (first | refine aG ?_ _ | refine aI ?_ | refine aA ?_ _));refine bU (cs:=#[.int .i64 0,.int .i64 0,.int .i64 0]) ?_ 0 _ rfl;(with_reducible repeat (first | refine aG ?_ _ | refine aI ?_ | refine aA ?_ _));exact iX.out⟩,⟨by repeat (first | (with_reducible first | exact HB.out | apply ak | apply ah | apply au | refine aR ?_ EJ.out) | exact HB.out)⟩⟩
    case round =>
      clear H'
      try clear c1
      try clear p2
      try clear c4
      try clear c8
      try clear Nh
      try clear Ni
      try clear Nj
      try clear Nk
      try clear Nl
      try clear Nn
      obtain ⟨EK,dJ,gI,rfl,rfl,HA,uj,vF,iX,HB⟩:=hrel
      cases gk with
      | zero=>exact absurd HA.out (by simp [bg.l0])
      | succ k1 =>
        have H:=HA.out
        clear HA
        simp only [bg.l0] at H
        by_cases c10:gI < vE
        · rw [if_pos c10] at H
          have qY:decide (gI < vE) = true:=decide_eq_true c10
          clear c10
          replace H:=zbm H
          obtain ⟨⟨Nr,QZ,afb⟩,aaM,H⟩:=H
          replace H:(if EK.length < 8796093022208 then (bg.l0 k1 a1 (EK ++ [Nr]) QZ (wrap64 (gI + 1)) t173 vE t175) else (none)) = some r:=H
          have A11:=aj.mk aaM
          clear aaM
          by_cases c12:EK.length < 8796093022208
          · rw [if_pos c12] at H
            have aaN:=aj.mk c12
            clear c12
            obtain ⟨aaO,EL⟩:∃ y_:List ByteArray,y_ = (EK ++ [Nr]):=⟨_,rfl⟩
            replace H:(bg.l0 k1 a1 aaO QZ (wrap64 (gI + 1)) t173 vE t175) = some r:=by first | (rw [EL];with_reducible exact H) | (have Gc:=(Option.bind_some _ _).symm.trans H;rw [EL];with_reducible exact Gc) | (have Gc:=(Option.bind_some _ _).symm.trans H;with_reducible exact Gc) | with_reducible exact H | (rw [EL];exact H) | exact H
            have aaP:=aj.mk EL
            clear EL
            have H':=aj.mk H
            clear H
            have Cw:wr.cell? ⟨nL,0,none⟩ = some (.int .i64 t173):=(aM iX.out 0).trans rfl
            have Cx:wr.cell? ⟨nL,1,none⟩ = some (.int .i64 vE):=(aM iX.out 1).trans rfl
            have Cy:wr.cell? ⟨nL,2,none⟩ = some (.int .i64 t175):=(aM iX.out 2).trans rfl
            have Cz:=ay iX.out 0
            have CB:=ay iX.out 1
            have CG:=ay iX.out 2
            go_wp2_with (first | ((with_reducible refine aQ (f:=118) rfl ?_);refine bP (some 29) rfl rfl Try.func118 (by kernel_rfl) rfl #[.string a1,.int .i64 dJ] rfl (by (try simp only [List.map_toArray,List.map_cons,List.map_nil]);first | done | rfl | (simp only [List.length_drop,List.length_take];rfl) | (simp only [ByteArray.size_append,Int.natCast_add];rfl) | (rw [B.dP] <;> first | rfl | omega | (simp only [decide_eq_false_iff_not,decide_eq_true_eq,Int.not_lt,Nat.not_lt,gt_iff_lt] at * <;> omega))) ?_;(with_reducible refine (aU.calls k1 a1 dJ Nr QZ afb _ A11.out).mono ?_);rintro e w' ⟨rfl,⟨nd,rfl⟩⟩;refine ⟨_,rfl,?_⟩) | ((with_reducible refine nX (b:=.append) (xs:=#[.tmp 33,.tmp 35]) rfl ?_);at_builtin;refine Kd.yI Kd.string (w0:=w) w.heap.size rfl (.tmp 33) (.tmp 35) 33 9 (.string ⟨#[]⟩) 16 rfl Try.underlying33 HV rfl (by decide) (by omega) u5 EK Nr [.string Nr] (fun _=>True) (fun _=>False) rfl rfl ?aP (fun _ hk=>hk.elim) ?aF ?aO ?aB ?aS ?aL ?_;(case aP=>exact rfl);(case aB=>exact (by repeat (first | (with_reducible first | exact HB.out | apply ak | apply ah | apply au | refine aR ?_ EJ.out) | exact HB.out)));(case aF=>exact (fun _ _=>trivial));(case aO=>exact (by (with_reducible repeat (first | apply Kd.eZ | apply Kd.fH | apply Kd.fT));exact vF.out));(case aS=>exact (bL (by repeat (first | (with_reducible first | exact HB.out | apply ak | apply ah | apply au | refine aR ?_ EJ.out) | exact HB.out))));(case aL=>have:=aaN.out;omega);intro ahA w14 ho hb hg hat;rw [← aaP.out] at ho;have dZ:=aj.mk (ql (g:=nL) (o:=.cells #[.int .i64 t173,.int .i64 vE,.int .i64 t175] 142 (0,0)) (by (with_reducible repeat (first | refine aG ?_ _ | refine aI ?_ | refine aA ?_ _));exact iX.out) hg (Kd.PI vF.out iX.out (by decide)));have gW:=aj.mk (hb);have jf:=aj.mk (ho);clear iX;clear HB;clear vF;have iX:=dZ;have HB:=gW;have aaQ:=jf;clear dZ gW jf;clear ho hb hg hat))
            go_roundg k1
            case measure=>have:=uj.out;omega
            case rel=>exact ⟨(aaO),(QZ),(wrap64 (gI + 1)),(by first | rfl | (simp;done) | (simp [*];done) | (simp [B.aV];done) | (simp [B.aW];done)),(by first | rfl | (simp;done) | (simp [*];done) | (simp [B.aV];done) | (simp [B.aW];done)),H',⟨by have:=uj.out;omega⟩,⟨by (with_reducible repeat (first | apply Kd.eZ | apply Kd.fH | apply Kd.fT));exact aaQ.out⟩,⟨by (with_reducible repeat (first | refine aG ?_ _ | refine aI ?_ | refine aA ?_ _));exact iX.out⟩,⟨by repeat (first | (with_reducible first | exact HB.out | apply ak | apply ah | apply au | refine aR ?_ EJ.out) | exact HB.out)⟩⟩
          · rw [if_neg c12] at H
            exact absurd H (by simp)
        · rw [if_neg c10] at H
          have qY:decide (gI < vE) = false:=decide_eq_false c10
          clear c10
          obtain rfl:=Option.some.inj H
          have CJ:wr.cell? ⟨nL,0,none⟩ = some (.int .i64 t173):=(aM iX.out 0).trans rfl
          have CK:wr.cell? ⟨nL,1,none⟩ = some (.int .i64 vE):=(aM iX.out 1).trans rfl
          have CO:wr.cell? ⟨nL,2,none⟩ = some (.int .i64 t175):=(aM iX.out 2).trans rfl
          have CP:=ay iX.out 0
          have CQ:=ay iX.out 1
          have CS:=ay iX.out 2
          go_wp2
          go_ret
          exact ⟨_,by first | rfl | (simp [aJ,aK] <;> rfl) | (simp [*,aJ,aK] <;> rfl),by (with_reducible repeat (first | apply Kd.eZ | apply Kd.fH | apply Kd.fT));exact vF.out,by repeat (first | (with_reducible first | exact HB.out | apply ak | apply ah | apply au | refine aR ?_ EJ.out) | exact HB.out)⟩
  · replace c4:=Bool.eq_false_iff.mpr c4
    subst c4
    have H1:(some ([]:List ByteArray)) = some r:=by rw [if_neg (show ¬ (false = true) by decide)] at H;exact H
    clear H
    have H:=H1
    clear H1
    obtain rfl:=Option.some.inj H
    go_enter Try.func105,Try.ntmps105
    go_wp2_with (first | ((with_reducible refine aQ (f:=83) rfl ?_);refine bP (some 14) rfl rfl Try.func83 (by kernel_rfl) rfl #[.int .i64 a0,.string a1] rfl (by (try simp only [List.map_toArray,List.map_cons,List.map_nil]);first | done | rfl | (simp only [List.length_drop,List.length_take];rfl) | (simp only [ByteArray.size_append,Int.natCast_add];rfl) | (rw [B.dP] <;> first | rfl | omega | (simp only [decide_eq_false_iff_not,decide_eq_true_eq,Int.not_lt,Nat.not_lt,gt_iff_lt] at * <;> omega))) ?_;(with_reducible refine (bR.calls k a0 a1 false _ A3.out).mono ?_);rintro e w16 ⟨rfl,hb⟩;refine ⟨_,rfl,?_⟩;have dZ:=aj.mk (bE (by repeat (first | (with_reducible first | exact HB.out | apply ak | apply ah | apply au) | exact HB.out)) hb);clear HB;have HB:=dZ;clear dZ;(try clear hb);(try clear hb2);(try clear hk);(try clear hi)))
    go_ret
    exact ⟨_,by first | rfl | (simp [aJ,aK] <;> rfl) | (simp [*,aJ,aK] <;> rfl),by first | exact Kd.jE _ _ _ _ _ | exact Kd.lg _ _ _ _ _ | exact Kd.lq _ _ _ _ _ | exact Kd.kY _ _ _ _ _ | exact Kd.kZ _ _ _ _ _,by repeat (first | (with_reducible first | exact HB.out | apply ak | apply ah | apply au) | exact HB.out)⟩
def bI.l0 : Nat → ByteArray → List ByteArray → ByteArray → Int → Int → Option (ByteArray)
  | 0,_,_,_,_,_=>none
  | k + 1,x1,x5,x7,x8,x9=>if x9 < (x5.length:Int) then (if 0 ≤ x9 then ((fA.f k (pF ByteArray.empty x5 x9)).bind fun zP=>(if x7.size + zP.size ≤ 9223372036854775807 then (bI.l0 k x1 x5 (x7 ++ zP) (wrap64 (x8 + ((pF ByteArray.empty x5 x9).size:Int))) (wrap64 (x9 + 1))) else (none))) else (none)) else (if 0 ≤ x8 then (if x8 ≤ (x1.size:Int) then (if x7.size + (x1.extract (x8:Int).toNat x1.size).size ≤ 9223372036854775807 then (some (x7 ++ (x1.extract (x8:Int).toNat x1.size))) else (none)) else (none)) else (none))
def bI.f (k:Nat) (a0:Int) (a1:ByteArray):Option (ByteArray):=(bR.f k a0 a1).bind fun t183=>(if t183 = true then ((bg.f k a0 a1).bind fun mK=>((aH.f k a0).bind fun je=>(if 0 ≤ je.1 then (if je.1 ≤ (a1.size:Int) then (bI.l0 k a1 mK (a1.extract 0 (je.1:Int).toNat) je.1 0) else (none)) else (none)))) else (some (⟨#[]⟩:ByteArray)))
set_option maxHeartbeats 8000000 in
set_option maxRecDepth 100000 in
theorem bI.calls (k:Nat) (a0:Int) (a1:ByteArray) (r:ByteArray) (w:World) (h:bI.f k a0 a1 = some r) :
    Calls Try.prog 84 #[.int .i64 a0,.string a1] w fun e w'=>e = .returned (.string r) ∧ Below w.heap.size w w':=by
  have Ng:=Try.underlying142
  have HB:=aj.mk (Below.refl w.heap.size w)
  have H:((bR.f k a0 a1).bind fun t183=>(if t183 = true then ((bg.f k a0 a1).bind fun mK=>((aH.f k a0).bind fun je=>(if 0 ≤ je.1 then (if je.1 ≤ (a1.size:Int) then (bI.l0 k a1 mK (a1.extract 0 (je.1:Int).toNat) je.1 0) else (none)) else (none)))) else (some (⟨#[]⟩:ByteArray)))) = some r:=h
  clear h
  replace H:=zbm H
  obtain ⟨t183,Sw,H⟩:=H
  replace H:(if t183 = true then ((bg.f k a0 a1).bind fun mK=>((aH.f k a0).bind fun je=>(if 0 ≤ je.1 then (if je.1 ≤ (a1.size:Int) then (bI.l0 k a1 mK (a1.extract 0 (je.1:Int).toNat) je.1 0) else (none)) else (none)))) else (some (⟨#[]⟩:ByteArray))) = some r:=H
  have A3:=aj.mk Sw
  clear Sw
  by_cases c4:t183 = true
  · subst c4
    have H1:((bg.f k a0 a1).bind fun mK=>((aH.f k a0).bind fun je=>(if 0 ≤ je.1 then (if je.1 ≤ (a1.size:Int) then (bI.l0 k a1 mK (a1.extract 0 (je.1:Int).toNat) je.1 0) else (none)) else (none)))) = some r:=by rw [if_pos rfl] at H;exact H
    clear H
    have H:=H1
    clear H1
    replace H:=zbm H
    obtain ⟨mK,SG,H⟩:=H
    replace H:((aH.f k a0).bind fun je=>(if 0 ≤ je.1 then (if je.1 ≤ (a1.size:Int) then (bI.l0 k a1 mK (a1.extract 0 (je.1:Int).toNat) je.1 0) else (none)) else (none))) = some r:=H
    have A5:=aj.mk SG
    clear SG
    replace H:=zbm H
    obtain ⟨⟨qM,Ns,Q0⟩,A60,H⟩:=H
    replace H:(if 0 ≤ qM then (if qM ≤ (a1.size:Int) then (bI.l0 k a1 mK (a1.extract 0 (qM:Int).toNat) qM 0) else (none)) else (none)) = some r:=H
    have A6:=aj.mk A60
    clear A60
    by_cases c7:0 ≤ qM
    · rw [if_pos c7] at H
      have uD:=eq_true c7
      have JO:decide (0 ≤ qM) = true:=decide_eq_true c7
      clear c7
      by_cases c8:qM ≤ (a1.size:Int)
      · rw [if_pos c8] at H
        have rR:=eq_true c8
        have rT:decide (qM ≤ (a1.size:Int)) = true:=decide_eq_true c8
        clear c8
        have H':=aj.mk H
        clear H
        go_enter Try.func84,Try.ntmps84
        go_wp2_with (first | ((with_reducible refine aQ (f:=83) rfl ?_);refine bP (some 12) rfl rfl Try.func83 (by kernel_rfl) rfl #[.int .i64 a0,.string a1] rfl (by (try simp only [List.map_toArray,List.map_cons,List.map_nil]);first | done | rfl | (simp only [List.length_drop,List.length_take];rfl) | (simp only [ByteArray.size_append,Int.natCast_add];rfl) | (rw [B.dP] <;> first | rfl | omega | (simp only [decide_eq_false_iff_not,decide_eq_true_eq,Int.not_lt,Nat.not_lt,gt_iff_lt] at * <;> omega))) ?_;(with_reducible refine (bR.calls k a0 a1 true _ A3.out).mono ?_);rintro e w9 ⟨rfl,hb⟩;refine ⟨_,rfl,?_⟩;have dZ:=aj.mk (bE (by repeat (first | (with_reducible first | exact HB.out | apply ak | apply ah | apply au) | exact HB.out)) hb);clear HB;have HB:=dZ;clear dZ;(try clear hb);(try clear hb2);(try clear hk);(try clear hi)) | ((with_reducible refine aQ (f:=105) rfl ?_);refine bP (some 16) rfl rfl Try.func105 (by kernel_rfl) rfl #[.int .i64 a0,.string a1] rfl (by (try simp only [List.map_toArray,List.map_cons,List.map_nil]);first | done | rfl | (simp only [List.length_drop,List.length_take];rfl) | (simp only [ByteArray.size_append,Int.natCast_add];rfl) | (rw [B.dP] <;> first | rfl | omega | (simp only [decide_eq_false_iff_not,decide_eq_true_eq,Int.not_lt,Nat.not_lt,gt_iff_lt] at * <;> omega))) ?_;(with_reducible refine (bg.calls k a0 a1 mK _ A5.out).mono ?_);rintro e w10 ⟨afc,rfl,ho0,hb⟩;refine ⟨_,rfl,?_⟩;have dZ:=aj.mk (Kd.tT ho0 (bL (by repeat (first | (with_reducible first | exact HB.out | apply ak | apply ah | apply au) | exact HB.out))));have gW:=aj.mk (bE (by repeat (first | (with_reducible first | exact HB.out | apply ak | apply ah | apply au) | exact HB.out)) hb);clear HB;have ze:=dZ;have HB:=gW;clear dZ gW;(try clear hb);(try clear hb2);(try clear hk);(try clear hi);(try clear ho0)) | ((with_reducible refine aQ (f:=106) rfl ?_);refine bP (some 18) rfl rfl Try.func106 (by kernel_rfl) rfl #[.int .i64 a0] rfl (by (try simp only [List.map_toArray,List.map_cons,List.map_nil]);first | done | rfl | (simp only [List.length_drop,List.length_take];rfl) | (simp only [ByteArray.size_append,Int.natCast_add];rfl) | (rw [B.dP] <;> first | rfl | omega | (simp only [decide_eq_false_iff_not,decide_eq_true_eq,Int.not_lt,Nat.not_lt,gt_iff_lt] at * <;> omega))) ?_;(with_reducible refine (aH.calls k a0 qM Ns Q0 _ A6.out).mono ?_);rintro e Vx ⟨rfl,hb⟩;refine ⟨_,rfl,?_⟩;have dZ:=aj.mk (Kd.ku (by (with_reducible repeat (first | apply Kd.eZ | apply Kd.fH | apply Kd.fT));exact ze.out) hb);have gW:=aj.mk (bE (by repeat (first | (with_reducible first | exact HB.out | apply ak | apply ah | apply au) | exact HB.out)) hb);clear ze;clear HB;have ze:=dZ;have HB:=gW;clear dZ gW;(try clear hb);(try clear hb2);(try clear hk);(try clear hi)) | ((with_reducible refine gH (N:=6) rfl ?_);refine fP ?hg (N:=6) ?hd (cs:=#[.int .i64 0,.int .i64 0,.int .i64 0]) (t:=142) ?hr ?_;(case hd=>rfl);(case hg=>rfl);(case hr=>first | (go_simp;done) | (go_simp;rfl));intro q8 hg w12 gT hb;have dZ:=aj.mk (Kd.ku (by (with_reducible repeat (first | apply Kd.eZ | apply Kd.fH | apply Kd.fT));exact ze.out) hb);have gW:=aj.mk (bE (by repeat (first | (with_reducible first | exact HB.out | apply ak | apply ah | apply au) | exact HB.out)) hb);have jf:=aj.mk (gT);have jL:=aj.mk ((by rw [hg];exact (bL (by repeat (first | (with_reducible first | exact HB.out | apply ak | apply ah | apply au) | exact HB.out))):w.heap.size ≤ q8));have qL:=aj.mk ((by rw [hg];exact (bL (by repeat (first | (with_reducible first | exact HB.out | apply ak | apply ah | apply au) | exact HB.out))):w.heap.size ≤ q8));clear ze;clear HB;have ze:=dZ;have HB:=gW;have nM:=jf;have ahe:=jL;have IG:=qL;clear dZ gW jf jL qL;clear hb gT hg;have Cw:w12.cell? ⟨q8,0,none⟩ = some (.int .i64 0):=(aM nM.out 0).trans rfl;have Cx:w12.cell? ⟨q8,1,none⟩ = some (.int .i64 0):=(aM nM.out 1).trans rfl;have Cy:w12.cell? ⟨q8,2,none⟩ = some (.int .i64 0):=(aM nM.out 2).trans rfl;have Cz:=ay nM.out 0;have CB:=ay nM.out 1;have CG:=ay nM.out 2))
        go_loopg [7,8,9] k (fun kq v7 v8 v9 w'=>∃ (dJ:ByteArray) (gI:Int) (iL:Int),v7 = .string dJ ∧ v8 = .int .i64 gI ∧ v9 = .int .i64 iL ∧ aj (bI.l0 kq a1 mK dJ gI iL = some r) ∧ aj (kq ≤ k) ∧ aj (Kd.R Kd.string 9 w' w.heap.size (fun _=>True) afc mK) ∧ aj (w'.heap[q8]? = some (.cells #[.int .i64 qM,.int .i64 Ns,.int .i64 Q0] 142 (0,0))) ∧ aj (Below w.heap.size w w'))
        case atStart=>exact ⟨(a1.extract 0 (qM:Int).toNat),(qM),(0),(by first | rfl | (simp;done) | (simp [*];done) | (simp [B.aV];done) | (simp [B.aW];done)),(by first | rfl | (simp;done) | (simp [*];done) | (simp [B.aV];done) | (simp [B.aW];done)),(by first | rfl | (simp;done) | (simp [*];done) | (simp [B.aV];done) | (simp [B.aW];done)),H',⟨Nat.le_refl _⟩,⟨by (with_reducible repeat (first | apply Kd.eZ | apply Kd.fH | apply Kd.fT));exact Kd.pI (Kd.tV (p:=⟨q8,2,none⟩) (Kd.tV (p:=⟨q8,1,none⟩) (Kd.tV (p:=⟨q8,0,none⟩) (Kd.tX ze.out nM.out (by decide)) (fun _ hk=>hk.2) (.int .i64 qM)) (fun _ hk=>hk.2) (.int .i64 Ns)) (fun _ hk=>hk.2) (.int .i64 Q0)) (fun _ hk=>trivial)⟩,⟨by (with_reducible repeat (first | refine aG ?_ _ | refine aI ?_ | refine aA ?_ _));refine bU (cs:=#[.int .i64 qM,.int .i64 Ns,.int .i64 0]) ?_ 2 _ rfl;(with_reducible repeat (first | refine aG ?_ _ | refine aI ?_ | refine aA ?_ _));refine bU (cs:=#[.int .i64 qM,.int .i64 0,.int .i64 0]) ?_ 1 _ rfl;(with_reducible repeat (first | refine aG ?_ _ | refine aI ?_ | refine aA ?_ _));refine bU (cs:=#[.int .i64 0,.int .i64 0,.int .i64 0]) ?_ 0 _ rfl;(with_reducible repeat (first | refine aG ?_ _ | refine aI ?_ | refine aA ?_ _));exact nM.out⟩,⟨by repeat (first | (with_reducible first | exact HB.out | apply ak | apply ah | apply au | refine aR ?_ IG.out) | exact HB.out)⟩⟩
        case round =>
          clear H'
          try clear c1
          try clear p2
          try clear c4
          try clear c7
          try clear uD
          try clear JO
          try clear c8
          try clear rR
          try clear rT
          try clear c10
          try clear Cw
          try clear Cx
          try clear Cy
          try clear Cz
          try clear CB
          try clear CG
          obtain ⟨dJ,gI,iL,rfl,rfl,rfl,HA,uj,vF,nM,HB⟩:=hrel
          cases gk with
          | zero=>exact absurd HA.out (by simp [bI.l0])
          | succ k1 =>
            have H:=HA.out
            clear HA
            simp only [bI.l0] at H
            by_cases c14:iL < (mK.length:Int)
            · rw [if_pos c14] at H
              have AJ:decide (iL < (mK.length:Int)) = true:=decide_eq_true c14
              clear c14
              by_cases c15:0 ≤ iL
              · rw [if_pos c15] at H
                have Zw:decide (0 ≤ iL) = true:=decide_eq_true c15
                clear c15
                replace H:=zbm H
                obtain ⟨zP,aaR,H⟩:=H
                replace H:(if dJ.size + zP.size ≤ 9223372036854775807 then (bI.l0 k1 a1 mK (dJ ++ zP) (wrap64 (gI + ((pF ByteArray.empty mK iL).size:Int))) (wrap64 (iL + 1))) else (none)) = some r:=H
                have A16:=aj.mk aaR
                clear aaR
                by_cases c17:dJ.size + zP.size ≤ 9223372036854775807
                · rw [if_pos c17] at H
                  have SC:=eq_true c17
                  have ahf:decide (dJ.size + zP.size ≤ 9223372036854775807) = true:=decide_eq_true c17
                  try have ahg:(9223372036854775807 < dJ.size + zP.size) = False:=eq_false (Nat.not_lt.2 c17)
                  have H':=aj.mk H
                  clear H
                  obtain ⟨ahB,ahC,afd⟩:=Kd.wU vF.out
                  subst afd
                  have VF:0 ≤ (iL:Int):=of_decide_eq_true (by first | (with_reducible assumption) | assumption)
                  have VG:iL < (mK.length:Int):=of_decide_eq_true (by first | (with_reducible assumption) | assumption)
                  obtain ⟨aaS,afe,adA⟩:=Kd.Aq (Kd.pJ vF.out).2.2 iL VF VG
                  cases afe
                  replace VF:=eq_true VF
                  replace VG:=eq_true VG
                  go_wp2_with (first | ((with_reducible refine aQ (f:=101) rfl ?_);refine bP (some 36) rfl rfl Try.func101 (by kernel_rfl) rfl #[.string (pF ByteArray.empty mK iL)] rfl (by (try simp only [List.map_toArray,List.map_cons,List.map_nil]);first | done | rfl | (simp only [List.length_drop,List.length_take];rfl) | (simp only [ByteArray.size_append,Int.natCast_add];rfl) | (rw [B.dP] <;> first | rfl | omega | (simp only [decide_eq_false_iff_not,decide_eq_true_eq,Int.not_lt,Nat.not_lt,gt_iff_lt] at * <;> omega))) ?_;(with_reducible refine (fA.calls k1 (pF ByteArray.empty mK iL) zP _ A16.out).mono ?_);rintro e w19 ⟨rfl,hb⟩;refine ⟨_,rfl,?_⟩;have dZ:=aj.mk (Kd.ku (by (with_reducible repeat (first | apply Kd.eZ | apply Kd.fH | apply Kd.fT));exact vF.out) hb);have gW:=aj.mk (dN (g:=q8) (o:=.cells #[.int .i64 qM,.int .i64 Ns,.int .i64 Q0] 142 (0,0)) (by (with_reducible repeat (first | refine aG ?_ _ | refine aI ?_ | refine aA ?_ _));exact nM.out) hb);have jf:=aj.mk (bE (by repeat (first | (with_reducible first | exact HB.out | apply ak | apply ah | apply au | refine aR ?_ IG.out) | exact HB.out)) hb);clear vF;clear nM;clear HB;have vF:=dZ;have nM:=gW;have HB:=jf;clear dZ gW jf;(try clear hb);(try clear hb2);(try clear hk);(try clear hi);have VH:0 ≤ (iL:Int):=of_decide_eq_true (by first | (with_reducible assumption) | assumption);have VI:iL < (mK.length:Int):=of_decide_eq_true (by first | (with_reducible assumption) | assumption);obtain ⟨aaT,aff,adB⟩:=Kd.Aq (Kd.pJ vF.out).2.2 iL VH VI;obtain rfl:aaS = aaT:=(by injection aff);replace VH:=eq_true VH;replace VI:=eq_true VI))
                  go_roundg k1
                  case measure=>have:=uj.out;omega
                  case rel=>exact ⟨(dJ ++ zP),(wrap64 (gI + ((pF ByteArray.empty mK iL).size:Int))),(wrap64 (iL + 1)),(by first | rfl | (simp;done) | (simp [*];done) | (simp [B.aV];done) | (simp [B.aW];done)),(by first | rfl | (simp;done) | (simp [*];done) | (simp [B.aV];done) | (simp [B.aW];done)),(by first | rfl | (simp;done) | (simp [*];done) | (simp [B.aV];done) | (simp [B.aW];done)),H',⟨by have:=uj.out;omega⟩,⟨by (with_reducible repeat (first | apply Kd.eZ | apply Kd.fH | apply Kd.fT));exact vF.out⟩,⟨by (with_reducible repeat (first | refine aG ?_ _ | refine aI ?_ | refine aA ?_ _));exact nM.out⟩,⟨by repeat (first | (with_reducible first | exact HB.out | apply ak | apply ah | apply au | refine aR ?_ IG.out) | exact HB.out)⟩⟩
                · rw [if_neg c17] at H
                  exact absurd H (by simp)
              · rw [if_neg c15] at H
                exact absurd H (by simp)
            · rw [if_neg c14] at H
              have AJ:decide (iL < (mK.length:Int)) = false:=decide_eq_false c14
              clear c14
              by_cases c20:0 ≤ gI
              · rw [if_pos c20] at H
                have M9:=eq_true c20
                have Z0:decide (0 ≤ gI) = true:=decide_eq_true c20
                clear c20
                by_cases c21:gI ≤ (a1.size:Int)
                · rw [if_pos c21] at H
                  have SA:=eq_true c21
                  have SB:decide (gI ≤ (a1.size:Int)) = true:=decide_eq_true c21
                  clear c21
                  by_cases EX:dJ.size + (a1.extract (gI:Int).toNat a1.size).size ≤ 9223372036854775807
                  · rw [if_pos EX] at H
                    have Np:=eq_true EX
                    have Nq:decide (dJ.size + (a1.extract (gI:Int).toNat a1.size).size ≤ 9223372036854775807) = true:=decide_eq_true EX
                    try have ahh:(9223372036854775807 < dJ.size + (a1.extract (gI:Int).toNat a1.size).size) = False:=eq_false (Nat.not_lt.2 EX)
                    obtain rfl:=Option.some.inj H
                    obtain ⟨ahD,ahE,afg⟩:=Kd.wU vF.out
                    subst afg
                    go_wp2
                    go_ret
                    exact ⟨by first | rfl | (simp [aJ,aK] <;> rfl) | (simp [*,aJ,aK] <;> rfl),by repeat (first | (with_reducible first | exact HB.out | apply ak | apply ah | apply au | refine aR ?_ IG.out) | exact HB.out)⟩
                  · rw [if_neg EX] at H
                    exact absurd H (by simp)
                · rw [if_neg c21] at H
                  exact absurd H (by simp)
              · rw [if_neg c20] at H
                exact absurd H (by simp)
      · rw [if_neg c8] at H
        exact absurd H (by simp)
    · rw [if_neg c7] at H
      exact absurd H (by simp)
  · replace c4:=Bool.eq_false_iff.mpr c4
    subst c4
    have H1:(some (⟨#[]⟩:ByteArray)) = some r:=by rw [if_neg (show ¬ (false = true) by decide)] at H;exact H
    clear H
    have H:=H1
    clear H1
    obtain rfl:=Option.some.inj H
    go_enter Try.func84,Try.ntmps84
    go_wp2_with (first | ((with_reducible refine aQ (f:=83) rfl ?_);refine bP (some 12) rfl rfl Try.func83 (by kernel_rfl) rfl #[.int .i64 a0,.string a1] rfl (by (try simp only [List.map_toArray,List.map_cons,List.map_nil]);first | done | rfl | (simp only [List.length_drop,List.length_take];rfl) | (simp only [ByteArray.size_append,Int.natCast_add];rfl) | (rw [B.dP] <;> first | rfl | omega | (simp only [decide_eq_false_iff_not,decide_eq_true_eq,Int.not_lt,Nat.not_lt,gt_iff_lt] at * <;> omega))) ?_;(with_reducible refine (bR.calls k a0 a1 false _ A3.out).mono ?_);rintro e w24 ⟨rfl,hb⟩;refine ⟨_,rfl,?_⟩;have dZ:=aj.mk (bE (by repeat (first | (with_reducible first | exact HB.out | apply ak | apply ah | apply au) | exact HB.out)) hb);clear HB;have HB:=dZ;clear dZ;(try clear hb);(try clear hb2);(try clear hk);(try clear hi)))
    go_ret
    exact ⟨by first | rfl | (simp [aJ,aK] <;> rfl) | (simp [*,aJ,aK] <;> rfl),by repeat (first | (with_reducible first | exact HB.out | apply ak | apply ah | apply au) | exact HB.out)⟩
end Go.Proofs.Ytdkkgecdhapfhaa.ZQ
namespace Go.Proofs.Ytdkkgecdhapfhaa.ZQ
open Go.RowKit Go.Proofs.YtdkkgecdhapfhaaW.bD Go.Proofs.YtdkkgecdhapfhaaW.dL Go.Proofs.YtdkkgecdhapfhaaW.eH Go.Proofs.Ytdkkgecdhapfhaa.B
def vY (msg:ByteArray) (i:Int):ByteArray × Int × Int:=(bF.f (rounds i) msg i).getD (⟨#[]⟩,0,0)
theorem SL (msg:ByteArray) (i:Int) (hm:msg.size ≤ 100000):bF.f (rounds i) msg i = some (vY msg i):=by
  obtain ⟨R,h1,_⟩:=AO (rounds i) msg i hm (Nat.le_refl _)
  unfold vY;rw [h1];rfl
theorem SN (k:Nat) (msg:ByteArray) (i:Int) (hm:msg.size ≤ 100000) (hk:rounds i ≤ k):bF.f k msg i = some (vY msg i):=EC hk (SL msg i hm)
theorem vG (k:Nat) (msg:ByteArray) (i:Int) (hm:msg.size ≤ 100000) (hk:rounds i ≤ k):aU.f k msg i = some (vY msg i):=by
  obtain ⟨R,h1,h2⟩:=AO k msg i hm hk
  rw [SN k msg i hm hk] at h1
  rw [h2,h1]
theorem uG (msg:ByteArray) (i:Int) (hm:msg.size ≤ 100000) :
    ((vY msg i).2.2 = 0 ∧ jK (vY msg i).1 = true ∧ 0 ≤ i ∧ i < (vY msg i).2.1 ∧ (vY msg i).2.1 ≤ (msg.size:Int)) ∨ (((vY msg i).2.2 = 2 ∨ (vY msg i).2.2 = 3) ∧ (vY msg i).1 = ⟨#[]⟩ ∧ (vY msg i).2.1 = 0):=Gh hm (SL msg i hm)
def EM (msg:ByteArray) (e:Int):Nat → Int → List ByteArray → Option (List ByteArray × Int)
  | 0,i,l=>some (l,i)
  | n + 1,i,l=>if (vY msg i).2.2 = 0 then (if (vY msg i).2.1 > e then none else EM msg e n (vY msg i).2.1 (l ++ [(vY msg i).1])) else none
theorem qB (msg:ByteArray) (e:Int) (hm:msg.size ≤ 100000):∀ (n:Nat) (i:Int) (l:List ByteArray) (R:List ByteArray × Int),EM msg e n i l = some R → i ≤ e → i ≤ R.2 ∧ R.2 ≤ e ∧ R.1.length = l.length + n ∧ (∃ l',R.1 = l ++ l' ∧ ∀ x ∈ l',jK x = true)
  | 0,i,l,R,h,hi=>by cases h;exact ⟨Int.le_refl _,hi,rfl,[],by simp,by simp⟩
  | n + 1,i,l,R,h,hi=>by
    rw [EM] at h
    by_cases h0:(vY msg i).2.2 = 0
    · rw [if_pos h0] at h
      by_cases h1:(vY msg i).2.1 > e
      · rw [if_pos h1] at h;cases h
      · rw [if_neg h1] at h
        obtain ⟨a1,a2,a3,l',a4,a5⟩:=qB msg e hm n _ _ R h (by omega)
        rcases uG msg i hm with ⟨_,b2,_,b4,_⟩ | ⟨b1,_⟩
        · refine ⟨by omega,a2,by rw [a3,List.length_append,List.length_singleton];omega,(vY msg i).1 :: l',by rw [a4];simp,?_⟩
          intro x hx
          rcases List.mem_cons.mp hx with rfl | hx
          · exact b2
          · exact a5 x hx
        · omega
    · rw [if_neg h0] at h;cases h
def K0 : Nat:=101000
theorem qC {msg:ByteArray} {i:Int} {k:Nat} (hm:msg.size ≤ 100000) (hi:i ≤ (msg.size:Int)) (hk:K0 ≤ k):rounds i ≤ k:=by unfold rounds;unfold K0 at hk;omega
theorem CU (msg:ByteArray) (e s0 s1 s2:Int) (a b:ByteArray) (hm:msg.size ≤ 100000) (he:e ≤ (msg.size:Int)) (h2:0 ≤ s2 ∧ s2 ≤ 1000) (c:Int) (hc:c ≤ 100):∀ (n k:Nat) (i x:Int) (l:List ByteArray),K0 + n ≤ k → x + n = c → 0 ≤ x → 0 ≤ i → i ≤ e → l.length + n ≤ 1000 →
    bV.l0 (k + 1) msg i e c x s0 s1 s2 a b l = (match EM msg e n i l with
      | some R=>some (a,msg.extract R.2.toNat e.toNat,R.1,(((msg.extract R.2.toNat e.toNat).size:Int) == s2))
      | none=>some (⟨#[]⟩,⟨#[]⟩,[],false))
  | 0,k,i,x,l,hk,hx,hx0,hi,hie,hl=>by
    rw [bV.l0,if_neg (by omega),if_pos hi,if_pos hie,if_pos he,EM]
  | n + 1,k,i,x,l,hk,hx,hx0,hi,hie,hl=>by
    obtain ⟨k,rfl⟩:∃ m,k = m + 1:=⟨k - 1,by omega⟩
    rw [bV.l0,if_pos (by omega),SN (k + 1) msg i hm (qC hm (by omega) (by omega)),EM]
    simp only [Option.bind_some]
    by_cases h0:(vY msg i).2.2 = 0
    · rw [if_pos h0,if_pos h0]
      by_cases h1:(vY msg i).2.1 > e
      · rw [if_pos h1,if_pos h1]
      · rcases uG msg i hm with ⟨_,_,_,b4,_⟩ | ⟨b1,_⟩
        · rw [if_neg h1,if_neg h1,if_pos (by omega),dP (by omega) (by omega)]
          exact CU msg e s0 s1 s2 a b hm he h2 c hc n k _ (x + 1) _ (by omega) (by omega) (by omega) (by omega) (by omega) (by rw [List.length_append,List.length_singleton];omega)
        · omega
    · rw [if_neg h0,if_neg h0]
def Nu (s:ByteArray):Nat → Int → Bool
  | 0,_=>false
  | k + 1,i=>if i < (s.size:Int) then Nu s k (i + 1 + bt s i) else decide (i = s.size)
def Gl (s:ByteArray):Bool:=decide (0 < s.size) && Nu s (s.size + 1) 0
theorem VJ (s:ByteArray) {k:Nat} {i:Int} (h:(s.size:Int) < i):Nu s k i = false:=by
  cases k with
  | zero=>rfl
  | succ k=>rw [Nu,if_neg (by omega)];simp;omega
theorem Nw (s:ByteArray) (hs:s.size ≤ 100000) (d:Nat):∀ (k m:Nat) (i:Int),0 ≤ i → i ≤ (s.size:Int) → s.size - i.toNat ≤ d → d + 1 ≤ k → d + 1 ≤ m → dK.l0 k (s.extract i.toNat s.size) = some (Nu s m i):=by
  induction d with
  | zero =>
    intro k m i h0 h1 h2 hk hm
    obtain ⟨k,rfl⟩:∃ j,k = j + 1:=⟨k - 1,by omega⟩
    obtain ⟨m,rfl⟩:∃ j,m = j + 1:=⟨m - 1,by omega⟩
    rw [dK.l0,if_pos (toList_nil.mpr (by rw [ByteArray.size_extract];omega)),Nu,if_neg (by omega),decide_eq_true (by omega)]
  | succ d ih =>
    intro k m i h0 h1 h2 hk hm
    obtain ⟨k,rfl⟩:∃ j,k = j + 1:=⟨k - 1,by omega⟩
    obtain ⟨m,rfl⟩:∃ j,m = j + 1:=⟨m - 1,by omega⟩
    have hz:(s.extract i.toNat s.size).size = s.size - i.toNat:=by rw [ByteArray.size_extract];omega
    by_cases hi:i < (s.size:Int)
    · have hb:bt (s.extract i.toNat s.size) 0 = bt s i:=by
        rw [mF (by omega) (by omega)];congr 1;omega
      have hr:=gy s i
      rw [dK.l0,if_neg (by rw [toList_nil];omega),if_pos (by omega),hb,dP (n:=bt s i) (by omega) (by omega),dP (n:=1 + bt s i) (by omega) (by omega),Nu,if_pos hi]
      by_cases h3:1 + bt s i > ((s.extract i.toNat s.size).size:Int)
      · rw [if_pos h3,VJ s (by omega)]
      · rw [if_neg h3,if_pos (by omega),if_pos (by omega)]
        have e:(s.extract i.toNat s.size).extract (1 + bt s i).toNat (s.extract i.toNat s.size).size = s.extract (i + 1 + bt s i).toNat s.size:=by
          rw [ByteArray.extract_extract,hz]
          congr 1 <;> omega
        rw [e]
        exact ih k m _ (by omega) (by omega) (by omega) (by omega) (by omega)
    · rw [dK.l0,if_pos (toList_nil.mpr (by omega)),Nu,if_neg hi,decide_eq_true (by omega)]
theorem Ny (k:Nat) (hk:K0 ≤ k) (s:ByteArray) (hs:s.size ≤ 100000):dK.f k s = some (Gl s):=by
  unfold dK.f Gl
  by_cases h:s.toList = ([]:List UInt8)
  · rw [if_pos h];rw [toList_nil] at h;rw [h];rfl
  · rw [if_neg h]
    rw [toList_nil] at h
    unfold K0 at hk
    have:=Nw s hs s.size k (s.size + 1) 0 (by omega) (by omega) (by omega) (by omega) (by omega)
    rw [show (0:Int).toNat = 0 from rfl,ByteArray.extract_zero_size] at this
    rw [this,decide_eq_true (by omega),Bool.true_and]
theorem CW (s:ByteArray) (hs:s.size ≤ 100000) (d:Nat):∀ (k m:Nat) (i:Int),0 ≤ i → (i:Int) ≤ s.size + 300 → 0 < i ∨ 0 < s.size → s.size - i.toNat ≤ d → d + 1 ≤ k → d + 1 ≤ m → bq.l0 k s i = some (Nu s m i):=by
  induction d with
  | zero =>
    intro k m i h0 h1 hp h2 hk hm
    obtain ⟨k,rfl⟩:∃ j,k = j + 1:=⟨k - 1,by omega⟩
    obtain ⟨m,rfl⟩:∃ j,m = j + 1:=⟨m - 1,by omega⟩
    have hlt:¬ i < (s.size:Int):=by omega
    rw [bq.l0,if_neg hlt,Nu,if_neg hlt]
    by_cases h:i = (s.size:Int)
    · rw [if_pos h,decide_eq_true (by omega),decide_eq_true h]
    · rw [if_neg h,decide_eq_false h]
  | succ d ih =>
    intro k m i h0 h1 hp h2 hk hm
    obtain ⟨k,rfl⟩:∃ j,k = j + 1:=⟨k - 1,by omega⟩
    obtain ⟨m,rfl⟩:∃ j,m = j + 1:=⟨m - 1,by omega⟩
    have hr:=gy s i
    rw [bq.l0,Nu]
    by_cases hi:i < (s.size:Int)
    · rw [if_pos hi,if_pos hi,if_pos h0,dP (n:=bt s i) (by omega) (by omega),dP (n:=i + 1) (by omega) (by omega),dP (by omega) (by omega)]
      exact ih k m _ (by omega) (by omega) (by omega) (by omega) (by omega) (by omega)
    · rw [if_neg hi,if_neg hi]
      by_cases h:i = (s.size:Int)
      · rw [if_pos h,decide_eq_true (by omega),decide_eq_true h]
      · rw [if_neg h,decide_eq_false h]
theorem CX (k:Nat) (hk:K0 ≤ k) (s:ByteArray) (hs:s.size ≤ 100000):bq.f k s = some (Gl s):=by
  unfold bq.f Gl
  unfold K0 at hk
  by_cases h:0 < s.size
  · rw [CW s hs s.size k (s.size + 1) 0 (by omega) (by omega) (by omega) (by omega) (by omega) (by omega),decide_eq_true h,Bool.true_and]
  · obtain ⟨k,rfl⟩:∃ j,k = j + 1:=⟨k - 1,by omega⟩
    rw [bq.l0,if_neg (by omega),if_pos (by omega),decide_eq_false h];rfl
end Go.Proofs.Ytdkkgecdhapfhaa.ZQ
namespace Go.Proofs.Ytdkkgecdhapfhaa.ZQ
open Go.RowKit Go.Proofs.YtdkkgecdhapfhaaW.bD Go.Proofs.YtdkkgecdhapfhaaW.dL Go.Proofs.YtdkkgecdhapfhaaW.eH Go.Proofs.Ytdkkgecdhapfhaa.B
theorem Gn (l m:List ByteArray):strings_Join.cat (l ++ m) = strings_Join.cat l ++ strings_Join.cat m:=by
  induction l with
  | nil=>exact (empty_append _).symm
  | cons x l ih=>rw [List.cons_append,strings_Join.cat,ih,strings_Join.cat,ByteArray.append_assoc]
theorem Q5 (x:ByteArray):strings_Join.cat [x] = x:=append_empty x
theorem pW {n:ByteArray} (h:jK n = true):n.size ≤ 255:=by
  obtain ⟨l,_,_,hz⟩:=Hw.mp h;exact hz
theorem uH : ∀ {l:List ByteArray},(∀ x ∈ l,jK x = true) → (strings_Join.cat l).size ≤ 255 * l.length
  | [],_=>Nat.zero_le _
  | x :: l,h=>by
    have h1:=pW (h x (by simp))
    have h2:=uH (l:=l) (fun y hy=>h y (by simp [hy]))
    rw [strings_Join.cat,ByteArray.size_append,List.length_cons]
    omega
def zf (d:ByteArray):ByteArray × Int:=if (d.size:Int) > 65535 then (⟨#[]⟩,4) else (d,0)
theorem vH (d:ByteArray):(if (d.size:Int) > 65535 then some ((⟨#[]⟩:ByteArray),(4:Int)) else some (d,0)) = some (zf d):=by
  unfold zf;split <;> rfl
def J2 (msg:ByteArray) (i size:Int) (s:Int × Int × Int):ByteArray × Int :=
  if s.1 ≤ size then (match EM msg (i + size) s.2.1.toNat (i + s.1) [] with
    | some R=>if R.2 + s.2.2 = i + size then zf (msg.extract i.toNat (i + s.1).toNat ++ strings_Join.cat R.1 ++ msg.extract R.2.toNat (i + size).toNat) else (⟨#[]⟩,4)
    | none=>(⟨#[]⟩,4)) else (⟨#[]⟩,4)
def zQ (msg:ByteArray) (i size kind:Int):ByteArray × Int :=
  if gQ msg i size then (match aD.y9 kind with
    | some s=>J2 msg i size s
    | none=>if kind = 16 then (if Gl (msg.extract i.toNat (i + size).toNat) = true then zf (msg.extract i.toNat (i + size).toNat) else (⟨#[]⟩,4)) else zf (msg.extract i.toNat (i + size).toNat))
  else (⟨#[]⟩,2)
theorem kU {kind:Int} {s:Int × Int × Int} (h:aD.y9 kind = some s):0 ≤ s.1 ∧ s.1 ≤ 16 ∧ 0 ≤ s.2.1 ∧ s.2.1 ≤ 2 ∧ 0 ≤ s.2.2 ∧ s.2.2 ≤ 20 ∧ kind ≠ 16 ∧ (s.1 = 0 → s.2.1 = 0 → False):=by
  unfold aD.y9 at h
  repeat' split at h
  all_goals (first | (cases h;subst_vars;decide) | cases h)
theorem VK (k:Nat) (hk:K0 ≤ k) (kind:Int) (hkind:kind ≠ 16) (d:ByteArray):aD.fin k kind d true = some (zf d):=by
  unfold aD.fin
  rw [if_pos rfl,if_neg hkind,vH]
theorem vI (k:Nat) (kind:Int) (d:ByteArray):aD.fin k kind d false = some (⟨#[]⟩,4):=by
  unfold aD.fin;rw [if_neg Bool.false_ne_true]
theorem AY (msg:ByteArray) (i size kind:Int) (k:Nat) (hk:K0 ≤ k) (hm:msg.size ≤ 100000) (f:ByteArray → Option Bool) (hf:∀ s,s.size ≤ 100000 → f s = some (Gl s)) (t:ByteArray) (ht:t.size ≤ 100000) :
    (if kind = 16 then ((f t).bind fun b=>if b = true then (if (t.size:Int) > 65535 then some ((⟨#[]⟩:ByteArray),(4:Int)) else some (t,0)) else some (⟨#[]⟩,4)) else (if (t.size:Int) > 65535 then some (⟨#[]⟩,4) else some (t,0))) =
      some (if kind = 16 then (if Gl t = true then zf t else (⟨#[]⟩,4)) else zf t):=by
  rw [hf t ht,vH]
  simp only [Option.bind_some]
  split
  · split <;> rfl
  · rfl
theorem J3 (k:Nat) (hk:K0 + 10 ≤ k) (msg:ByteArray) (i size kind:Int) (hm:msg.size ≤ 100000) (ht:gQ msg i size) (s:Int × Int × Int) (hs:aD.y9 kind = some s):aD.g k msg i size kind s = some (J2 msg i size s):=by
  obtain ⟨h0,h1,h2⟩:=ht
  obtain ⟨a1,a2,a3,a4,a5,a6,a7,a8⟩:=kU hs
  obtain ⟨s0,s1,s2⟩:=s
  simp only at a1 a2 a3 a4 a5 a6 a8
  have e1:wrap64 (i + size) = i + size:=dP (by omega) (by omega)
  have e2:wrap64 (i + size - i) = size:=by rw [dP (by omega) (by omega)];omega
  have e3:wrap64 (i + s0) = i + s0:=dP (by omega) (by omega)
  unfold aD.g bV.f J2
  simp only [e1,e2,e3]
  by_cases c:s0 ≤ size
  · rw [if_pos c,if_pos c,if_pos h0,if_pos (by omega),if_pos (by omega)]
    obtain ⟨k,rfl⟩:∃ j,k = j + 1:=⟨k - 1,by omega⟩
    rw [CU msg (i + size) s0 s1 s2 _ _ hm h2 ⟨a5,by omega⟩ s1 (by omega) s1.toNat k (i + s0) 0 [] (by omega) (by omega) (Int.le_refl _) (by omega) (by omega) (by simp only [List.length_nil];omega)]
    have hz:(msg.extract i.toNat (i + s0).toNat).size ≤ 16:=by rw [ByteArray.size_extract];omega
    cases hr:EM msg (i + size) s1.toNat (i + s0) [] with
    | none =>
      simp only [Option.bind_some]
      rw [if_pos (by decide),if_pos (by decide),vI]
    | some R =>
      obtain ⟨b1,b2,b3,l',b4,b5⟩:=qB msg _ hm _ _ _ R hr (by omega)
      have hcz:=uH b5
      rw [List.nil_append] at b4
      rw [← b4] at hcz
      rw [List.length_nil,Nat.zero_add] at b3
      have hbz:(msg.extract R.2.toNat (i + size).toNat).size = (i + size - R.2).toNat:=by rw [ByteArray.size_extract];omega
      simp only [Option.bind_some]
      rw [if_pos (by omega),if_pos (by omega)]
      by_cases d:R.2 + s2 = i + size
      · rw [if_pos d,show (((msg.extract R.2.toNat (i + size).toNat).size:Int) == s2) = true from beq_iff_eq.mpr (by omega),VK k.succ (by omega) kind a7]
      · rw [if_neg d,show (((msg.extract R.2.toNat (i + size).toNat).size:Int) == s2) = false from beq_eq_false_iff_ne.mpr (by omega),vI]
  · rw [if_neg c,if_neg c]
    simp only [Option.bind_some]
    rw [if_pos (by decide),if_pos (by decide),vI]
theorem VL (k:Nat) (hk:K0 + 10 ≤ k) (msg:ByteArray) (i size kind:Int) (hm:msg.size ≤ 100000):aD.f k msg i size kind = some (zQ msg i size kind):=by
  unfold aD.f zQ
  rw [uz msg i size (by omega)]
  simp only [Option.bind_some]
  by_cases ht:gQ msg i size
  · rw [if_pos ht,if_pos ht]
    simp only [if_true]
    cases hs:aD.y9 kind with
    | some s=>exact J3 k hk msg i size kind hm ht s hs
    | none =>
      have hz:(msg.extract i.toNat (i + size).toNat).size ≤ 100000:=by rw [ByteArray.size_extract];omega
      have:=AY msg i size kind k (by omega) hm (dK.f k) (fun s h=>Ny k (by omega) s h) _ hz
      unfold aD.fin
      rw [if_pos rfl]
      exact this
  · rw [if_neg ht,if_neg ht];rfl
theorem oq (k:Nat) (hk:1 ≤ k) (kind:Int):aH.f k kind = some ((aD.y9 kind).getD (0,0,0)):=by
  obtain ⟨k,rfl⟩:∃ j,k = j + 1:=⟨k - 1,by omega⟩
  unfold aH.f aD.y9
  simp only [aH.j0]
  by_cases h1:kind = 1
  · subst h1;rfl
  by_cases h2:kind = 28
  · subst h2;rfl
  by_cases h3:kind = 2
  · subst h3;rfl
  by_cases h4:kind = 5
  · subst h4;rfl
  by_cases h5:kind = 12
  · subst h5;rfl
  by_cases h6:kind = 6
  · subst h6;rfl
  by_cases h7:kind = 15
  · subst h7;rfl
  by_cases h8:kind = 33
  · subst h8;rfl
  simp [h1,h2,h3,h4,h5,h6,h7,h8]
theorem EN (msg:ByteArray) (i size s0 s1 s2:Int) (hm:msg.size ≤ 100000) (ht:gQ msg i size) (h2:0 ≤ s2 ∧ s2 ≤ 1000) (hs:s1 ≤ 100):∀ (n k:Nat) (j x:Int) (out:ByteArray),K0 + n ≤ k → x + n = s1 → 0 ≤ x → i + size < j → j ≤ (msg.size:Int) → out.size + 300 * n ≤ 1000000 →
    aX.l0 (k + 1) msg i size out j x s0 s1 s2 = some (⟨#[]⟩,4)
  | 0,k,j,x,out,hk,hx,hx0,hj,hjm,ho=>by
    obtain ⟨t0,t1,t2⟩:=ht
    rw [aX.l0,if_neg (by omega),dP (n:=j + s2) (by omega) (by omega),dP (n:=i + size) (by omega) (by omega),if_neg (by omega)]
  | n + 1,k,j,x,out,hk,hx,hx0,hj,hjm,ho=>by
    obtain ⟨k,rfl⟩:∃ m,k = m + 1:=⟨k - 1,by omega⟩
    rw [aX.l0,if_pos (by omega),vG (k + 1) msg j hm (qC hm (by omega) (by omega))]
    simp only [Option.bind_some]
    rcases uG msg j hm with ⟨b1,b2,_,b4,b5⟩ | ⟨b1,_⟩
    · have hz:=pW b2
      rw [if_pos b1,if_pos (by omega),dP (n:=x + 1) (by omega) (by omega)]
      exact EN msg i size s0 s1 s2 hm ht h2 hs n k _ _ _ (by omega) (by omega) (by omega) (by omega) b5 (by rw [ByteArray.size_append];omega)
    · rw [if_neg (by omega)]
theorem Nz (msg:ByteArray) (i size s0 s1 s2:Int) (a:ByteArray) (hm:msg.size ≤ 100000) (ht:gQ msg i size) (h2:0 ≤ s2 ∧ s2 ≤ 1000) (hs:s1 ≤ 100):∀ (n k:Nat) (j x:Int) (l:List ByteArray),K0 + n ≤ k → x + n = s1 → 0 ≤ x → 0 ≤ j → j ≤ i + size → (a ++ strings_Join.cat l).size + 300 * n ≤ 800000 →
    aX.l0 (k + 1) msg i size (a ++ strings_Join.cat l) j x s0 s1 s2 = some (match EM msg (i + size) n j l with
      | some R=>if R.2 + s2 = i + size then zf (a ++ strings_Join.cat R.1 ++ msg.extract R.2.toNat (i + size).toNat) else (⟨#[]⟩,4)
      | none=>(⟨#[]⟩,4))
  | 0,k,j,x,l,hk,hx,hx0,hj0,hj,ho=>by
    obtain ⟨t0,t1,t2⟩:=ht
    rw [aX.l0,if_neg (by omega),dP (n:=j + s2) (by omega) (by omega),dP (n:=i + size) (by omega) (by omega),EM]
    simp only
    by_cases c:j + s2 = i + size
    · have hz:(msg.extract j.toNat (i + size).toNat).size ≤ 100000:=by rw [ByteArray.size_extract];omega
      rw [if_pos c,if_pos c,if_pos hj0,if_pos hj,if_pos t2,if_pos (by omega),vH]
    · rw [if_neg c,if_neg c]
  | n + 1,k,j,x,l,hk,hx,hx0,hj0,hj,ho=>by
    have ht0:=ht
    obtain ⟨t0,t1,t2⟩:=ht
    obtain ⟨k,rfl⟩:∃ m,k = m + 1:=⟨k - 1,by omega⟩
    rw [aX.l0,if_pos (by omega),vG (k + 1) msg j hm (qC hm (by omega) (by omega)),EM]
    simp only [Option.bind_some]
    rcases uG msg j hm with ⟨b1,b2,_,b4,b5⟩ | ⟨b1,_⟩
    · have hz:=pW b2
      rw [if_pos b1,if_pos b1,if_pos (by omega),dP (n:=x + 1) (by omega) (by omega)]
      by_cases c:(vY msg j).2.1 > i + size
      · rw [if_pos c]
        exact EN msg i size s0 s1 s2 hm ht0 h2 hs n k _ _ _ (by omega) (by omega) (by omega) (by omega) b5 (by rw [ByteArray.size_append];omega)
      · rw [if_neg c]
        have e:a ++ strings_Join.cat l ++ (vY msg j).1 = a ++ strings_Join.cat (l ++ [(vY msg j).1]):=by rw [Gn,Q5,ByteArray.append_assoc]
        rw [e]
        exact Nz msg i size s0 s1 s2 a hm ht0 h2 hs n k _ _ _ (by omega) (by omega) (by omega) (by omega) (by omega) (by rw [← e,ByteArray.size_append];omega)
    · rw [if_neg (by omega),if_neg (by omega)]
theorem Gp (k:Nat) (hk:K0 + 10 ≤ k) (msg:ByteArray) (i size kind:Int) (hm:msg.size ≤ 100000):aX.f k msg i size kind = some (zQ msg i size kind):=by
  unfold aX.f zQ
  rw [pR msg i size (by omega),oq k (by omega)]
  simp only [Option.bind_some]
  by_cases ht:gQ msg i size
  · rw [if_pos ht,if_pos ht]
    simp only [if_true]
    obtain ⟨t0,t1,t2⟩:=ht
    have hz:(msg.extract i.toNat (i + size).toNat).size = size.toNat:=by rw [ByteArray.size_extract];omega
    cases hs:aD.y9 kind with
    | none =>
      simp only [Option.getD_none]
      rw [if_pos (by decide)]
      exact AY msg i size kind k (by omega) hm (bq.f k) (fun s h=>CX k (by omega) s h) _ (by omega)
    | some s =>
      obtain ⟨a1,a2,a3,a4,a5,a6,a7,a8⟩:=kU hs
      obtain ⟨s0,s1,s2⟩:=s
      simp only at a1 a2 a3 a4 a5 a6 a8
      simp only [Option.getD_some]
      have main:(if s0 > size then some ((⟨#[]⟩:ByteArray),(4:Int)) else (if 0 ≤ s0 then (if s0 ≤ ((msg.extract i.toNat (i + size).toNat).size:Int) then (aX.l0 k msg i size ((msg.extract i.toNat (i + size).toNat).extract 0 (s0:Int).toNat) (wrap64 (i + s0)) 0 s0 s1 s2) else none) else none)) = some (J2 msg i size (s0,s1,s2)):=by
        unfold J2
        simp only
        by_cases c:s0 > size
        · rw [if_pos c,if_neg (by omega)]
        · rw [if_neg c,if_pos a1,if_pos (by omega),if_pos (by omega),dP (by omega) (by omega)]
          obtain ⟨k,rfl⟩:∃ j,k = j + 1:=⟨k - 1,by omega⟩
          have e:(msg.extract i.toNat (i + size).toNat).extract 0 s0.toNat = msg.extract i.toNat (i + s0).toNat:=by
            rw [ByteArray.extract_extract];congr 1 <;> omega
          have hz2:(msg.extract i.toNat (i + s0).toNat).size ≤ 16:=by rw [ByteArray.size_extract];omega
          have h:=Nz msg i size s0 s1 s2 (msg.extract i.toNat (i + s0).toNat) hm ⟨t0,t1,t2⟩ ⟨a5,by omega⟩ (by omega) s1.toNat k (i + s0) 0 [] (by omega) (by omega) (Int.le_refl _) (by omega) (by omega) (by simp only [strings_Join.cat,append_empty];omega)
          simp only [strings_Join.cat,append_empty] at h
          rw [e,h]
      have hne:¬ ((s0 == 0 && (s1 == 0 && (s2 == 0))) = true):=by
        intro h
        simp only [Bool.and_eq_true,beq_iff_eq] at h
        exact a8 h.1 h.2.1
      rw [if_neg hne]
      exact main
  · rw [if_neg ht,if_neg ht];rfl
end Go.Proofs.Ytdkkgecdhapfhaa.ZQ
namespace Go.Proofs.Ytdkkgecdhapfhaa.ZQ
open Go.RowKit Go.Proofs.YtdkkgecdhapfhaaW.bD Go.Proofs.YtdkkgecdhapfhaaW.dL Go.Proofs.YtdkkgecdhapfhaaW.eH Go.Proofs.Ytdkkgecdhapfhaa.B
def wQ (kind:Int) (d:ByteArray):Bool:=decide (d.size ≤ 65535) && (decide ((zQ d 0 d.size kind).2 = 0) && decide ((zQ d 0 d.size kind).1 = d))
theorem uI {kind:Int} {d:ByteArray}:wQ kind d = true ↔ d.size ≤ 65535 ∧ zQ d 0 d.size kind = (d,0):=by
  unfold wQ
  simp only [Bool.and_eq_true,decide_eq_true_eq]
  constructor
  · rintro ⟨h1,h2,h3⟩;exact ⟨h1,Prod.ext h3 h2⟩
  · rintro ⟨h1,h2⟩;rw [h2];exact ⟨h1,rfl,rfl⟩
theorem AZ (k:Nat) (hk:K0 + 10 ≤ k) (kind:Int) (d:ByteArray):iT.f k kind d = some (wQ kind d):=by
  unfold iT.f wQ
  by_cases h:(d.size:Int) > 65535
  · rw [if_pos h,decide_eq_false (by omega)];rfl
  · rw [if_neg h,VL k hk d 0 _ kind (by omega),decide_eq_true (by omega),Bool.true_and]
    simp only [Option.bind_some]
    by_cases h0:(zQ d 0 d.size kind).2 = 0
    · rw [if_pos h0,decide_eq_true h0,yX,Bool.true_and]
    · rw [if_neg h0,decide_eq_false h0,Bool.false_and]
theorem ny (k:Nat) (hk:K0 + 10 ≤ k) (kind:Int) (d:ByteArray):bR.f k kind d = some (wQ kind d):=by
  unfold bR.f wQ
  by_cases h:(d.size:Int) > 65535
  · rw [if_pos h,decide_eq_false (by omega)];rfl
  · rw [if_neg h,Gp k hk d 0 _ kind (by omega),decide_eq_true (by omega),Bool.true_and]
    simp only [Option.bind_some]
    by_cases h0:(zQ d 0 d.size kind).2 = 0
    · rw [if_pos h0,decide_eq_true h0,yX,Bool.true_and]
    · rw [if_neg h0,decide_eq_false h0,Bool.false_and]
theorem Gq (d:ByteArray):gQ d 0 d.size:=⟨Int.le_refl _,by omega,by omega⟩
theorem J4 {x d:ByteArray} (h:zf x = (d,0)):x = d ∧ x.size ≤ 65535:=by
  unfold zf at h
  split at h
  · have:=congrArg Prod.snd h;cases this
  · exact ⟨congrArg Prod.fst h,by omega⟩
theorem pX {kind:Int} {d:ByteArray} {s:Int × Int × Int} (h:wQ kind d = true) (hs:aD.y9 kind = some s) :
    ∃ R,s.1 ≤ (d.size:Int) ∧ EM d d.size s.2.1.toNat s.1 [] = some R ∧ R.2 + s.2.2 = d.size ∧ d = d.extract 0 s.1.toNat ++ strings_Join.cat R.1 ++ d.extract R.2.toNat d.size ∧ s.1 ≤ R.2 ∧ R.2 ≤ (d.size:Int) ∧ R.1.length = s.2.1.toNat ∧ (∀ x ∈ R.1,jK x = true) ∧ R.2 = s.1 + (strings_Join.cat R.1).size:=by
  obtain ⟨h0,h1⟩:=uI.mp h
  unfold zQ J2 at h1
  rw [if_pos (Gq d),hs] at h1
  simp only [Int.zero_add,Int.toNat_natCast] at h1
  obtain ⟨a1,a2,a3,a4,a5,a6,a7,a8⟩:=kU hs
  by_cases c:s.1 ≤ (d.size:Int)
  · rw [if_pos c] at h1
    cases hr:EM d d.size s.2.1.toNat s.1 [] with
    | none=>rw [hr] at h1;have:=congrArg Prod.snd h1;cases this
    | some R =>
      rw [hr] at h1
      simp only at h1
      by_cases e:R.2 + s.2.2 = d.size
      · rw [if_pos e] at h1
        obtain ⟨h2,_⟩:=J4 h1
        obtain ⟨b1,b2,b3,l',b4,b5⟩:=qB d _ (by omega) _ _ _ R hr c
        rw [List.nil_append] at b4
        rw [← b4] at b5
        have hz:=congrArg ByteArray.size h2
        simp only [ByteArray.size_append,ByteArray.size_extract] at hz
        refine ⟨R,c,rfl,e,h2.symm,b1,b2,by rw [b3];simp,b5,?_⟩
        simp only [show (0:Int).toNat = 0 from rfl] at hz
        omega
      · rw [if_neg e] at h1;have:=congrArg Prod.snd h1;cases this
  · rw [if_neg c] at h1;have:=congrArg Prod.snd h1;cases this
def prt (kind:Int) (d:ByteArray):ByteArray × ByteArray × List ByteArray × Bool :=
  if wQ kind d = true then (match aD.y9 kind with
    | some s=>(match EM d d.size s.2.1.toNat s.1 [] with
      | some R=>(d.extract 0 s.1.toNat,d.extract R.2.toNat d.size,R.1,true)
      | none=>(⟨#[]⟩,⟨#[]⟩,[],false))
    | none=>(d,⟨#[]⟩,[],true)) else (⟨#[]⟩,⟨#[]⟩,[],false)
theorem vJ : (⟨#[]⟩:ByteArray).size = 0:=rfl
theorem wJ (k:Nat) (hk:K0 + 20 ≤ k) (d:ByteArray) (hd:d.size ≤ 65535) (s0 s1 s2:Int) (a1:0 ≤ s0) (a3:0 ≤ s1) (a4:s1 ≤ 2) (a5:0 ≤ s2) (a6:s2 ≤ 20) (R:List ByteArray × Int) (c1:s0 ≤ (d.size:Int)) (c2:EM d d.size s1.toNat s0 [] = some R) (c3:R.2 + s2 = d.size) :
    bV.f k d 0 (d.size:Int) s0 s1 s2 = some (d.extract 0 s0.toNat,d.extract R.2.toNat d.size,R.1,true):=by
  unfold bV.f
  have e2:wrap64 ((d.size:Int) - 0) = d.size:=by rw [dP (by omega) (by omega)];omega
  have e3:wrap64 (0 + s0) = s0:=by rw [dP (by omega) (by omega)];omega
  obtain ⟨b1,b2,_⟩:=qB d _ (by omega) _ _ _ R c2 c1
  have hz:((d.extract R.2.toNat d.size).size:Int) = s2:=by rw [ByteArray.size_extract];omega
  obtain ⟨k,rfl⟩:∃ j,k = j + 1:=⟨k - 1,by omega⟩
  have h:=CU d d.size s0 s1 s2 (d.extract 0 s0.toNat) ⟨#[]⟩ (by omega) (Int.le_refl _) ⟨a5,by omega⟩ s1 (by omega) s1.toNat k s0 0 [] (by omega) (by omega) (Int.le_refl _) a1 c1 (by simp only [List.length_nil];omega)
  rw [c2] at h
  simp only [Int.toNat_natCast] at h
  rw [show (((d.extract R.2.toNat d.size).size:Int) == s2) = true from beq_iff_eq.mpr hz] at h
  rw [e2,if_pos c1,if_pos (Int.le_refl _),e3,if_pos a1,if_pos c1]
  exact h
theorem J5 (k:Nat) (hk:K0 + 20 ≤ k) (kind:Int) (d:ByteArray):dh.f k kind d = some (prt kind d):=by
  unfold dh.f prt
  rw [AZ k (by omega)]
  simp only [Option.bind_some]
  by_cases h:wQ kind d = true
  · rw [if_pos h,if_pos h]
    cases hs:aD.y9 kind with
    | none=>rfl
    | some s =>
      obtain ⟨R,c1,c2,c3,c4,c5,c6,c7,c8,c9⟩:=pX h hs
      obtain ⟨a1,a2,a3,a4,a5,a6,a7,a8⟩:=kU hs
      obtain ⟨h0,_⟩:=uI.mp h
      obtain ⟨s0,s1,s2⟩:=s
      simp only at a1 a2 a3 a4 a5 a6 c1 c2 c3 c5
      simp only [c2]
      exact wJ k hk d h0 s0 s1 s2 a1 a3 a4 a5 a6 R c1 c2 c3
  · rw [if_neg h,if_neg h]
theorem A8 {kind:Int} {d:ByteArray}:(∀ x ∈ (prt kind d).2.2.1,jK x = true) ∧ (prt kind d).2.2.1.length ≤ 2:=by
  unfold prt
  by_cases h:wQ kind d = true
  · rw [if_pos h]
    cases hs:aD.y9 kind with
    | none=>exact ⟨by simp,by simp⟩
    | some s =>
      obtain ⟨R,c1,c2,c3,c4,c5,c6,c7,c8,c9⟩:=pX h hs
      obtain ⟨a1,a2,a3,a4,a5,a6,a7,a8⟩:=kU hs
      simp only [c2]
      exact ⟨c8,by omega⟩
  · rw [if_neg h];exact ⟨by simp,by simp⟩
theorem vZ (k:Nat) (hk:600 ≤ k) (n:ByteArray) (hs:n.size ≤ 1000000000):mH.f k n = some (if jK n = true then oG n else ⟨#[]⟩):=by
  unfold mH.f
  rw [EA k hk n hs,Vn n hs]
  simp only [Option.bind_some]
  split <;> rfl
theorem zh (k:Nat) (hk:600 ≤ k) (n:ByteArray) (hs:n.size ≤ 1000000000):fA.f k n = some (if jK n = true then oG n else ⟨#[]⟩):=by
  unfold fA.f
  rw [uw k hk n hs,M4 n hs]
  simp only [Option.bind_some]
  split <;> rfl
theorem all_eq (k:Nat) (hk:600 ≤ k):∀ l:List ByteArray,(∀ x ∈ l,jK x = true) → eG.all k l = some (l.map oG)
  | [],_=>rfl
  | x :: l,h=>by
    have hx:=h x (by simp)
    have hz:=pW hx
    rw [eG.all,vZ k hk x (by omega),if_pos hx]
    simp only [Option.bind_some]
    rw [all_eq k hk l (fun y hy=>h y (by simp [hy]))]
    rfl
theorem uJ : ∀ l:List ByteArray,(strings_Join.cat (l.map oG)).size = (strings_Join.cat l).size
  | []=>rfl
  | x :: l=>by rw [List.map_cons,strings_Join.cat,strings_Join.cat,ByteArray.size_append,ByteArray.size_append,AP,uJ l]
def lw (kind:Int) (d:ByteArray):ByteArray:=(prt kind d).1 ++ strings_Join.cat ((prt kind d).2.2.1.map oG) ++ (prt kind d).2.1
theorem J6 {kind:Int} {d:ByteArray}:(prt kind d).1.size ≤ 65535 ∧ (prt kind d).2.1.size ≤ 65535:=by
  unfold prt
  by_cases h:wQ kind d = true
  · obtain ⟨h0,_⟩:=uI.mp h
    rw [if_pos h]
    cases hs:aD.y9 kind with
    | none=>exact ⟨h0,by show (⟨#[]⟩:ByteArray).size ≤ 65535;decide⟩
    | some s =>
      obtain ⟨R,c1,c2,_⟩:=pX h hs
      simp only [c2]
      simp only [ByteArray.size_extract]
      omega
  · rw [if_neg h];exact ⟨by decide,by decide⟩
theorem Q6 (k:Nat) (hk:K0 + 20 ≤ k) (kind:Int) (d:ByteArray):eG.f k kind d = some (lw kind d):=by
  obtain ⟨p1,p2⟩:=@A8 kind d
  obtain ⟨p3,p4⟩:=@J6 kind d
  have hcz:=uH p1
  unfold eG.f
  rw [J5 k hk]
  simp only [Option.bind_some]
  rw [all_eq k (by unfold K0 at hk;omega) _ p1]
  simp only [Option.bind_some]
  unfold eG.fin lw
  rw [if_pos (by rw [uJ];omega),if_pos (by rw [List.length_map];omega)]
theorem uK (d:ByteArray) (e s0 s1 s2:Int) (hm:d.size ≤ 100000) (he:e ≤ (d.size:Int)) (hs:s1 ≤ 100):∀ (n k:Nat) (l:List ByteArray) (i x:Int) (R:List ByteArray × Int),K0 + n ≤ k → x + n = s1 → 0 ≤ x → i ≤ e → l.length + n ≤ 1000 → EM d e n i l = some R →
    bg.l0 (k + 1) d l i x s0 s1 s2 = some R.1
  | 0,k,l,i,x,R,hk,hx,hx0,hi,hl,h=>by
    cases h
    rw [bg.l0,if_neg (by omega)]
  | n + 1,k,l,i,x,R,hk,hx,hx0,hi,hl,h=>by
    obtain ⟨k,rfl⟩:∃ m,k = m + 1:=⟨k - 1,by omega⟩
    rw [EM] at h
    rw [bg.l0,if_pos (by omega),vG (k + 1) d i hm (qC hm (by omega) (by omega))]
    simp only [Option.bind_some]
    by_cases h0:(vY d i).2.2 = 0
    · rw [if_pos h0] at h
      by_cases h1:(vY d i).2.1 > e
      · rw [if_pos h1] at h;cases h
      · rw [if_neg h1] at h
        rw [if_pos (by omega),dP (by omega) (by omega)]
        exact uK d e s0 s1 s2 hm he hs n k _ _ _ R (by omega) (by omega) (by omega) (by omega) (by rw [List.length_append,List.length_singleton];omega) h
    · rw [if_neg h0] at h;cases h
theorem CY (k:Nat) (hk:K0 + 20 ≤ k) (kind:Int) (d:ByteArray):bg.f k kind d = some (prt kind d).2.2.1:=by
  unfold bg.f prt
  rw [ny k (by omega),oq k (by omega)]
  simp only [Option.bind_some]
  obtain ⟨k,rfl⟩:∃ j,k = j + 1:=⟨k - 1,by omega⟩
  by_cases h:wQ kind d = true
  · rw [if_pos h,if_pos h]
    obtain ⟨h0,_⟩:=uI.mp h
    cases hs:aD.y9 kind with
    | none =>
      rw [Option.getD_none,bg.l0,if_neg (by decide)]
    | some s =>
      obtain ⟨R,c1,c2,c3,c4,c5,c6,c7,c8,c9⟩:=pX h hs
      obtain ⟨a1,a2,a3,a4,a5,a6,a7,a8⟩:=kU hs
      simp only [c2,Option.getD_some]
      exact uK d d.size _ _ _ (by omega) (Int.le_refl _) (by omega) s.2.1.toNat k [] s.1 0 R (by omega) (by omega) (Int.le_refl _) c1 (by simp only [List.length_nil];omega) c2
  · rw [if_neg h,if_neg h]
theorem Q7 {α} (d:α) (p:List α) (x:α) (s:List α):pF d (p ++ x :: s) (p.length:Int) = x:=by
  unfold pF;simp
theorem rW (d:ByteArray) (hd:d.size ≤ 65535) (xs:List ByteArray) (hxs:xs.length ≤ 1000):∀ (suf pre:List ByteArray) (k:Nat) (out:ByteArray) (i:Int),xs = pre ++ suf → (∀ x ∈ suf,jK x = true) → 700 + suf.length ≤ k → 0 ≤ i → i + (strings_Join.cat suf).size ≤ d.size → out.size + (strings_Join.cat suf).size ≤ 1000000 →
    bI.l0 (k + 1) d xs out i (pre.length:Int) = some (out ++ strings_Join.cat (suf.map oG) ++ d.extract (i + (strings_Join.cat suf).size).toNat d.size)
  | [],pre,k,out,i,hx,hn,hk,hi,hs,ho=>by
    rw [List.append_nil] at hx
    subst hx
    have hz:(d.extract i.toNat d.size).size ≤ 65535:=by rw [ByteArray.size_extract];omega
    simp only [strings_Join.cat,List.map_nil,Em,append_empty] at hs ho ⊢
    rw [bI.l0,if_neg (by omega),if_pos hi,if_pos (by omega),if_pos (by omega)]
    congr 3
    omega
  | x :: suf,pre,k,out,i,hx,hn,hk,hi,hs,ho=>by
    obtain ⟨k,rfl⟩:∃ j,k = j + 1:=⟨k - 1,by simp only [List.length_cons] at hk;omega⟩
    have hxn:=hn x (by simp)
    have hz:=pW hxn
    have hrd:pF ByteArray.empty xs (pre.length:Int) = x:=by rw [hx];exact Q7 _ _ _ _
    have hl:(xs.length:Int) = pre.length + suf.length + 1:=by rw [hx];simp;omega
    simp only [List.length_cons,strings_Join.cat,ByteArray.size_append] at hk hs ho
    have hlz:=AP x
    rw [bI.l0,if_pos (by omega),if_pos (by omega),hrd,zh (k + 1) (by omega) x (by omega),if_pos hxn]
    simp only [Option.bind_some]
    rw [if_pos (by omega),dP (n:=i + (x.size:Int)) (by omega) (by omega),dP (by omega) (by omega),show ((pre.length:Int) + 1) = ((pre ++ [x]).length:Int) from by simp]
    have:=rW d hd xs hxs suf (pre ++ [x]) k (out ++ oG x) (i + x.size) (by rw [hx];simp) (fun y hy=>hn y (by simp [hy])) (by omega) (by omega) (by omega) (by rw [ByteArray.size_append];omega)
    rw [this]
    have e:i + (x.size:Int) + ((strings_Join.cat suf).size:Int) = i + ((x.size + (strings_Join.cat suf).size:Nat):Int):=by omega
    rw [e]
    simp only [List.map_cons,strings_Join.cat,ByteArray.size_append,ByteArray.append_assoc]
theorem Gr (k:Nat) (hk:K0 + 20 ≤ k) (kind:Int) (d:ByteArray):bI.f k kind d = some (lw kind d):=by
  obtain ⟨p1,p2⟩:=@A8 kind d
  unfold bI.f
  rw [ny k (by omega),CY k hk,oq k (by omega)]
  simp only [Option.bind_some]
  unfold lw prt
  unfold prt at p1 p2
  unfold K0 at hk
  obtain ⟨k,rfl⟩:∃ j,k = j + 1:=⟨k - 1,by omega⟩
  by_cases h:wQ kind d = true
  · simp only [if_pos h] at p1 p2 ⊢
    obtain ⟨h0,_⟩:=uI.mp h
    cases hs:aD.y9 kind with
    | none =>
      simp only [Option.getD_none]
      rw [if_pos (Int.le_refl _),if_pos (by omega)]
      have:=rW d h0 [] (by simp) [] [] k (d.extract 0 0) 0 rfl (by simp) (by simp only [List.length_nil];omega) (Int.le_refl _) (by simp only [strings_Join.cat,vJ];omega) (by simp only [strings_Join.cat,vJ,ByteArray.size_extract];omega)
      simp only [List.length_nil] at this
      rw [show ((0:Int).toNat) = 0 from rfl,show ((0:Nat):Int) = 0 from rfl] at *
      rw [this]
      have e0:d.extract 0 0 = ⟨#[]⟩:=eq_empty (by rw [ByteArray.size_extract];omega)
      simp [strings_Join.cat,e0,empty_append,append_empty,vJ,ByteArray.extract_zero_size]
    | some s =>
      obtain ⟨R,c1,c2,c3,c4,c5,c6,c7,c8,c9⟩:=pX h hs
      obtain ⟨a1,a2,a3,a4,a5,a6,a7,a8⟩:=kU hs
      simp only [hs,c2,Option.getD_some] at p1 p2 ⊢
      have hcz:=uH p1
      rw [if_pos a1,if_pos c1]
      have:=rW d h0 R.1 (by omega) R.1 [] k (d.extract 0 s.1.toNat) s.1 rfl p1 (by omega) a1 (by omega) (by rw [ByteArray.size_extract];omega)
      rw [show ((([]:List ByteArray).length:Nat):Int) = 0 from rfl] at this
      rw [this,c9]
  · simp only [if_neg h]
    rfl
end Go.Proofs.Ytdkkgecdhapfhaa.ZQ
set_option maxRecDepth 100000
namespace Go.Proofs.Ytdkkgecdhapfhaa.Kn
open Go Go.RowKit Ev
abbrev AG := List AV → Option (List AV × List AV)
def VN (g:ByteArray → SV):AG:=fun fV=>match fV with
  | [.one (.f (.str q))]=>if q.size ≤ 1000000 then some (Hg [g q],Hg [.str q]) else none
  | _=>none
def VO (g:Int → ByteArray → SV):AG:=fun fV=>match fV with
  | [.one (.f (.int .i64 k)),.one (.f (.str q))]=>if q.size ≤ 1000000 then some (Hg [g k q],Hg [.int .i64 k,.str q]) else none
  | _=>none
theorem wX {f:FuncId} {g:ByteArray → SV} (h:∀ q w,q.size ≤ 1000000 → Calls Try.prog f #[.string q] w fun e w'=>e = .returned (encS (g q)) ∧ Below w.heap.size w w'):Sat Try.prog f (VN g):=by
  refine Sat.wo fun fV r he=>?_
  unfold VN at he
  split at he
  · split at he
    · cases he;rename_i q hq;exact ⟨[.str q],[g q],rfl,rfl,fun w=>h q w hq⟩
    · cases he
  · cases he
theorem wY {f:FuncId} {g:Int → ByteArray → SV} (h:∀ k q w,q.size ≤ 1000000 → Calls Try.prog f #[.int .i64 k,.string q] w fun e w'=>e = .returned (encS (g k q)) ∧ Below w.heap.size w w'):Sat Try.prog f (VO g):=by
  refine Sat.wo fun fV r he=>?_
  unfold VO at he
  split at he
  · split at he
    · cases he;rename_i k q hq;exact ⟨[.int .i64 k,.str q],[g k q],rfl,rfl,fun w=>h k q w hq⟩
    · cases he
  · cases he
def Xi (g:ByteArray → Int → Int → Int × Bool):AG:=fun fV=>match fV with
  | [.one (.f (.str q)),.one (.f (.int .i64 a)),.one (.f (.int .i64 z))]=>if q.size ≤ 1000000 then some (Hg [.int .i64 (g q a z).1,.bool (g q a z).2],Hg [.str q,.int .i64 a,.int .i64 z]) else none
  | _=>none
theorem II {f:FuncId} {g:ByteArray → Int → Int → Int × Bool} (h:∀ q a z w,q.size ≤ 1000000 → Calls Try.prog f #[.string q,.int .i64 a,.int .i64 z] w fun e w'=>e = .returned (.tuple #[.int .i64 (g q a z).1,.bool (g q a z).2]) ∧ Below w.heap.size w w'):Sat Try.prog f (Xi g):=by
  refine Sat.wo fun fV r he=>?_
  unfold Xi at he
  split at he
  · split at he
    · cases he;rename_i q a z hq;exact ⟨[.str q,.int .i64 a,.int .i64 z],[.int .i64 (g q a z).1,.bool (g q a z).2],rfl,rfl,fun w=>h q a z w hq⟩
    · cases he
  · cases he
def EO (s:ByteArray) (a z:Int):Int × Bool:=if ZQ.jX s a z then (ZQ.gX z.toNat s a,true) else (0,false)
def VP (q:ByteArray):ByteArray:=if B.jK q = true then B.oG q else ⟨#[]⟩
def NA : Th:=⟨B.jK,VP,ZQ.wQ,ZQ.lw⟩
def leafs : List (FuncId × AG):=[
  (91,VN fun q=>.bool (B.jK q)),(92,VN fun q=>.str (VP q)),
  (100,VN fun q=>.bool (B.jK q)),(101,VN fun q=>.str (VP q)),
  (94,VO fun k q=>.bool (ZQ.wQ k q)),(95,VO fun k q=>.str (ZQ.lw k q)),
  (83,VO fun k q=>.bool (ZQ.wQ k q)),(84,VO fun k q=>.str (ZQ.lw k q)),
  (88,Pw 1 false),(70,Pw 3 true),
  (74,Xi EO),(75,Xi EO),(82,gMC)]
theorem EP : ∀ p ∈ leafs,Sat Try.prog p.1 p.2:=by
  have hk:∀ q:ByteArray,q.size ≤ 1000000 → q.size ≤ 1000000000:=fun q h=>by omega
  intro p hp
  simp only [leafs,List.mem_cons,List.not_mem_nil,or_false] at hp
  rcases hp with rfl | rfl | rfl | rfl | rfl | rfl | rfl | rfl | rfl | rfl | rfl | rfl | rfl
  · exact wX fun q w hq=>ZQ.iP.calls 600 q _ w (ZQ.EA 600 (Nat.le_refl _) q (hk q hq))
  · exact wX fun q w hq=>ZQ.mH.calls 600 q _ w (ZQ.vZ 600 (Nat.le_refl _) q (hk q hq))
  · exact wX fun q w hq=>ZQ.dB.calls 600 q _ w (ZQ.uw 600 (Nat.le_refl _) q (hk q hq))
  · exact wX fun q w hq=>ZQ.fA.calls 600 q _ w (ZQ.zh 600 (Nat.le_refl _) q (hk q hq))
  · exact wY fun k q w hq=>ZQ.iT.calls _ k q _ w (ZQ.AZ (ZQ.K0 + 20) (by omega) k q)
  · exact wY fun k q w hq=>ZQ.eG.calls _ k q _ w (ZQ.Q6 (ZQ.K0 + 20) (by omega) k q)
  · exact wY fun k q w hq=>ZQ.bR.calls _ k q _ w (ZQ.ny (ZQ.K0 + 20) (by omega) k q)
  · exact wY fun k q w hq=>ZQ.bI.calls _ k q _ w (ZQ.Gr (ZQ.K0 + 20) (by omega) k q)
  · exact Px
  · exact Py
  · refine II fun q a z w hq=>?_
    have h:=ZQ.get_eq 9 (Nat.le_refl _) q a z (by omega)
    exact (ZQ.bn.calls 9 q a z _ _ w h).mono fun e w' hh=>⟨hh.1,hh.2.below⟩
  · refine II fun q a z w hq=>?_
    have h:=ZQ.rV 9 (Nat.le_refl _) q a z hq
    exact (ZQ.av.calls 9 q a z _ _ w h).mono fun e w' hh=>⟨hh.1,hh.2.below⟩
  · exact Pz
theorem zi : ∀ p ∈ leafs,∃ fn,Try.prog.funcs[p.1]? = some fn ∧ (fn.name == "runtime.NumGoroutine") = false ∧ fn.body.isSome = true:=by
  intro p hp
  simp only [leafs,List.mem_cons,List.not_mem_nil,or_false] at hp
  rcases hp with rfl | rfl | rfl | rfl | rfl | rfl | rfl | rfl | rfl | rfl | rfl | rfl | rfl
  · exact ⟨Try.f91,by kernel_rfl,by kernel_rfl,by kernel_rfl⟩
  · exact ⟨Try.f92,by kernel_rfl,by kernel_rfl,by kernel_rfl⟩
  · exact ⟨Try.f100,by kernel_rfl,by kernel_rfl,by kernel_rfl⟩
  · exact ⟨Try.f101,by kernel_rfl,by kernel_rfl,by kernel_rfl⟩
  · exact ⟨Try.f94,by kernel_rfl,by kernel_rfl,by kernel_rfl⟩
  · exact ⟨Try.f95,by kernel_rfl,by kernel_rfl,by kernel_rfl⟩
  · exact ⟨Try.f83,by kernel_rfl,by kernel_rfl,by kernel_rfl⟩
  · exact ⟨Try.f84,by kernel_rfl,by kernel_rfl,by kernel_rfl⟩
  · exact ⟨Try.f88,by kernel_rfl,by kernel_rfl,by kernel_rfl⟩
  · exact ⟨Try.f70,by kernel_rfl,by kernel_rfl,by kernel_rfl⟩
  · exact ⟨Try.f74,by kernel_rfl,by kernel_rfl,by kernel_rfl⟩
  · exact ⟨Try.f75,by kernel_rfl,by kernel_rfl,by kernel_rfl⟩
  · exact ⟨Try.f82,by kernel_rfl,by kernel_rfl,by kernel_rfl⟩
def J7 : Env:=pq leafs
theorem Q8 : iE Try.prog J7:=yw EP
theorem J8 : eu Try.prog J7:=rJ zi
noncomputable def ins : List (FuncId × AG):=(50,U3 J7 200000000000001 (0 + 4)) :: leafs
theorem VQ : ∀ p ∈ ins,Sat Try.prog p.1 p.2:=by
  intro p hp
  rcases List.mem_cons.mp hp with rfl | hp
  · exact Mk Q8 J8 _ _
  · exact EP p hp
theorem NC : ∀ p ∈ ins,∃ fn,Try.prog.funcs[p.1]? = some fn ∧ (fn.name == "runtime.NumGoroutine") = false ∧ fn.body.isSome = true:=by
  intro p hp
  rcases List.mem_cons.mp hp with rfl | hp
  · exact ⟨Try.f50,by kernel_rfl,by kernel_rfl,by kernel_rfl⟩
  · exact zi p hp
noncomputable def ext1 : Env:=pq ins
theorem Q9 : iE Try.prog ext1:=yw VQ
theorem J9 : eu Try.prog ext1:=rJ NC
theorem VR : NA.Ok ext1:=by
  constructor <;> intros <;> simp_all [ext1,ins,leafs,pq,VN,VO,Hg,Xd,NA,vs,vb,vi]
theorem IJ {α:Type} (sz:Nat) (own:Bool) (l:List α) (f:α → List FV) (hf:∀ x,(f x).length = sz) (h:l.length ≤ 1000000):Pw sz own [vl (l.map f)] = some ([.one (if own then .own sz (l.map f) else .f (.sl (l.map f)))],[vl (l.map f)]):=by
  have h1:((l.map f).all fun r=>r.length == sz) = true:=by
    rw [List.all_eq_true];intro r hr;obtain ⟨x, -,rfl⟩:=List.mem_map.mp hr;exact beq_iff_eq.mpr (hf x)
  show (if (l.map f).length ≤ 1000000 ∧ _ then _ else _) = _
  rw [if_pos ⟨by rw [List.length_map];exact h,h1⟩]
theorem aaU (l:List ByteArray) (h:l.length ≤ 1000000):Pw 1 false [vl (l.map iB)] = some ([vl (l.map iB)],[vl (l.map iB)]):=IJ 1 false l iB (fun _=>rfl) h
theorem aaV (l:List Qn) (h:l.length ≤ 1000000):Pw 3 true [vl (l.map rQ)] = some ([.one (.own 3 (l.map rQ))],[vl (l.map rQ)]):=IJ 3 true l rQ (fun _=>rfl) h
theorem aaW : qF J7:=⟨fun l h=>aaV l h,fun l h=>aaU l h⟩
theorem VT : qF ext1:=⟨fun l h=>aaV l h,fun l h=>aaU l h⟩
theorem A9 (fV:List AV):ext1 50 fV = U3 J7 200000000000001 (0 + 4) fV:=by
  unfold ext1 ins pq;rw [if_pos rfl]
theorem VU : U4 J7:=⟨fun m=>rfl⟩
theorem ND : O9 ext1 where
  d0 q:=by rw [A9];exact L9 q
  d1 s q h ho hm hc:=by rw [A9];exact Ma aaW VU (Nat.le_refl _) s q h ho hm hc
theorem VW : Ji EO ext1:=by
  refine ⟨fun s a z h=>?_,fun s a z h=>?_,fun s a z=>?_⟩
  · simp [ext1,ins,leafs,pq,Xi,Hg,Xd,h,vs,vb,vi]
  · simp [ext1,ins,leafs,pq,Xi,Hg,Xd,h,vs,vb,vi]
  · unfold EO
    split
    · exact (ZQ.oh _ _ _).1
    · exact Int.le_refl _
theorem Ra : NA.pE EO:=by constructor <;> decide +kernel
end Go.Proofs.Ytdkkgecdhapfhaa.Kn
namespace Go.Proofs.Ytdkkgecdhapfhaa.Ev
open Go Go.RowKit
structure Old (w w':World):Prop where
  os:w'.os = w.os
  output:w'.output = w.output
  size:w.heap.size ≤ w'.heap.size
  block:∀ k,k < w.heap.size → w'.heap[k]? = w.heap[k]?
theorem Old.frame {W w':World} (h:Old W w') (may:MemPlace → Prop):W.keptBut w' may:=by
  refine ⟨h.os,h.output,fun i hi=>?_⟩
  rw [h.block i hi]
  split <;> simp_all
theorem Old.same {W w':World} (h:Old W w') {p:MemPlace} (hp:p.block < W.heap.size):W.sameAt w' p:=by
  cases p with
  | cell b o=>exact World.cell?_of_block (w:=W) (h.block b hp)
  | map b=>exact h.block b hp
theorem Old.trod {H:Type} {enc:TypeId × Value → H} {P:Program} {t:TypeId} (hl:laidOutB P = true) (hr:P.readableRec t = true) (hrow:t < P.types.size) {W W':World} {v:Value} {d:DataW H} {ps:List MemPlace}
    (h:DataW.Trod enc P W 0 (fun _=>true) true t v d ps) (hb:Old W W') (hlt:∀ x ∈ ps,x.block < W.heap.size):DataW.Trod enc P W' 0 (fun b=>decide (b < W.heap.size)) true t v d ps :=
  WideElems.Trod_stays hl hr hrow h (fun x hx=>hb.same (hlt x hx)) (fun x hx=>by simpa using hlt x hx)
theorem Ka {P:Program} {Γ:Env} (kL:iE P Γ) {f:FuncId} {fV rG:List AV} {b:Bool} {vals:List Value} {W:World} (h:Γ f fV = some ([.one (.f (.bool b))],rG)) (ha:fM (fun k=>k < W.heap.size) W fV vals []) :
    Calls P f vals.toArray W fun e W'=>e = .returned (.bool b) ∧ Old W W':=by
  refine (kL f fV _ _ h (fun k=>k < W.heap.size) W vals [] ha List.nodup_nil (by simp) (fun _ h=>h)).mono fun e w' ⟨bK,uW,b1,b2,he,hp⟩=>?_
  refine ⟨?_,hp.kp.1,hp.kp.2,hp.big,fun k hk=>hp.ext k hk (by simp)⟩
  match uW,hp.rs with
  | [v],⟨c1,c2,h1,h2,h3⟩=>rw [he,show v = .bool b from h1.1];rfl
def Gs (P:Program) {α:Type} (T:TypeId) (f:α → List FV) (G:α → Prop):Prop :=
  ∀ {H:Type} (enc:TypeId × Value → H) (w:World) (spare:Nat → Bool) (held:Bool) (fuel:Nat) (cs:List Value) (x:DataW H × List MemPlace),
    DataW.trod enc P w 0 spare held fuel T cs = some x → (∀ n ∈ x.1.weights P T,n ≤ reachBytes) → ∃ a:α,bZ (fun k=>k < w.heap.size) w (f a) cs ∧ G a
section
variable {P : Program}
theorem uL {k:IntKind} {T:TypeId} (h:P.underlying T = some (.int k)):Gs P T (fun n=>[FV.int k n]) (fun n=>(Lit.int k n).wf = true):=by
  intro H enc w spare held fuel cs x hx _
  obtain ⟨n,rfl,rfl,hw⟩:=DataW.trod_int h hx
  exact ⟨n,⟨by simp only [eX],trivial⟩,hw⟩
theorem NG {T:TypeId} (h:P.underlying T = some .bool):Gs P T (fun b=>[FV.bool b]) (fun _=>True):=by
  intro H enc w spare held fuel cs x hx _
  obtain ⟨b,rfl,rfl⟩:=DataW.trod_bool h hx
  exact ⟨b,⟨by simp only [eX],trivial⟩,trivial⟩
theorem IK {T:TypeId} (h:P.underlying T = some .string):Gs P T (fun s=>[FV.str s]) (fun s=>s.size ≤ 140737488351232):=by
  intro H enc w spare held fuel cs x hx hz
  obtain ⟨s,rfl,rfl,hw⟩:=DataW.trod_string h hx
  refine ⟨s,⟨by simp only [eX],trivial⟩,?_⟩
  have:=hz s.data.toList.length (by simp [DataW.weights])
  rw [Array.length_toList] at this
  exact this
theorem nN {H:Type} {e:TypeId}:∀ {ds:List (DataW H)} {i:Nat} {d:DataW H},ds[i]? = some d → ∀ n ∈ d.weights P e,n ∈ DataW.weightsAll P e ds
  | [],i,d,h,_,_=>by simp at h
  | d0 :: ds,0,d,h,n,hn=>by
    simp at h;subst h
    exact List.mem_append.mpr (.inl hn)
  | d0 :: ds,i + 1,d,h,n,hn=>by
    simp at h
    exact List.mem_append.mpr (.inr (nN h n hn))
theorem wh {H:Type} {ts:List TypeId} {ds:List (DataW H)} (h:(DataW.weightsEach P ts ds).all (· ≤ reachBytes) = true) {j:Nat} {t:TypeId} {d:DataW H} (ht:ts[j]? = some t) (hd:ds[j]? = some d) :
    ∀ n ∈ d.weights P t,n ≤ reachBytes:=fun n hn=>by
  have:=List.all_eq_true.1 h n (DataW.weights_mem_each ht hd n hn)
  simpa using this
theorem uM {α:Type} {Q:Nat → α → Prop}:∀ n,(∀ i,i < n → ∃ y,Q i y) → ∃ ys:List α,ys.length = n ∧ ∀ i y,ys[i]? = some y → Q i y
  | 0,_=>⟨[],rfl,by simp⟩
  | n + 1,h=>by
    obtain ⟨ys,hl,hq⟩:=uM n (fun i hi=>h i (by omega))
    obtain ⟨y,hy⟩:=h n (by omega)
    refine ⟨ys ++ [y],by simp [hl],fun i z hz=>?_⟩
    by_cases hi:i < n
    · rw [List.getElem?_append_left (by omega)] at hz
      exact hq i z hz
    · have hlt:=(List.getElem?_eq_some_iff.1 hz).1
      simp only [List.length_append,List.length_singleton] at hlt
      obtain rfl:i = n:=by omega
      rw [List.getElem?_append_right (by omega),hl,Nat.sub_self] at hz
      simp at hz
      subst hz
      exact hy
theorem Ba {Fz:Nat → Prop} {w:World} {b:Nat}:∀ (xs:List FV) (cs:List Value) (o:Nat),bZ Fz w xs cs → (∀ i u,cs[i]? = some u → w.cell? ⟨b,o + i,none⟩ = some u) → dY Fz w b o xs
  | [],_,_,_,_=>by simp only [dY]
  | x :: xs,[],_,h,_=>h.elim
  | x :: xs,c :: cs,o,h,hc=>by
    simp only [dY]
    exact ⟨⟨c,hc 0 c rfl,h.1⟩,Ba xs cs (o + 1) h.2 fun i u hi=>by rw [show o + 1 + i = o + (i + 1) from by omega];exact hc (i + 1) u hi⟩
theorem zk {Fz:Nat → Prop} {w:World} {sz b:Nat} {α:Type} {f:α → List FV} (hf:∀ a,(f a).length = sz):∀ (l:List α) (o:Nat),(∀ i y,l[i]? = some y → dY Fz w b (o + i * sz) (f y)) → cZ Fz w sz b o (l.map f)
  | [],_,_=>by simp only [List.map_nil,cZ]
  | y :: l,o,h=>by
    simp only [List.map_cons,cZ]
    refine ⟨hf y,by simpa using h 0 y rfl,zk hf l (o + sz) fun i z hz=>?_⟩
    rw [show o + sz + i * sz = o + (i + 1) * sz from by rw [Nat.add_mul];omega]
    exact h (i + 1) z hz
theorem Ke (a:Addr) (x y:Nat):(a.add x).add y = a.add (x + y):=by
  unfold Addr.add
  by_cases hx:x = 0
  · subst hx;simp
  · by_cases hy:y = 0
    · subst hy;simp [hx]
    · simp [hx,hy,Nat.add_assoc]
theorem zl {w:World} {a:Addr} {u:Value} (h:w.cell? a = some u):a = ⟨a.block,a.off,none⟩ ∧ a.block < w.heap.size:=by
  unfold World.cell? at h
  split at h
  · rename_i c _ _ hb
    split at h
    · cases h
    · rename_i hs
      obtain ⟨b,o,s⟩:=a
      cases s with
      | none=>exact ⟨rfl,by have:=(Array.getElem?_eq_some_iff.mp hb).1;exact this⟩
      | some s=>simp at hs
  · cases h
theorem Bb {α:Type} {f:α → List FV} {T e:TypeId} {G:α → Prop} (sz:Nat) (h:P.underlying T = some (.slice e)) (hc:P.cellsOf e = sz) (h0:0 < sz) (hf:∀ a,(f a).length = sz) (hby:decide (1 ≤ P.bytesOf e) = true) (hd:Gs P e f G) :
    Gs P T (fun l:List α=>[FV.sl (l.map f)]) (fun l=>l.length ≤ 140737488351232 ∧ ∀ x ∈ l,G x):=by
  intro H enc w spare held fuel cs x hx hz
  rcases DataW.trod_slice h hx with ⟨rfl,rfl⟩ | ⟨a,len,cap,elems,rest,n,_,rfl,rfl,hb,hl,hm,hlen,hel,_,_⟩
  · refine ⟨[],⟨?_,trivial⟩,by simp⟩
    simp only [eX]
    exact ⟨none,0,rfl,Nat.le_refl _,by simp,.inl rfl⟩
  · have hw:∀ m ∈ (elems.length + rest.length) * P.bytesOf e :: (DataW.weightsAll P e (elems.map (·.1)) ++ DataW.weightsAll P e (rest.map (·.1))),m ≤ reachBytes:=by
      intro m hm'
      refine hz m ?_
      simp only [DataW.weights,h,List.length_map]
      exact hm'
    obtain ⟨ys,hyl,hys⟩:=uM (α:=α) (Q:=fun i y=>∃ c,w.cells? 0 (a.add (i * P.cellsOf e)) (P.cellsOf e) = some c ∧ bZ (fun k=>k < w.heap.size) w (f y) c ∧ G y) len (fun i hi=>by
      have h1:=hel i hi
      rw [List.getElem?_eq_getElem (by omega),Option.bind_eq_some_iff] at h1
      obtain ⟨c,hc1,hc2⟩:=h1
      obtain ⟨y,hy,hg⟩:=hd enc w spare held n c _ hc2 (fun m hm'=>by
        refine hw m (List.mem_cons_of_mem _ (List.mem_append.mpr (.inl ?_)))
        exact nN (i:=i) (d:=(elems[i]'(by omega)).1) (by rw [List.getElem?_map,List.getElem?_eq_getElem (by omega)];rfl) m hm')
      exact ⟨y,c,hc1,hy,hg⟩)
    have hlen1:(elems.length + rest.length) * P.bytesOf e ≤ reachBytes:=hw _ (by simp)
    have hlm:cap ≤ 9223372036854775807:=by unfold maxLen at hm;omega
    refine ⟨ys,⟨?_,trivial⟩,?_,?_⟩
    · simp only [eX,List.length_map]
      refine ⟨some a,cap,by rw [hyl],by omega,by omega,?_⟩
      cases hy0:ys with
      | nil=>exact .inl rfl
      | cons y0 ys0 =>
        right
        obtain ⟨c0,k0,_,_⟩:=hys 0 y0 (by rw [hy0];rfl)
        rw [hc] at k0
        obtain ⟨_,kl,kc⟩:=World.cells?_some k0
        have k1:=kc 0 h0
        rw [List.getElem?_eq_getElem (by omega)] at k1
        obtain ⟨ea,eb⟩:=zl k1
        have ea0:(a.add (0 * sz)).add 0 = a:=by simp [Addr.add]
        rw [ea0] at ea eb
        refine ⟨a.block,a.off,sz,congrArg some ea,eb,?_⟩
        rw [← hy0]
        refine zk hf ys a.off fun i y hi=>?_
        obtain ⟨c,hc1,hk,_⟩:=hys i y hi
        rw [hc] at hc1
        obtain ⟨_,hcl,hcc⟩:=World.cells?_some hc1
        refine Ba _ c _ hk fun j u hj=>?_
        have hj':j < sz:=by have:=(List.getElem?_eq_some_iff.1 hj).1;omega
        have:=hcc j hj'
        rw [Ke,hj] at this
        obtain ⟨e1,_⟩:=zl this
        rw [e1] at this
        have e2:a.add (i * sz + j) = ⟨a.block,a.off + i * sz + j,none⟩:=by
          rw [ea];unfold Addr.add;split
          · rename_i hz;congr 1;simp only;omega
          · congr 1;simp only;omega
        rw [e2] at this
        exact this
    · rw [hyl,← hlen]
      have h1:elems.length * P.bytesOf e ≤ (elems.length + rest.length) * P.bytesOf e:=Nat.mul_le_mul_right _ (by omega)
      have h2:reachBytes = 140737488351232:=rfl
      have h3:elems.length * 1 ≤ elems.length * P.bytesOf e:=Nat.mul_le_mul_left _ (of_decide_eq_true hby)
      omega
    · intro y hy
      obtain ⟨i,hi,rfl⟩:=List.mem_iff_getElem.1 hy
      obtain ⟨_,_,_,hg⟩:=hys i _ (List.getElem?_eq_getElem hi)
      exact hg
def Rb (P:Program) {α:Type} (sz:Nat) (f:α → List FV) (fs:List (TypeId × Nat)) (off:Nat) (G:α → Prop):Prop :=
  ∀ {H:Type} (enc:TypeId × Value → H) (w:World) (spare:Nat → Bool) (held:Bool) (n:Nat) (cs:List Value) (xs:List (DataW H × List MemPlace)),
    (∀ (i:Nat) (f:TypeId × Nat),fs[i]? = some f → DataW.trod enc P w 0 spare held n f.1 ((cs.drop f.2).take (P.cellsOf f.1)) = xs[i]?) → xs.length = fs.length →
    (∀ (i:Nat) (x:DataW H × List MemPlace) (f:TypeId × Nat),xs[i]? = some x → fs[i]? = some f → ∀ m ∈ x.1.weights P f.1,m ≤ reachBytes) → cs.length = off + sz → ∃ a,bZ (fun k=>k < w.heap.size) w (f a) (cs.drop off) ∧ G a
theorem vK {α:Type} {sz:Nat} {f:α → List FV} {t:TypeId} {off:Nat} {G:α → Prop} (hd:Gs P t f G) (hc:P.cellsOf t = sz):Rb P sz f [(t,off)] off G:=by
  intro H enc w spare held n cs xs hf hl hw hn
  match xs,hl with
  | [y],_ =>
    have h1:=hf 0 _ rfl
    have h2:(cs.drop off).take (P.cellsOf t) = cs.drop off:=List.take_of_length_le (by rw [List.length_drop];omega)
    rw [h2] at h1
    exact hd enc w spare held n _ y h1 (hw 0 y _ rfl rfl)
theorem Bc {Fz:Nat → Prop} {w:World}:∀ {xs ys:List FV} {cs ds:List Value},bZ Fz w xs cs → bZ Fz w ys ds → bZ Fz w (xs ++ ys) (cs ++ ds)
  | [],_,[],_,_,h=>h
  | [],_,_ :: _,_,h,_=>h.elim
  | _ :: _,_,[],_,h,_=>h.elim
  | x :: xs,ys,c :: cs,ds,h,k=>⟨h.1,Bc h.2 k⟩
theorem j4 {α β:Type} {sz sz':Nat} {f:α → List FV} {g:β → List FV} {t:TypeId} {fs:List (TypeId × Nat)} {off:Nat} {G:α → Prop} {G':β → Prop} (hd:Gs P t f G) (hc:P.cellsOf t = sz)
    (hr:Rb P sz' g fs (off + sz) G'):Rb P (sz + sz') (fun p:α × β=>f p.1 ++ g p.2) ((t,off) :: fs) off (fun p=>G p.1 ∧ G' p.2):=by
  intro H enc w spare held n cs xs hf hl hw hn
  match xs,hl with
  | y :: ys,hl =>
    have h1:=hf 0 _ rfl
    obtain ⟨a,ha,ga⟩:=hd enc w spare held n _ y h1 (hw 0 y _ rfl rfl)
    obtain ⟨b,hb,gb⟩:=hr enc w spare held n cs ys (fun i f hi=>hf (i + 1) f hi) (by simpa using hl) (fun i x f hx hfi=>hw (i + 1) x f hx hfi) (by omega)
    refine ⟨(a,b),?_,ga,gb⟩
    have e:cs.drop off = (cs.drop off).take (P.cellsOf t) ++ cs.drop (off + sz):=by rw [← List.drop_drop,hc,List.take_append_drop]
    rw [e]
    exact Bc ha hb
theorem rX {α:Type} {sz:Nat} {f:α → List FV} {T:TypeId} {fs:Array Field} {G:α → Prop} (h:P.underlying T = some (.struct fs)) (hc:P.cellsOf T = sz)
    (hd:Rb P sz f (fs.toList.map fun f=>(f.type,f.offset)) 0 G):Gs P T f G:=by
  intro H enc w spare held fuel cs x hx hz
  obtain ⟨xs,n,_,rfl,hl,hlen,hf⟩:=DataW.trod_struct h hx
  have hd':=hd enc w spare held n cs xs ?_ (by rw [List.length_map,Array.length_toList];exact hlen) ?_ (by rw [Nat.zero_add,← hc];exact hl)
  · obtain ⟨a,ha,ga⟩:=hd'
    exact ⟨a,by simpa using ha,ga⟩
  · intro i f hi
    rw [List.getElem?_map,Option.map_eq_some_iff] at hi
    obtain ⟨f',hf',rfl⟩:=hi
    exact hf i f' (by rw [← Array.getElem?_toList];exact hf')
  · intro i x f hxi hfi m hm
    refine hz m ?_
    simp only [DataW.weights,h]
    refine DataW.weights_mem_each (j:=i) (t:=f.1) (d:=x.1) ?_ ?_ m hm
    · rw [List.getElem?_map] at hfi ⊢
      rw [Option.map_eq_some_iff] at hfi ⊢
      obtain ⟨f',hf',rfl⟩:=hfi
      exact ⟨f',hf',rfl⟩
    · rw [List.getElem?_map,hxi];rfl
theorem wZ {α β:Type} {T:TypeId} {f:α → List FV} {f':β → List FV} {G:α → Prop} {G':β → Prop} (g:α → β) (hg:∀ a,f' (g a) = f a) (hG:∀ a,G a → G' (g a)) (hd:Gs P T f G):Gs P T f' G':=by
  intro H enc w spare held fuel cs x hx hz
  obtain ⟨a,ha,ga⟩:=hd enc w spare held fuel cs x hx hz
  exact ⟨g a,by rw [hg];exact ha,hG a ga⟩
theorem zm {w:World} {r:Reach} {base:Nat} {t:TypeId} {fs:Array Field} {v:Value} (ht:P.underlying t = some (.struct fs)) (h:Value.okWide P w r base t v):∃ cs,v = .agg cs:=by
  simp only [Value.okWide,ht] at h
  obtain ⟨cs,h1,_⟩:=h
  exact ⟨cs,h1⟩
theorem ER {Fz:Nat → Prop} {w:World}:∀ {xs:List FV} {cs:List Value},bZ Fz w xs cs → lM Fz w (xs.map .f) cs []
  | [],[],_=>rfl
  | [],_ :: _,h=>h.elim
  | _ :: _,[],h=>h.elim
  | x :: xs,c :: cs,h=>⟨[],[],⟨h.1,rfl⟩,ER h.2,rfl⟩
theorem NH {Fz:Nat → Prop} {w:World} {xs:List FV} {cs:Array Value} (h:bZ Fz w xs cs.toList):oP Fz w (.agg (xs.map .f)) (.agg cs) []:=⟨cs,rfl,ER h⟩
theorem ES {Fz:Nat → Prop} {w:World} {x:FV} {v:Value} (h:eX Fz w x v):oP Fz w (.one (.f x)) v []:=⟨h,rfl⟩
theorem rY {Fz:Nat → Prop} {w:World} {x:AV} {v:Value} {xs:List AV} {vs:List Value} (h:oP Fz w x v []) (k:fM Fz w xs vs []):fM Fz w (x :: xs) (v :: vs) []:=⟨[],[],h,k,rfl⟩
theorem Kg {Fz:Nat → Prop} {w:World}:fM Fz w [] [] []:=rfl
end
end Go.Proofs.Ytdkkgecdhapfhaa.Ev
set_option maxRecDepth 100000
namespace Go.Proofs.Ytdkkgecdhapfhaa.Kn
open Go Ev
theorem opQ : Gs Try.prog 32 rQ (fun _=>True) :=
  wZ (fun p:ByteArray × Int × Int=>⟨p.1,p.2.1,p.2.2⟩) (by exact fun _=>rfl) (by exact fun _ _=>trivial) (rX Try.underlying32 (by kernel_rfl) (j4 (sz:=1) (sz':=2) (IK Try.underlying9) (by kernel_rfl) (j4 (sz:=1) (sz':=1) (uL Try.underlying3) (by kernel_rfl) (vK (uL Try.underlying3) (by kernel_rfl)))))
theorem opD : Gs Try.prog 33 (fun d:List ByteArray=>[.sl (d.map iB)]) (fun d=>d.length ≤ 140737488351232) :=
  wZ (fun d:List ByteArray=>d) (by exact fun _=>rfl) (by exact fun _ h=>h.1) (Bb 1 Try.underlying33 (by kernel_rfl) (by decide) (fun _=>rfl) (by kernel_rfl) (IK Try.underlying9))
theorem opS : Gs Try.prog 35 rS (fun x=>x.d.length ≤ 140737488351232) :=
  wZ (fun p:Qn × List ByteArray × Int=>⟨p.1.q,p.1.t,p.1.c,p.2.1,p.2.2⟩) (by exact fun _=>rfl) (by exact fun _ h=>h.2.1) (rX Try.underlying35 (by kernel_rfl) (j4 (sz:=3) (sz':=2) opQ (by kernel_rfl) (j4 (sz:=1) (sz':=1) opD (by kernel_rfl) (vK (uL Try.underlying3) (by kernel_rfl)))))
theorem opO : Gs Try.prog 80 Kr (fun x=>x.s.d.length ≤ 140737488351232) :=
  wZ (fun p:Int × Int × Qn × Bool × Se=>⟨p.1,p.2.1,p.2.2.1,p.2.2.2.1,p.2.2.2.2⟩) (by exact fun _=>rfl) (by exact fun _ h=>h.2.2.2.2) (rX Try.underlying80 (by kernel_rfl) (j4 (sz:=1) (sz':=10) (uL Try.underlying3) (by kernel_rfl) (j4 (sz:=1) (sz':=9) (uL Try.underlying3) (by kernel_rfl) (j4 (sz:=3) (sz':=6) opQ (by kernel_rfl) (j4 (sz:=1) (sz':=5) (NG Try.underlying4) (by kernel_rfl) (vK opS (by kernel_rfl)))))))
theorem opL : Gs Try.prog 71 (fun l:List On=>[.sl (l.map Kr)]) (fun l=>l.length ≤ 140737488351232 ∧ ∀ x ∈ l,x.s.d.length ≤ 140737488351232) :=
  Bb 11 Try.underlying71 (by kernel_rfl) (by decide) (fun _=>rfl) (by kernel_rfl) opO
end Go.Proofs.Ytdkkgecdhapfhaa.Kn

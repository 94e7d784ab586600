/- A part of the proof of StoreScripts: cut, joined and given short names by a program of this session (wip/tools/pack.py); Lean checks it. No condition. -/
import Derived.Test.YtdkkgecdhapfhaaPSStsi
import Derived.Test.YtdkkgecdhapfhaaPSStsk
import Derived.Test.YtdkkgecdhapfhaaPSStsj
import Derived.Test.YtdkkgecdhapfhaaPSStse
import Derived.ProofKit
import Derived.OpenShut
import Derived.SizedLaws
import Derived.ChangeArms
import Derived.ChangeSlices
import Derived.Carry
import Derived.KernelRfl
import Derived.Test.YtdkkgecdhapfhaaPSStsd
set_option linter.unusedSectionVars false
set_option linter.unusedSimpArgs false
set_option linter.unusedVariables false
namespace Go.Proofs.Ytdkkgecdhapfhaa.ZQ
open Go.RowKit Go.Proofs.YtdkkgecdhapfhaaW.bD Go.Proofs.YtdkkgecdhapfhaaW.dM Go.Proofs.YtdkkgecdhapfhaaW.eH
attribute [local go_sem] jl jm j5 j6 iF iG jo jq
attribute [local go_sem high] VF
def aH.j0 : Nat → Int → Bool → Option (Int × Int × Int)
  | 0,_,_=>none
  | k + 1,x3,x4=>if x4 = true then (some (0,1,0)) else (if x3 = 6 then (some (0,2,20)) else (if x3 = 15 then (some (2,1,0)) else (if x3 = 33 then (some (6,1,0)) else (if x3 = 1 then (some (4,0,0)) else (if x3 = 28 then (some (16,0,0)) else (some (0,0,0)))))))
def aH.f (k:Nat) (a0:Int):Option (Int × Int × Int):=if a0 = 2 then (aH.j0 k a0 (a0 == 2)) else (if a0 = 5 then (aH.j0 k a0 (a0 == 5)) else (aH.j0 k a0 (a0 == 12)))
set_option maxHeartbeats 8000000 in
set_option maxRecDepth 100000 in
theorem aH.calls (k:Nat) (a0:Int) (r1:Int) (r2:Int) (r3:Int) (w:World) (h:aH.f k a0 = some (r1,r2,r3)) :
    Calls Try.prog 106 #[.int .i64 a0] w fun e w'=>e = .returned (.agg #[.int .i64 r1,.int .i64 r2,.int .i64 r3]) ∧ Below w.heap.size w w':=by
  have Nj:=Try.underlying142
  have HB:=aj.mk (Below.refl w.heap.size w)
  have H:(if a0 = 2 then (aH.j0 k a0 (a0 == 2)) else (if a0 = 5 then (aH.j0 k a0 (a0 == 5)) else (aH.j0 k a0 (a0 == 12)))) = some (r1,r2,r3):=h
  clear h
  have Vp:=aj.mk H
  clear H
  go_enter Try.func106,Try.ntmps106
  go_upto_if 4 with (first | ((with_reducible refine gI (N:=2) rfl ?_);refine fT ?hg (N:=2) ?hd (cs:=#[.int .i64 0,.int .i64 0,.int .i64 0]) (t:=142) ?hr ?_;(case hd=>rfl);(case hg=>rfl);(case hr=>first | (go_simp;done) | (go_simp;rfl));intro gX hg w3 gW hb;have dZ:=aj.mk (bE (by repeat (first | (with_reducible first | exact HB.out | apply ak | apply ah | apply au) | exact HB.out)) hb);have gZ:=aj.mk (gW);have je:=aj.mk ((by rw [hg];exact (bL (by repeat (first | (with_reducible first | exact HB.out | apply ak | apply ah | apply au) | exact HB.out))):w.heap.size ≤ gX));have jH:=aj.mk ((by rw [hg];exact (bL (by repeat (first | (with_reducible first | exact HB.out | apply ak | apply ah | apply au) | exact HB.out))):w.heap.size ≤ gX));clear HB;have HB:=dZ;have dW:=gZ;have agQ:=je;have rA:=jH;clear dZ gZ je jH;clear hb gW hg))
  (try simp only [Act.put,List.setIfInBounds_toArray,List.set_cons_zero,List.set_cons_succ])
  go_cut [4] (fun v4 wc=>∃ (kq:Nat) (qJ:Bool),v4 = .bool qJ ∧ aj (aH.j0 kq a0 qJ = some (r1,r2,r3)) ∧ aj (kq ≤ k) ∧ aj (wc.heap[gX]? = some (.cells #[.int .i64 0,.int .i64 0,.int .i64 0] 142 (0,0))) ∧ aj (Below w.heap.size w wc))
  case first =>
    have H:=Vp.out
    clear Vp
    by_cases c4:a0 = 2
    · rw [if_pos c4] at H
      have qL:(a0 == 2) = true:=beq_iff_eq.mpr c4
      have JQ:(a0 != 2) = false:=bne_eq_false_iff_eq.mpr c4
      clear c4
      (first | rw [qL] | rw [MU] | (simp only [gQ,iy];rw [qL]) | skip)
      have H':=aj.mk H
      clear H
      go_wp2
      go_meet
      case rel=>exact ⟨_,((a0 == 2)),(by first | rfl | (simp;done) | (simp [*];done) | (simp [B.aV];done) | (simp [B.aW];done)),H',⟨by first | omega | exact Nat.le_refl _⟩,⟨by (with_reducible repeat (first | refine aG ?_ _ | refine aI ?_ | refine aA ?_ _));exact dW.out⟩,⟨by repeat (first | (with_reducible first | exact HB.out | apply ak | apply ah | apply au | refine aR ?_ rA.out) | exact HB.out)⟩⟩
    · rw [if_neg c4] at H
      have qL:(a0 == 2) = false:=beq_eq_false_iff_ne.mpr c4
      have JQ:(a0 != 2) = true:=bne_iff_ne.mpr c4
      (first | rw [qL] | rw [MU] | (simp only [gQ,iy];rw [qL]) | skip)
      by_cases c5:a0 = 5
      · rw [if_pos c5] at H
        have pK:(a0 == 5) = true:=beq_iff_eq.mpr c5
        have vE:(a0 != 5) = false:=bne_eq_false_iff_eq.mpr c5
        clear c5
        have H':=aj.mk H
        clear H
        go_wp2
        go_meet
        case rel=>exact ⟨_,((a0 == 5)),(by first | rfl | (simp;done) | (simp [*];done) | (simp [B.aV];done) | (simp [B.aW];done)),H',⟨by first | omega | exact Nat.le_refl _⟩,⟨by (with_reducible repeat (first | refine aG ?_ _ | refine aI ?_ | refine aA ?_ _));exact dW.out⟩,⟨by repeat (first | (with_reducible first | exact HB.out | apply ak | apply ah | apply au | refine aR ?_ rA.out) | exact HB.out)⟩⟩
      · rw [if_neg c5] at H
        have pK:(a0 == 5) = false:=beq_eq_false_iff_ne.mpr c5
        have vE:(a0 != 5) = true:=bne_iff_ne.mpr c5
        have H':=aj.mk H
        clear H
        go_wp2
        go_meet
        case rel=>exact ⟨_,((a0 == 12)),(by first | rfl | (simp;done) | (simp [*];done) | (simp [B.aV];done) | (simp [B.aW];done)),H',⟨by first | omega | exact Nat.le_refl _⟩,⟨by (with_reducible repeat (first | refine aG ?_ _ | refine aI ?_ | refine aA ?_ _));exact dW.out⟩,⟨by repeat (first | (with_reducible first | exact HB.out | apply ak | apply ah | apply au | refine aR ?_ rA.out) | exact HB.out)⟩⟩
  case rest =>
    clear Vp
    try clear c1
    try clear p2
    try clear c4
    try clear qL
    try clear JQ
    try clear MU
    try clear c5
    try clear pK
    try clear vE
    obtain ⟨kq,qJ,rfl,HA,HJ1,dW,HB⟩:=hcut
    cases kq with
    | zero=>exact absurd HA.out (by simp [aH.j0])
    | succ kj1 =>
      have H:=HA.out
      clear HA
      simp only [aH.j0] at H
      by_cases c6:qJ = true
      · subst c6
        have H1:(some (0,1,0)) = some (r1,r2,r3):=by rw [if_pos rfl] at H;exact H
        clear H
        have H:=H1
        clear H1
        simp only [Option.some.injEq,Prod.mk.injEq] at H
        obtain ⟨rfl,rfl,rfl⟩:=H
        have aeW:wc.cell? ⟨gX,0,none⟩ = some (.int .i64 0):=(aM dW.out 0).trans rfl
        have aeX:wc.cell? ⟨gX,1,none⟩ = some (.int .i64 0):=(aM dW.out 1).trans rfl
        have aeY:wc.cell? ⟨gX,2,none⟩ = some (.int .i64 0):=(aM dW.out 2).trans rfl
        have aeZ:=ay dW.out 0
        have ae0:=ay dW.out 1
        have ae1:=ay dW.out 2
        go_wp2
        refine bodyPost_ret (results_cell_row rfl _ _ gX 142 #[.int .i64 0,.int .i64 1,.int .i64 0] (0,0) _ rfl (by (with_reducible repeat (first | refine aG ?_ _ | refine aI ?_ | refine aA ?_ _));refine bV (cs:=#[.int .i64 0,.int .i64 1,.int .i64 0]) ?_ 2 _ rfl;(with_reducible repeat (first | refine aG ?_ _ | refine aI ?_ | refine aA ?_ _));refine bV (cs:=#[.int .i64 0,.int .i64 0,.int .i64 0]) ?_ 1 _ rfl;(with_reducible repeat (first | refine aG ?_ _ | refine aI ?_ | refine aA ?_ _));refine bV (cs:=#[.int .i64 0,.int .i64 0,.int .i64 0]) ?_ 0 _ rfl;(with_reducible repeat (first | refine aG ?_ _ | refine aI ?_ | refine aA ?_ _));exact dW.out) Try.underlying142 rfl (by kernel_rfl)) rfl ?_
        exact ⟨by first | rfl | (simp [aJ,aK] <;> rfl) | (simp [*,aJ,aK] <;> rfl),by repeat (first | (with_reducible first | exact HB.out | apply ak | apply ah | apply au | refine aR ?_ rA.out) | exact HB.out)⟩
      · replace c6:=Bool.eq_false_iff.mpr c6
        subst c6
        have H1:(if a0 = 6 then (some (0,2,20)) else (if a0 = 15 then (some (2,1,0)) else (if a0 = 33 then (some (6,1,0)) else (if a0 = 1 then (some (4,0,0)) else (if a0 = 28 then (some (16,0,0)) else (some (0,0,0))))))) = some (r1,r2,r3):=by rw [if_neg (show ¬ (false = true) by decide)] at H;exact H
        clear H
        have H:=H1
        clear H1
        by_cases c8:a0 = 6
        · rw [if_pos c8] at H
          have rW:(a0 == 6) = true:=beq_iff_eq.mpr c8
          have rX:(a0 != 6) = false:=bne_eq_false_iff_eq.mpr c8
          clear c8
          simp only [Option.some.injEq,Prod.mk.injEq] at H
          obtain ⟨rfl,rfl,rfl⟩:=H
          have Nk:wc.cell? ⟨gX,0,none⟩ = some (.int .i64 0):=(aM dW.out 0).trans rfl
          have Nl:wc.cell? ⟨gX,1,none⟩ = some (.int .i64 0):=(aM dW.out 1).trans rfl
          have Nn:wc.cell? ⟨gX,2,none⟩ = some (.int .i64 0):=(aM dW.out 2).trans rfl
          have Np:=ay dW.out 0
          have Nq:=ay dW.out 1
          have Nr:=ay dW.out 2
          go_wp2
          refine bodyPost_ret (results_cell_row rfl _ _ gX 142 #[.int .i64 0,.int .i64 2,.int .i64 20] (0,0) _ rfl (by (with_reducible repeat (first | refine aG ?_ _ | refine aI ?_ | refine aA ?_ _));refine bV (cs:=#[.int .i64 0,.int .i64 2,.int .i64 0]) ?_ 2 _ rfl;(with_reducible repeat (first | refine aG ?_ _ | refine aI ?_ | refine aA ?_ _));refine bV (cs:=#[.int .i64 0,.int .i64 0,.int .i64 0]) ?_ 1 _ rfl;(with_reducible repeat (first | refine aG ?_ _ | refine aI ?_ | refine aA ?_ _));refine bV (cs:=#[.int .i64 0,.int .i64 0,.int .i64 0]) ?_ 0 _ rfl;(with_reducible repeat (first | refine aG ?_ _ | refine aI ?_ | refine aA ?_ _));exact dW.out) Try.underlying142 rfl (by kernel_rfl)) rfl ?_
          exact ⟨by first | rfl | (simp [aJ,aK] <;> rfl) | (simp [*,aJ,aK] <;> rfl),by repeat (first | (with_reducible first | exact HB.out | apply ak | apply ah | apply au | refine aR ?_ rA.out) | exact HB.out)⟩
        · rw [if_neg c8] at H
          have rW:(a0 == 6) = false:=beq_eq_false_iff_ne.mpr c8
          have rX:(a0 != 6) = true:=bne_iff_ne.mpr c8
          by_cases c10:a0 = 15
          · rw [if_pos c10] at H
            have rz:(a0 == 15) = true:=beq_iff_eq.mpr c10
            have AA:(a0 != 15) = false:=bne_eq_false_iff_eq.mpr c10
            clear c10
            simp only [Option.some.injEq,Prod.mk.injEq] at H
            obtain ⟨rfl,rfl,rfl⟩:=H
            have acQ:wc.cell? ⟨gX,0,none⟩ = some (.int .i64 0):=(aM dW.out 0).trans rfl
            have acR:wc.cell? ⟨gX,1,none⟩ = some (.int .i64 0):=(aM dW.out 1).trans rfl
            have acS:wc.cell? ⟨gX,2,none⟩ = some (.int .i64 0):=(aM dW.out 2).trans rfl
            have acT:=ay dW.out 0
            have acU:=ay dW.out 1
            have acV:=ay dW.out 2
            go_wp2
            refine bodyPost_ret (results_cell_row rfl _ _ gX 142 #[.int .i64 2,.int .i64 1,.int .i64 0] (0,0) _ rfl (by (with_reducible repeat (first | refine aG ?_ _ | refine aI ?_ | refine aA ?_ _));refine bV (cs:=#[.int .i64 2,.int .i64 1,.int .i64 0]) ?_ 2 _ rfl;(with_reducible repeat (first | refine aG ?_ _ | refine aI ?_ | refine aA ?_ _));refine bV (cs:=#[.int .i64 2,.int .i64 0,.int .i64 0]) ?_ 1 _ rfl;(with_reducible repeat (first | refine aG ?_ _ | refine aI ?_ | refine aA ?_ _));refine bV (cs:=#[.int .i64 0,.int .i64 0,.int .i64 0]) ?_ 0 _ rfl;(with_reducible repeat (first | refine aG ?_ _ | refine aI ?_ | refine aA ?_ _));exact dW.out) Try.underlying142 rfl (by kernel_rfl)) rfl ?_
            exact ⟨by first | rfl | (simp [aJ,aK] <;> rfl) | (simp [*,aJ,aK] <;> rfl),by repeat (first | (with_reducible first | exact HB.out | apply ak | apply ah | apply au | refine aR ?_ rA.out) | exact HB.out)⟩
          · rw [if_neg c10] at H
            have rz:(a0 == 15) = false:=beq_eq_false_iff_ne.mpr c10
            have AA:(a0 != 15) = true:=bne_iff_ne.mpr c10
            by_cases c12:a0 = 33
            · rw [if_pos c12] at H
              have uE:(a0 == 33) = true:=beq_iff_eq.mpr c12
              have uF:(a0 != 33) = false:=bne_eq_false_iff_eq.mpr c12
              clear c12
              simp only [Option.some.injEq,Prod.mk.injEq] at H
              obtain ⟨rfl,rfl,rfl⟩:=H
              have Cy:wc.cell? ⟨gX,0,none⟩ = some (.int .i64 0):=(aM dW.out 0).trans rfl
              have Cz:wc.cell? ⟨gX,1,none⟩ = some (.int .i64 0):=(aM dW.out 1).trans rfl
              have CB:wc.cell? ⟨gX,2,none⟩ = some (.int .i64 0):=(aM dW.out 2).trans rfl
              have CG:=ay dW.out 0
              have CJ:=ay dW.out 1
              have CK:=ay dW.out 2
              go_wp2
              refine bodyPost_ret (results_cell_row rfl _ _ gX 142 #[.int .i64 6,.int .i64 1,.int .i64 0] (0,0) _ rfl (by (with_reducible repeat (first | refine aG ?_ _ | refine aI ?_ | refine aA ?_ _));refine bV (cs:=#[.int .i64 6,.int .i64 1,.int .i64 0]) ?_ 2 _ rfl;(with_reducible repeat (first | refine aG ?_ _ | refine aI ?_ | refine aA ?_ _));refine bV (cs:=#[.int .i64 6,.int .i64 0,.int .i64 0]) ?_ 1 _ rfl;(with_reducible repeat (first | refine aG ?_ _ | refine aI ?_ | refine aA ?_ _));refine bV (cs:=#[.int .i64 0,.int .i64 0,.int .i64 0]) ?_ 0 _ rfl;(with_reducible repeat (first | refine aG ?_ _ | refine aI ?_ | refine aA ?_ _));exact dW.out) Try.underlying142 rfl (by kernel_rfl)) rfl ?_
              exact ⟨by first | rfl | (simp [aJ,aK] <;> rfl) | (simp [*,aJ,aK] <;> rfl),by repeat (first | (with_reducible first | exact HB.out | apply ak | apply ah | apply au | refine aR ?_ rA.out) | exact HB.out)⟩
            · rw [if_neg c12] at H
              have uE:(a0 == 33) = false:=beq_eq_false_iff_ne.mpr c12
              have uF:(a0 != 33) = true:=bne_iff_ne.mpr c12
              by_cases c14:a0 = 1
              · rw [if_pos c14] at H
                have AB:(a0 == 1) = true:=beq_iff_eq.mpr c14
                have Sm:(a0 != 1) = false:=bne_eq_false_iff_eq.mpr c14
                clear c14
                simp only [Option.some.injEq,Prod.mk.injEq] at H
                obtain ⟨rfl,rfl,rfl⟩:=H
                have CO:wc.cell? ⟨gX,0,none⟩ = some (.int .i64 0):=(aM dW.out 0).trans rfl
                have CP:wc.cell? ⟨gX,1,none⟩ = some (.int .i64 0):=(aM dW.out 1).trans rfl
                have CQ:wc.cell? ⟨gX,2,none⟩ = some (.int .i64 0):=(aM dW.out 2).trans rfl
                have CS:=ay dW.out 0
                have CU:=ay dW.out 1
                have CW:=ay dW.out 2
                go_wp2
                refine bodyPost_ret (results_cell_row rfl _ _ gX 142 #[.int .i64 4,.int .i64 0,.int .i64 0] (0,0) _ rfl (by (with_reducible repeat (first | refine aG ?_ _ | refine aI ?_ | refine aA ?_ _));refine bV (cs:=#[.int .i64 4,.int .i64 0,.int .i64 0]) ?_ 2 _ rfl;(with_reducible repeat (first | refine aG ?_ _ | refine aI ?_ | refine aA ?_ _));refine bV (cs:=#[.int .i64 4,.int .i64 0,.int .i64 0]) ?_ 1 _ rfl;(with_reducible repeat (first | refine aG ?_ _ | refine aI ?_ | refine aA ?_ _));refine bV (cs:=#[.int .i64 0,.int .i64 0,.int .i64 0]) ?_ 0 _ rfl;(with_reducible repeat (first | refine aG ?_ _ | refine aI ?_ | refine aA ?_ _));exact dW.out) Try.underlying142 rfl (by kernel_rfl)) rfl ?_
                exact ⟨by first | rfl | (simp [aJ,aK] <;> rfl) | (simp [*,aJ,aK] <;> rfl),by repeat (first | (with_reducible first | exact HB.out | apply ak | apply ah | apply au | refine aR ?_ rA.out) | exact HB.out)⟩
              · rw [if_neg c14] at H
                have AB:(a0 == 1) = false:=beq_eq_false_iff_ne.mpr c14
                have Sm:(a0 != 1) = true:=bne_iff_ne.mpr c14
                by_cases c16:a0 = 28
                · rw [if_pos c16] at H
                  have Il:(a0 == 28) = true:=beq_iff_eq.mpr c16
                  have aan:(a0 != 28) = false:=bne_eq_false_iff_eq.mpr c16
                  clear c16
                  simp only [Option.some.injEq,Prod.mk.injEq] at H
                  obtain ⟨rfl,rfl,rfl⟩:=H
                  have acW:wc.cell? ⟨gX,0,none⟩ = some (.int .i64 0):=(aM dW.out 0).trans rfl
                  have acX:wc.cell? ⟨gX,1,none⟩ = some (.int .i64 0):=(aM dW.out 1).trans rfl
                  have acY:wc.cell? ⟨gX,2,none⟩ = some (.int .i64 0):=(aM dW.out 2).trans rfl
                  have acZ:=ay dW.out 0
                  have ac0:=ay dW.out 1
                  have ac1:=ay dW.out 2
                  go_wp2
                  refine bodyPost_ret (results_cell_row rfl _ _ gX 142 #[.int .i64 16,.int .i64 0,.int .i64 0] (0,0) _ rfl (by (with_reducible repeat (first | refine aG ?_ _ | refine aI ?_ | refine aA ?_ _));refine bV (cs:=#[.int .i64 16,.int .i64 0,.int .i64 0]) ?_ 2 _ rfl;(with_reducible repeat (first | refine aG ?_ _ | refine aI ?_ | refine aA ?_ _));refine bV (cs:=#[.int .i64 16,.int .i64 0,.int .i64 0]) ?_ 1 _ rfl;(with_reducible repeat (first | refine aG ?_ _ | refine aI ?_ | refine aA ?_ _));refine bV (cs:=#[.int .i64 0,.int .i64 0,.int .i64 0]) ?_ 0 _ rfl;(with_reducible repeat (first | refine aG ?_ _ | refine aI ?_ | refine aA ?_ _));exact dW.out) Try.underlying142 rfl (by kernel_rfl)) rfl ?_
                  exact ⟨by first | rfl | (simp [aJ,aK] <;> rfl) | (simp [*,aJ,aK] <;> rfl),by repeat (first | (with_reducible first | exact HB.out | apply ak | apply ah | apply au | refine aR ?_ rA.out) | exact HB.out)⟩
                · rw [if_neg c16] at H
                  have Il:(a0 == 28) = false:=beq_eq_false_iff_ne.mpr c16
                  have aan:(a0 != 28) = true:=bne_iff_ne.mpr c16
                  simp only [Option.some.injEq,Prod.mk.injEq] at H
                  obtain ⟨rfl,rfl,rfl⟩:=H
                  have IJ:wc.cell? ⟨gX,0,none⟩ = some (.int .i64 0):=(aM dW.out 0).trans rfl
                  have IK:wc.cell? ⟨gX,1,none⟩ = some (.int .i64 0):=(aM dW.out 1).trans rfl
                  have IL:wc.cell? ⟨gX,2,none⟩ = some (.int .i64 0):=(aM dW.out 2).trans rfl
                  have IQ:=ay dW.out 0
                  have IU:=ay dW.out 1
                  have IV:=ay dW.out 2
                  go_wp2
                  refine bodyPost_ret (results_cell_row rfl _ _ gX 142 #[.int .i64 0,.int .i64 0,.int .i64 0] (0,0) _ rfl (by (with_reducible repeat (first | refine aG ?_ _ | refine aI ?_ | refine aA ?_ _));refine bV (cs:=#[.int .i64 0,.int .i64 0,.int .i64 0]) ?_ 2 _ rfl;(with_reducible repeat (first | refine aG ?_ _ | refine aI ?_ | refine aA ?_ _));refine bV (cs:=#[.int .i64 0,.int .i64 0,.int .i64 0]) ?_ 1 _ rfl;(with_reducible repeat (first | refine aG ?_ _ | refine aI ?_ | refine aA ?_ _));refine bV (cs:=#[.int .i64 0,.int .i64 0,.int .i64 0]) ?_ 0 _ rfl;(with_reducible repeat (first | refine aG ?_ _ | refine aI ?_ | refine aA ?_ _));exact dW.out) Try.underlying142 rfl (by kernel_rfl)) rfl ?_
                  exact ⟨by first | rfl | (simp [aJ,aK] <;> rfl) | (simp [*,aJ,aK] <;> rfl),by repeat (first | (with_reducible first | exact HB.out | apply ak | apply ah | apply au | refine aR ?_ rA.out) | exact HB.out)⟩
def bn.l0 : Nat → ByteArray → Int → Option (Bool)
  | 0,_,_=>none
  | k + 1,x0,x3=>if x3 < (x0.size:Int) then (if 0 ≤ x3 then (bn.l0 k x0 (wrap64 ((wrap64 (x3 + 1)) + (wrap64 (bt x0 x3))))) else (none)) else (if x3 = (x0.size:Int) then (some (decide (x3 > 0))) else (some false))
def bn.f (k:Nat) (a0:ByteArray):Option (Bool):=bn.l0 k a0 0
set_option maxHeartbeats 8000000 in
set_option maxRecDepth 100000 in
theorem bn.calls (k:Nat) (a0:ByteArray) (r:Bool) (w:World) (h:bn.f k a0 = some r) :
    Calls Try.prog 117 #[.string a0] w fun e w'=>e = .returned (.bool r) ∧ aY w w':=by
  have H:(bn.l0 k a0 0) = some r:=h
  clear h
  have H':=aj.mk H
  clear H
  go_enter Try.func117,Try.ntmps117
  go_wp2
  go_loopg [3] k (fun kq v3 w'=>∃ (oK:Int),v3 = .int .i64 oK ∧ aj (bn.l0 kq a0 oK = some r) ∧ aj (kq ≤ k) ∧ aY w w')
  case atStart=>exact ⟨(0),(by first | rfl | (simp;done) | (simp [*];done) | (simp [B.aV];done) | (simp [B.aW];done)),H',⟨Nat.le_refl _⟩,by repeat (first | exact aY.refl _ | apply aY.step)⟩
  case round =>
    clear H'
    try clear c1
    obtain ⟨oK,rfl,HA,uz,⟨m1,rfl⟩⟩:=hrel
    cases gk with
    | zero=>exact absurd HA.out (by simp [bn.l0])
    | succ k1 =>
      have H:=HA.out
      clear HA
      simp only [bn.l0] at H
      by_cases c2:oK < (a0.size:Int)
      · rw [if_pos c2] at H
        have wF:decide (oK < (a0.size:Int)) = true:=decide_eq_true c2
        clear c2
        by_cases c3:0 ≤ oK
        · rw [if_pos c3] at H
          have qM:decide (0 ≤ oK) = true:=decide_eq_true c3
          clear c3
          have H':=aj.mk H
          clear H
          have p4:0 ≤ (oK:Int):=of_decide_eq_true (by first | (with_reducible assumption) | assumption)
          have q4:oK < (a0.size:Int):=of_decide_eq_true (by first | (with_reducible assumption) | assumption)
          have hx4:=nO a0 oK
          replace p4:=eq_true p4
          replace q4:=eq_true q4
          go_wp2
          go_roundg k1
          case measure=>have:=uz.out;omega
          case rel=>exact ⟨(wrap64 ((wrap64 (oK + 1)) + (wrap64 (bt a0 oK)))),(by first | rfl | (simp;done) | (simp [*];done) | (simp [B.aV];done) | (simp [B.aW];done)),H',⟨by have:=uz.out;omega⟩,by repeat (first | exact aY.refl _ | apply aY.step)⟩
        · rw [if_neg c3] at H
          exact absurd H (by simp)
      · rw [if_neg c2] at H
        have wF:decide (oK < (a0.size:Int)) = false:=decide_eq_false c2
        clear c2
        by_cases c5:oK = (a0.size:Int)
        · rw [if_pos c5] at H
          have pK:(oK == (a0.size:Int)) = true:=beq_iff_eq.mpr c5
          have vE:(oK != (a0.size:Int)) = false:=bne_eq_false_iff_eq.mpr c5
          clear c5
          obtain rfl:=Option.some.inj H
          go_wp2
          go_ret
          exact ⟨by first | rfl | (simp;done) | (simp [*];done),by repeat (first | exact aY.refl _ | apply aY.step)⟩
        · rw [if_neg c5] at H
          have pK:(oK == (a0.size:Int)) = false:=beq_eq_false_iff_ne.mpr c5
          have vE:(oK != (a0.size:Int)) = true:=bne_iff_ne.mpr c5
          obtain rfl:=Option.some.inj H
          go_wp2
          go_ret
          exact ⟨by first | rfl | (simp;done) | (simp [*];done),by repeat (first | exact aY.refl _ | apply aY.step)⟩
def aX.l0 : Nat → ByteArray → Int → Int → ByteArray → Int → Int → Int → Int → Int → Option (ByteArray × Int)
  | 0,_,_,_,_,_,_,_,_,_=>none
  | k + 1,x0,x1,x2,x13,PX,x15,Qu,IW,IX=>if x15 < IW then ((aU.f k x0 PX).bind fun IY=>(if IY.2.2 = 0 then (if x13.size + IY.1.size ≤ 9223372036854775807 then (aX.l0 k x0 x1 x2 (x13 ++ IY.1) IY.2.1 (wrap64 (x15 + 1)) Qu IW IX) else (none)) else (some ((⟨#[]⟩:ByteArray),4)))) else (if (wrap64 (PX + IX)) = (wrap64 (x1 + x2)) then (if 0 ≤ PX then (if PX ≤ (wrap64 (x1 + x2)) then (if (wrap64 (x1 + x2)) ≤ (x0.size:Int) then (if x13.size + (x0.extract (PX:Int).toNat ((wrap64 (x1 + x2)):Int).toNat).size ≤ 9223372036854775807 then (if ((x13 ++ (x0.extract (PX:Int).toNat ((wrap64 (x1 + x2)):Int).toNat)).size:Int) > 65535 then (some ((⟨#[]⟩:ByteArray),4)) else (some (x13 ++ (x0.extract (PX:Int).toNat ((wrap64 (x1 + x2)):Int).toNat),0))) else (none)) else (none)) else (none)) else (none)) else (some ((⟨#[]⟩:ByteArray),4)))
def aX.f (k:Nat) (a0:ByteArray) (a1:Int) (a2:Int) (a3:Int):Option (ByteArray × Int):=(bC.f a0 a1 a2).bind fun kZ=>(if kZ.2 = true then ((aH.f k a3).bind fun eX=>(if (eX.1 == 0 && (eX.2.1 == 0 && (eX.2.2 == 0))) = true then (if a3 = 16 then ((bn.f k kZ.1).bind fun wI=>(if wI = true then (if (kZ.1.size:Int) > 65535 then (some ((⟨#[]⟩:ByteArray),4)) else (some (kZ.1,0))) else (some ((⟨#[]⟩:ByteArray),4)))) else (if (kZ.1.size:Int) > 65535 then (some ((⟨#[]⟩:ByteArray),4)) else (some (kZ.1,0)))) else (if eX.1 > a2 then (some ((⟨#[]⟩:ByteArray),4)) else (if 0 ≤ eX.1 then (if eX.1 ≤ (kZ.1.size:Int) then (aX.l0 k a0 a1 a2 (kZ.1.extract 0 (eX.1:Int).toNat) (wrap64 (a1 + eX.1)) 0 eX.1 eX.2.1 eX.2.2) else (none)) else (none))))) else (some ((⟨#[]⟩:ByteArray),2)))
set_option maxHeartbeats 8000000 in
set_option maxRecDepth 100000 in
theorem aX.calls (k:Nat) (a0:ByteArray) (a1:Int) (a2:Int) (a3:Int) (r1:ByteArray) (r2:Int) (w:World) (h:aX.f k a0 a1 a2 a3 = some (r1,r2)) :
    Calls Try.prog 104 #[.string a0,.int .i64 a1,.int .i64 a2,.int .i64 a3] w fun e w'=>e = .returned (.tuple #[.string r1,.int .i64 r2]) ∧ Below w.heap.size w w':=by
  have Nj:=Try.underlying142
  have HB:=aj.mk (Below.refl w.heap.size w)
  have H:((bC.f a0 a1 a2).bind fun kZ=>(if kZ.2 = true then ((aH.f k a3).bind fun eX=>(if (eX.1 == 0 && (eX.2.1 == 0 && (eX.2.2 == 0))) = true then (if a3 = 16 then ((bn.f k kZ.1).bind fun wI=>(if wI = true then (if (kZ.1.size:Int) > 65535 then (some ((⟨#[]⟩:ByteArray),4)) else (some (kZ.1,0))) else (some ((⟨#[]⟩:ByteArray),4)))) else (if (kZ.1.size:Int) > 65535 then (some ((⟨#[]⟩:ByteArray),4)) else (some (kZ.1,0)))) else (if eX.1 > a2 then (some ((⟨#[]⟩:ByteArray),4)) else (if 0 ≤ eX.1 then (if eX.1 ≤ (kZ.1.size:Int) then (aX.l0 k a0 a1 a2 (kZ.1.extract 0 (eX.1:Int).toNat) (wrap64 (a1 + eX.1)) 0 eX.1 eX.2.1 eX.2.2) else (none)) else (none))))) else (some ((⟨#[]⟩:ByteArray),2)))) = some (r1,r2):=h
  clear h
  replace H:=zbm H
  obtain ⟨⟨t160,aao⟩,SE,H⟩:=H
  replace H:(if aao = true then ((aH.f k a3).bind fun eX=>(if (eX.1 == 0 && (eX.2.1 == 0 && (eX.2.2 == 0))) = true then (if a3 = 16 then ((bn.f k t160).bind fun wI=>(if wI = true then (if (t160.size:Int) > 65535 then (some ((⟨#[]⟩:ByteArray),4)) else (some (t160,0))) else (some ((⟨#[]⟩:ByteArray),4)))) else (if (t160.size:Int) > 65535 then (some ((⟨#[]⟩:ByteArray),4)) else (some (t160,0)))) else (if eX.1 > a2 then (some ((⟨#[]⟩:ByteArray),4)) else (if 0 ≤ eX.1 then (if eX.1 ≤ (t160.size:Int) then (aX.l0 k a0 a1 a2 (t160.extract 0 (eX.1:Int).toNat) (wrap64 (a1 + eX.1)) 0 eX.1 eX.2.1 eX.2.2) else (none)) else (none))))) else (some ((⟨#[]⟩:ByteArray),2))) = some (r1,r2):=H
  have A5:=aj.mk SE
  clear SE
  by_cases c6:aao = true
  · subst c6
    have H1:((aH.f k a3).bind fun eX=>(if (eX.1 == 0 && (eX.2.1 == 0 && (eX.2.2 == 0))) = true then (if a3 = 16 then ((bn.f k t160).bind fun wI=>(if wI = true then (if (t160.size:Int) > 65535 then (some ((⟨#[]⟩:ByteArray),4)) else (some (t160,0))) else (some ((⟨#[]⟩:ByteArray),4)))) else (if (t160.size:Int) > 65535 then (some ((⟨#[]⟩:ByteArray),4)) else (some (t160,0)))) else (if eX.1 > a2 then (some ((⟨#[]⟩:ByteArray),4)) else (if 0 ≤ eX.1 then (if eX.1 ≤ (t160.size:Int) then (aX.l0 k a0 a1 a2 (t160.extract 0 (eX.1:Int).toNat) (wrap64 (a1 + eX.1)) 0 eX.1 eX.2.1 eX.2.2) else (none)) else (none))))) = some (r1,r2):=by rw [if_pos rfl] at H;exact H
    clear H
    have H:=H1
    clear H1
    replace H:=zbm H
    obtain ⟨⟨t162,kE,t164⟩,ZA,H⟩:=H
    replace H:(if (t162 == 0 && (kE == 0 && (t164 == 0))) = true then (if a3 = 16 then ((bn.f k t160).bind fun wI=>(if wI = true then (if (t160.size:Int) > 65535 then (some ((⟨#[]⟩:ByteArray),4)) else (some (t160,0))) else (some ((⟨#[]⟩:ByteArray),4)))) else (if (t160.size:Int) > 65535 then (some ((⟨#[]⟩:ByteArray),4)) else (some (t160,0)))) else (if t162 > a2 then (some ((⟨#[]⟩:ByteArray),4)) else (if 0 ≤ t162 then (if t162 ≤ (t160.size:Int) then (aX.l0 k a0 a1 a2 (t160.extract 0 (t162:Int).toNat) (wrap64 (a1 + t162)) 0 t162 kE t164) else (none)) else (none)))) = some (r1,r2):=H
    have A7:=aj.mk ZA
    clear ZA
    by_cases c8:(t162 == 0 && (kE == 0 && (t164 == 0))) = true
    · rw [if_pos c8] at H
      have rW:(t162 == 0 && (kE == 0 && (t164 == 0))) = true:=c8
      (try (have rX:decide (t162 = 0 && (kE == 0 && (t164 == 0))) = true:=by simpa using c8))
      (try (have M4:(t162 == 0 && (kE == 0 && (t164 == 0))) = true:=by simpa using c8))
      clear c8
      by_cases c9:a3 = 16
      · rw [if_pos c9] at H
        have uD:(a3 == 16) = true:=beq_iff_eq.mpr c9
        have EM:(a3 != 16) = false:=bne_eq_false_iff_eq.mpr c9
        clear c9
        replace H:=zbm H
        obtain ⟨wI,Nb,H⟩:=H
        replace H:(if wI = true then (if (t160.size:Int) > 65535 then (some ((⟨#[]⟩:ByteArray),4)) else (some (t160,0))) else (some ((⟨#[]⟩:ByteArray),4))) = some (r1,r2):=H
        have Sq:=aj.mk Nb
        clear Nb
        by_cases c11:wI = true
        · subst c11
          have H1:(if (t160.size:Int) > 65535 then (some ((⟨#[]⟩:ByteArray),4)) else (some (t160,0))) = some (r1,r2):=by rw [if_pos rfl] at H;exact H
          clear H
          have H:=H1
          clear H1
          by_cases c12:(t160.size:Int) > 65535
          · rw [if_pos c12] at H
            have uE:decide (65535 < (t160.size:Int)) = true:=decide_eq_true c12
            have uF:decide (65535 < t160.size) = true:=decide_eq_true (by omega)
            clear c12
            simp only [Option.some.injEq,Prod.mk.injEq] at H
            obtain ⟨rfl,rfl⟩:=H
            go_enter Try.func104,Try.ntmps104
            go_wp2_with (first | ((with_reducible refine aQ (f:=99) rfl ?_);refine bQ (some 23) rfl rfl Try.func99 (by kernel_rfl) rfl #[.string a0,.int .i64 a1,.int .i64 a2] rfl (by (try simp only [List.map_toArray,List.map_cons,List.map_nil]);first | done | rfl | (simp only [List.length_drop,List.length_take];rfl) | (simp only [ByteArray.size_append,Int.natCast_add];rfl) | (rw [B.dQ] <;> first | rfl | omega | (simp only [decide_eq_false_iff_not,decide_eq_true_eq,Int.not_lt,Nat.not_lt,gt_iff_lt] at * <;> omega))) ?_;(with_reducible refine (bC.calls a0 a1 a2 t160 true _ A5.out).mono ?_);rintro e w' ⟨rfl,⟨nd,rfl⟩⟩;refine ⟨_,rfl,?_⟩) | ((with_reducible refine aQ (f:=106) rfl ?_);refine bQ (some 29) rfl rfl Try.func106 (by kernel_rfl) rfl #[.int .i64 a3] rfl (by (try simp only [List.map_toArray,List.map_cons,List.map_nil]);first | done | rfl | (simp only [List.length_drop,List.length_take];rfl) | (simp only [ByteArray.size_append,Int.natCast_add];rfl) | (rw [B.dQ] <;> first | rfl | omega | (simp only [decide_eq_false_iff_not,decide_eq_true_eq,Int.not_lt,Nat.not_lt,gt_iff_lt] at * <;> omega))) ?_;(with_reducible refine (aH.calls k a3 t162 kE t164 _ A7.out).mono ?_);rintro e w13 ⟨rfl,hb⟩;refine ⟨_,rfl,?_⟩;have dZ:=aj.mk (bE (by repeat (first | (with_reducible first | exact HB.out | apply ak | apply ah | apply au) | exact HB.out)) hb);clear HB;have HB:=dZ;clear dZ;(try clear hb);(try clear hb2);(try clear hk);(try clear hi)) | ((with_reducible refine gI (N:=12) rfl ?_);(try (refine jr (by rfl) ?_;dsimp only));refine fT ?hg (N:=12) ?hd (cs:=#[.int .i64 0,.int .i64 0,.int .i64 0]) (t:=142) ?hr ?_;(case hd=>rfl);(case hg=>rfl);(case hr=>first | (go_simp;done) | (go_simp;rfl));intro dN hg w14 gW hb;have dZ:=aj.mk (bE (by repeat (first | (with_reducible first | exact HB.out | apply ak | apply ah | apply au) | exact HB.out)) hb);have gZ:=aj.mk (gW);have je:=aj.mk ((by rw [hg];exact (bL (by repeat (first | (with_reducible first | exact HB.out | apply ak | apply ah | apply au) | exact HB.out))):w.heap.size ≤ dN));have jH:=aj.mk ((by rw [hg];exact (bL (by repeat (first | (with_reducible first | exact HB.out | apply ak | apply ah | apply au) | exact HB.out))):w.heap.size ≤ dN));clear HB;have HB:=dZ;have bU:=gZ;have AU:=je;have kH:=jH;clear dZ gZ je jH;clear hb gW hg;have CO:w14.cell? ⟨dN,0,none⟩ = some (.int .i64 0):=(aM bU.out 0).trans rfl;have CP:w14.cell? ⟨dN,1,none⟩ = some (.int .i64 0):=(aM bU.out 1).trans rfl;have CQ:w14.cell? ⟨dN,2,none⟩ = some (.int .i64 0):=(aM bU.out 2).trans rfl;have CS:=ay bU.out 0;have CU:=ay bU.out 1;have CW:=ay bU.out 2) | (go_at_call 117;(with_reducible refine (bn.calls k t160 true _ Sq.out).mono ?_);rintro e w' ⟨rfl,⟨nd,rfl⟩⟩))
            go_ret2
            exact ⟨by first | rfl | (simp [aJ,aK] <;> rfl) | (simp [*,aJ,aK] <;> rfl),by repeat (first | (with_reducible first | exact HB.out | apply ak | apply ah | apply au | refine aR ?_ kH.out) | exact HB.out)⟩
          · rw [if_neg c12] at H
            have uE:decide (65535 < (t160.size:Int)) = false:=decide_eq_false c12
            have uF:decide (65535 < t160.size) = false:=decide_eq_false (by omega)
            clear c12
            simp only [Option.some.injEq,Prod.mk.injEq] at H
            obtain ⟨rfl,rfl⟩:=H
            go_enter Try.func104,Try.ntmps104
            go_wp2_with (first | ((with_reducible refine aQ (f:=99) rfl ?_);refine bQ (some 23) rfl rfl Try.func99 (by kernel_rfl) rfl #[.string a0,.int .i64 a1,.int .i64 a2] rfl (by (try simp only [List.map_toArray,List.map_cons,List.map_nil]);first | done | rfl | (simp only [List.length_drop,List.length_take];rfl) | (simp only [ByteArray.size_append,Int.natCast_add];rfl) | (rw [B.dQ] <;> first | rfl | omega | (simp only [decide_eq_false_iff_not,decide_eq_true_eq,Int.not_lt,Nat.not_lt,gt_iff_lt] at * <;> omega))) ?_;(with_reducible refine (bC.calls a0 a1 a2 t160 true _ A5.out).mono ?_);rintro e w' ⟨rfl,⟨nd,rfl⟩⟩;refine ⟨_,rfl,?_⟩) | ((with_reducible refine aQ (f:=106) rfl ?_);refine bQ (some 29) rfl rfl Try.func106 (by kernel_rfl) rfl #[.int .i64 a3] rfl (by (try simp only [List.map_toArray,List.map_cons,List.map_nil]);first | done | rfl | (simp only [List.length_drop,List.length_take];rfl) | (simp only [ByteArray.size_append,Int.natCast_add];rfl) | (rw [B.dQ] <;> first | rfl | omega | (simp only [decide_eq_false_iff_not,decide_eq_true_eq,Int.not_lt,Nat.not_lt,gt_iff_lt] at * <;> omega))) ?_;(with_reducible refine (aH.calls k a3 t162 kE t164 _ A7.out).mono ?_);rintro e w16 ⟨rfl,hb⟩;refine ⟨_,rfl,?_⟩;have dZ:=aj.mk (bE (by repeat (first | (with_reducible first | exact HB.out | apply ak | apply ah | apply au) | exact HB.out)) hb);clear HB;have HB:=dZ;clear dZ;(try clear hb);(try clear hb2);(try clear hk);(try clear hi)) | ((with_reducible refine gI (N:=12) rfl ?_);(try (refine jr (by rfl) ?_;dsimp only));refine fT ?hg (N:=12) ?hd (cs:=#[.int .i64 0,.int .i64 0,.int .i64 0]) (t:=142) ?hr ?_;(case hd=>rfl);(case hg=>rfl);(case hr=>first | (go_simp;done) | (go_simp;rfl));intro dN hg w17 gW hb;have dZ:=aj.mk (bE (by repeat (first | (with_reducible first | exact HB.out | apply ak | apply ah | apply au) | exact HB.out)) hb);have gZ:=aj.mk (gW);have je:=aj.mk ((by rw [hg];exact (bL (by repeat (first | (with_reducible first | exact HB.out | apply ak | apply ah | apply au) | exact HB.out))):w.heap.size ≤ dN));have jH:=aj.mk ((by rw [hg];exact (bL (by repeat (first | (with_reducible first | exact HB.out | apply ak | apply ah | apply au) | exact HB.out))):w.heap.size ≤ dN));clear HB;have HB:=dZ;have bU:=gZ;have AU:=je;have kH:=jH;clear dZ gZ je jH;clear hb gW hg;have IJ:w17.cell? ⟨dN,0,none⟩ = some (.int .i64 0):=(aM bU.out 0).trans rfl;have IK:w17.cell? ⟨dN,1,none⟩ = some (.int .i64 0):=(aM bU.out 1).trans rfl;have IL:w17.cell? ⟨dN,2,none⟩ = some (.int .i64 0):=(aM bU.out 2).trans rfl;have IQ:=ay bU.out 0;have IU:=ay bU.out 1;have IV:=ay bU.out 2) | (go_at_call 117;(with_reducible refine (bn.calls k t160 true _ Sq.out).mono ?_);rintro e w' ⟨rfl,⟨nd,rfl⟩⟩))
            go_ret2
            exact ⟨by first | rfl | (simp [aJ,aK] <;> rfl) | (simp [*,aJ,aK] <;> rfl),by repeat (first | (with_reducible first | exact HB.out | apply ak | apply ah | apply au | refine aR ?_ kH.out) | exact HB.out)⟩
        · replace c11:=Bool.eq_false_iff.mpr c11
          subst c11
          have H1:(some ((⟨#[]⟩:ByteArray),4)) = some (r1,r2):=by rw [if_neg (show ¬ (false = true) by decide)] at H;exact H
          clear H
          have H:=H1
          clear H1
          simp only [Option.some.injEq,Prod.mk.injEq] at H
          obtain ⟨rfl,rfl⟩:=H
          go_enter Try.func104,Try.ntmps104
          go_wp2_with (first | ((with_reducible refine aQ (f:=99) rfl ?_);refine bQ (some 23) rfl rfl Try.func99 (by kernel_rfl) rfl #[.string a0,.int .i64 a1,.int .i64 a2] rfl (by (try simp only [List.map_toArray,List.map_cons,List.map_nil]);first | done | rfl | (simp only [List.length_drop,List.length_take];rfl) | (simp only [ByteArray.size_append,Int.natCast_add];rfl) | (rw [B.dQ] <;> first | rfl | omega | (simp only [decide_eq_false_iff_not,decide_eq_true_eq,Int.not_lt,Nat.not_lt,gt_iff_lt] at * <;> omega))) ?_;(with_reducible refine (bC.calls a0 a1 a2 t160 true _ A5.out).mono ?_);rintro e w' ⟨rfl,⟨nd,rfl⟩⟩;refine ⟨_,rfl,?_⟩) | ((with_reducible refine aQ (f:=106) rfl ?_);refine bQ (some 29) rfl rfl Try.func106 (by kernel_rfl) rfl #[.int .i64 a3] rfl (by (try simp only [List.map_toArray,List.map_cons,List.map_nil]);first | done | rfl | (simp only [List.length_drop,List.length_take];rfl) | (simp only [ByteArray.size_append,Int.natCast_add];rfl) | (rw [B.dQ] <;> first | rfl | omega | (simp only [decide_eq_false_iff_not,decide_eq_true_eq,Int.not_lt,Nat.not_lt,gt_iff_lt] at * <;> omega))) ?_;(with_reducible refine (aH.calls k a3 t162 kE t164 _ A7.out).mono ?_);rintro e w19 ⟨rfl,hb⟩;refine ⟨_,rfl,?_⟩;have dZ:=aj.mk (bE (by repeat (first | (with_reducible first | exact HB.out | apply ak | apply ah | apply au) | exact HB.out)) hb);clear HB;have HB:=dZ;clear dZ;(try clear hb);(try clear hb2);(try clear hk);(try clear hi)) | ((with_reducible refine gI (N:=12) rfl ?_);(try (refine jr (by rfl) ?_;dsimp only));refine fT ?hg (N:=12) ?hd (cs:=#[.int .i64 0,.int .i64 0,.int .i64 0]) (t:=142) ?hr ?_;(case hd=>rfl);(case hg=>rfl);(case hr=>first | (go_simp;done) | (go_simp;rfl));intro dN hg w20 gW hb;have dZ:=aj.mk (bE (by repeat (first | (with_reducible first | exact HB.out | apply ak | apply ah | apply au) | exact HB.out)) hb);have gZ:=aj.mk (gW);have je:=aj.mk ((by rw [hg];exact (bL (by repeat (first | (with_reducible first | exact HB.out | apply ak | apply ah | apply au) | exact HB.out))):w.heap.size ≤ dN));have jH:=aj.mk ((by rw [hg];exact (bL (by repeat (first | (with_reducible first | exact HB.out | apply ak | apply ah | apply au) | exact HB.out))):w.heap.size ≤ dN));clear HB;have HB:=dZ;have bU:=gZ;have AU:=je;have kH:=jH;clear dZ gZ je jH;clear hb gW hg;have Qv:w20.cell? ⟨dN,0,none⟩ = some (.int .i64 0):=(aM bU.out 0).trans rfl;have Qw:w20.cell? ⟨dN,1,none⟩ = some (.int .i64 0):=(aM bU.out 1).trans rfl;have Qx:w20.cell? ⟨dN,2,none⟩ = some (.int .i64 0):=(aM bU.out 2).trans rfl;have Qy:=ay bU.out 0;have Qz:=ay bU.out 1;have QA:=ay bU.out 2) | (go_at_call 117;(with_reducible refine (bn.calls k t160 false _ Sq.out).mono ?_);rintro e w' ⟨rfl,⟨nd,rfl⟩⟩))
          go_ret2
          exact ⟨by first | rfl | (simp [aJ,aK] <;> rfl) | (simp [*,aJ,aK] <;> rfl),by repeat (first | (with_reducible first | exact HB.out | apply ak | apply ah | apply au | refine aR ?_ kH.out) | exact HB.out)⟩
      · rw [if_neg c9] at H
        have uD:(a3 == 16) = false:=beq_eq_false_iff_ne.mpr c9
        have EM:(a3 != 16) = true:=bne_iff_ne.mpr c9
        by_cases Dc:(t160.size:Int) > 65535
        · rw [if_pos Dc] at H
          have Ns:decide (65535 < (t160.size:Int)) = true:=decide_eq_true Dc
          have Nt:decide (65535 < t160.size) = true:=decide_eq_true (by omega)
          clear Dc
          simp only [Option.some.injEq,Prod.mk.injEq] at H
          obtain ⟨rfl,rfl⟩:=H
          go_enter Try.func104,Try.ntmps104
          go_wp2_with (first | ((with_reducible refine aQ (f:=99) rfl ?_);refine bQ (some 23) rfl rfl Try.func99 (by kernel_rfl) rfl #[.string a0,.int .i64 a1,.int .i64 a2] rfl (by (try simp only [List.map_toArray,List.map_cons,List.map_nil]);first | done | rfl | (simp only [List.length_drop,List.length_take];rfl) | (simp only [ByteArray.size_append,Int.natCast_add];rfl) | (rw [B.dQ] <;> first | rfl | omega | (simp only [decide_eq_false_iff_not,decide_eq_true_eq,Int.not_lt,Nat.not_lt,gt_iff_lt] at * <;> omega))) ?_;(with_reducible refine (bC.calls a0 a1 a2 t160 true _ A5.out).mono ?_);rintro e w' ⟨rfl,⟨nd,rfl⟩⟩;refine ⟨_,rfl,?_⟩) | ((with_reducible refine aQ (f:=106) rfl ?_);refine bQ (some 29) rfl rfl Try.func106 (by kernel_rfl) rfl #[.int .i64 a3] rfl (by (try simp only [List.map_toArray,List.map_cons,List.map_nil]);first | done | rfl | (simp only [List.length_drop,List.length_take];rfl) | (simp only [ByteArray.size_append,Int.natCast_add];rfl) | (rw [B.dQ] <;> first | rfl | omega | (simp only [decide_eq_false_iff_not,decide_eq_true_eq,Int.not_lt,Nat.not_lt,gt_iff_lt] at * <;> omega))) ?_;(with_reducible refine (aH.calls k a3 t162 kE t164 _ A7.out).mono ?_);rintro e w23 ⟨rfl,hb⟩;refine ⟨_,rfl,?_⟩;have dZ:=aj.mk (bE (by repeat (first | (with_reducible first | exact HB.out | apply ak | apply ah | apply au) | exact HB.out)) hb);clear HB;have HB:=dZ;clear dZ;(try clear hb);(try clear hb2);(try clear hk);(try clear hi)) | ((with_reducible refine gI (N:=12) rfl ?_);(try (refine jr (by rfl) ?_;dsimp only));refine fT ?hg (N:=12) ?hd (cs:=#[.int .i64 0,.int .i64 0,.int .i64 0]) (t:=142) ?hr ?_;(case hd=>rfl);(case hg=>rfl);(case hr=>first | (go_simp;done) | (go_simp;rfl));intro dN hg w24 gW hb;have dZ:=aj.mk (bE (by repeat (first | (with_reducible first | exact HB.out | apply ak | apply ah | apply au) | exact HB.out)) hb);have gZ:=aj.mk (gW);have je:=aj.mk ((by rw [hg];exact (bL (by repeat (first | (with_reducible first | exact HB.out | apply ak | apply ah | apply au) | exact HB.out))):w.heap.size ≤ dN));have jH:=aj.mk ((by rw [hg];exact (bL (by repeat (first | (with_reducible first | exact HB.out | apply ak | apply ah | apply au) | exact HB.out))):w.heap.size ≤ dN));clear HB;have HB:=dZ;have bU:=gZ;have AU:=je;have kH:=jH;clear dZ gZ je jH;clear hb gW hg;have QB:w24.cell? ⟨dN,0,none⟩ = some (.int .i64 0):=(aM bU.out 0).trans rfl;have QC:w24.cell? ⟨dN,1,none⟩ = some (.int .i64 0):=(aM bU.out 1).trans rfl;have QD:w24.cell? ⟨dN,2,none⟩ = some (.int .i64 0):=(aM bU.out 2).trans rfl;have QE:=ay bU.out 0;have QF:=ay bU.out 1;have QG:=ay bU.out 2))
          go_ret2
          exact ⟨by first | rfl | (simp [aJ,aK] <;> rfl) | (simp [*,aJ,aK] <;> rfl),by repeat (first | (with_reducible first | exact HB.out | apply ak | apply ah | apply au | refine aR ?_ kH.out) | exact HB.out)⟩
        · rw [if_neg Dc] at H
          have Ns:decide (65535 < (t160.size:Int)) = false:=decide_eq_false Dc
          have Nt:decide (65535 < t160.size) = false:=decide_eq_false (by omega)
          clear Dc
          simp only [Option.some.injEq,Prod.mk.injEq] at H
          obtain ⟨rfl,rfl⟩:=H
          go_enter Try.func104,Try.ntmps104
          go_wp2_with (first | ((with_reducible refine aQ (f:=99) rfl ?_);refine bQ (some 23) rfl rfl Try.func99 (by kernel_rfl) rfl #[.string a0,.int .i64 a1,.int .i64 a2] rfl (by (try simp only [List.map_toArray,List.map_cons,List.map_nil]);first | done | rfl | (simp only [List.length_drop,List.length_take];rfl) | (simp only [ByteArray.size_append,Int.natCast_add];rfl) | (rw [B.dQ] <;> first | rfl | omega | (simp only [decide_eq_false_iff_not,decide_eq_true_eq,Int.not_lt,Nat.not_lt,gt_iff_lt] at * <;> omega))) ?_;(with_reducible refine (bC.calls a0 a1 a2 t160 true _ A5.out).mono ?_);rintro e w' ⟨rfl,⟨nd,rfl⟩⟩;refine ⟨_,rfl,?_⟩) | ((with_reducible refine aQ (f:=106) rfl ?_);refine bQ (some 29) rfl rfl Try.func106 (by kernel_rfl) rfl #[.int .i64 a3] rfl (by (try simp only [List.map_toArray,List.map_cons,List.map_nil]);first | done | rfl | (simp only [List.length_drop,List.length_take];rfl) | (simp only [ByteArray.size_append,Int.natCast_add];rfl) | (rw [B.dQ] <;> first | rfl | omega | (simp only [decide_eq_false_iff_not,decide_eq_true_eq,Int.not_lt,Nat.not_lt,gt_iff_lt] at * <;> omega))) ?_;(with_reducible refine (aH.calls k a3 t162 kE t164 _ A7.out).mono ?_);rintro e w26 ⟨rfl,hb⟩;refine ⟨_,rfl,?_⟩;have dZ:=aj.mk (bE (by repeat (first | (with_reducible first | exact HB.out | apply ak | apply ah | apply au) | exact HB.out)) hb);clear HB;have HB:=dZ;clear dZ;(try clear hb);(try clear hb2);(try clear hk);(try clear hi)) | ((with_reducible refine gI (N:=12) rfl ?_);(try (refine jr (by rfl) ?_;dsimp only));refine fT ?hg (N:=12) ?hd (cs:=#[.int .i64 0,.int .i64 0,.int .i64 0]) (t:=142) ?hr ?_;(case hd=>rfl);(case hg=>rfl);(case hr=>first | (go_simp;done) | (go_simp;rfl));intro dN hg w27 gW hb;have dZ:=aj.mk (bE (by repeat (first | (with_reducible first | exact HB.out | apply ak | apply ah | apply au) | exact HB.out)) hb);have gZ:=aj.mk (gW);have je:=aj.mk ((by rw [hg];exact (bL (by repeat (first | (with_reducible first | exact HB.out | apply ak | apply ah | apply au) | exact HB.out))):w.heap.size ≤ dN));have jH:=aj.mk ((by rw [hg];exact (bL (by repeat (first | (with_reducible first | exact HB.out | apply ak | apply ah | apply au) | exact HB.out))):w.heap.size ≤ dN));clear HB;have HB:=dZ;have bU:=gZ;have AU:=je;have kH:=jH;clear dZ gZ je jH;clear hb gW hg;have QH:w27.cell? ⟨dN,0,none⟩ = some (.int .i64 0):=(aM bU.out 0).trans rfl;have QI:w27.cell? ⟨dN,1,none⟩ = some (.int .i64 0):=(aM bU.out 1).trans rfl;have QJ:w27.cell? ⟨dN,2,none⟩ = some (.int .i64 0):=(aM bU.out 2).trans rfl;have QK:=ay bU.out 0;have QL:=ay bU.out 1;have QM:=ay bU.out 2))
          go_ret2
          exact ⟨by first | rfl | (simp [aJ,aK] <;> rfl) | (simp [*,aJ,aK] <;> rfl),by repeat (first | (with_reducible first | exact HB.out | apply ak | apply ah | apply au | refine aR ?_ kH.out) | exact HB.out)⟩
    · rw [if_neg c8] at H
      have rW:(t162 == 0 && (kE == 0 && (t164 == 0))) = false:=by simpa using c8
      (try (have rX:decide (t162 = 0 && (kE == 0 && (t164 == 0))) = false:=by simpa using c8))
      (try (have M4:(t162 == 0 && (kE == 0 && (t164 == 0))) = false:=by simpa using c8))
      (try (have Zu:¬ (t162 = 0 && (kE == 0 && (t164 == 0))):=by simpa using c8))
      clear c8
      by_cases Jo:t162 > a2
      · rw [if_pos Jo] at H
        have SF:decide (a2 < t162) = true:=decide_eq_true Jo
        clear Jo
        simp only [Option.some.injEq,Prod.mk.injEq] at H
        obtain ⟨rfl,rfl⟩:=H
        go_enter Try.func104,Try.ntmps104
        go_wp2_with (first | ((with_reducible refine aQ (f:=99) rfl ?_);refine bQ (some 23) rfl rfl Try.func99 (by kernel_rfl) rfl #[.string a0,.int .i64 a1,.int .i64 a2] rfl (by (try simp only [List.map_toArray,List.map_cons,List.map_nil]);first | done | rfl | (simp only [List.length_drop,List.length_take];rfl) | (simp only [ByteArray.size_append,Int.natCast_add];rfl) | (rw [B.dQ] <;> first | rfl | omega | (simp only [decide_eq_false_iff_not,decide_eq_true_eq,Int.not_lt,Nat.not_lt,gt_iff_lt] at * <;> omega))) ?_;(with_reducible refine (bC.calls a0 a1 a2 t160 true _ A5.out).mono ?_);rintro e w' ⟨rfl,⟨nd,rfl⟩⟩;refine ⟨_,rfl,?_⟩) | ((with_reducible refine aQ (f:=106) rfl ?_);refine bQ (some 29) rfl rfl Try.func106 (by kernel_rfl) rfl #[.int .i64 a3] rfl (by (try simp only [List.map_toArray,List.map_cons,List.map_nil]);first | done | rfl | (simp only [List.length_drop,List.length_take];rfl) | (simp only [ByteArray.size_append,Int.natCast_add];rfl) | (rw [B.dQ] <;> first | rfl | omega | (simp only [decide_eq_false_iff_not,decide_eq_true_eq,Int.not_lt,Nat.not_lt,gt_iff_lt] at * <;> omega))) ?_;(with_reducible refine (aH.calls k a3 t162 kE t164 _ A7.out).mono ?_);rintro e w30 ⟨rfl,hb⟩;refine ⟨_,rfl,?_⟩;have dZ:=aj.mk (bE (by repeat (first | (with_reducible first | exact HB.out | apply ak | apply ah | apply au) | exact HB.out)) hb);clear HB;have HB:=dZ;clear dZ;(try clear hb);(try clear hb2);(try clear hk);(try clear hi)) | ((with_reducible refine gI (N:=12) rfl ?_);(try (refine jr (by rfl) ?_;dsimp only));refine fT ?hg (N:=12) ?hd (cs:=#[.int .i64 0,.int .i64 0,.int .i64 0]) (t:=142) ?hr ?_;(case hd=>rfl);(case hg=>rfl);(case hr=>first | (go_simp;done) | (go_simp;rfl));intro dN hg w31 gW hb;have dZ:=aj.mk (bE (by repeat (first | (with_reducible first | exact HB.out | apply ak | apply ah | apply au) | exact HB.out)) hb);have gZ:=aj.mk (gW);have je:=aj.mk ((by rw [hg];exact (bL (by repeat (first | (with_reducible first | exact HB.out | apply ak | apply ah | apply au) | exact HB.out))):w.heap.size ≤ dN));have jH:=aj.mk ((by rw [hg];exact (bL (by repeat (first | (with_reducible first | exact HB.out | apply ak | apply ah | apply au) | exact HB.out))):w.heap.size ≤ dN));clear HB;have HB:=dZ;have bU:=gZ;have AU:=je;have kH:=jH;clear dZ gZ je jH;clear hb gW hg;have Iz:w31.cell? ⟨dN,0,none⟩ = some (.int .i64 0):=(aM bU.out 0).trans rfl;have IB:w31.cell? ⟨dN,1,none⟩ = some (.int .i64 0):=(aM bU.out 1).trans rfl;have IC:w31.cell? ⟨dN,2,none⟩ = some (.int .i64 0):=(aM bU.out 2).trans rfl;have IE:=ay bU.out 0;have IG:=ay bU.out 1;have II:=ay bU.out 2))
        go_ret2
        exact ⟨by first | rfl | (simp [aJ,aK] <;> rfl) | (simp [*,aJ,aK] <;> rfl),by repeat (first | (with_reducible first | exact HB.out | apply ak | apply ah | apply au | refine aR ?_ kH.out) | exact HB.out)⟩
      · rw [if_neg Jo] at H
        have SF:decide (a2 < t162) = false:=decide_eq_false Jo
        clear Jo
        by_cases OO:0 ≤ t162
        · rw [if_pos OO] at H
          have aap:=eq_true OO
          have aaq:decide (0 ≤ t162) = true:=decide_eq_true OO
          clear OO
          by_cases c34:t162 ≤ (t160.size:Int)
          · rw [if_pos c34] at H
            have aar:=eq_true c34
            have aas:decide (t162 ≤ (t160.size:Int)) = true:=decide_eq_true c34
            clear c34
            have H':=aj.mk H
            clear H
            go_enter Try.func104,Try.ntmps104
            go_wp2_with (first | ((with_reducible refine aQ (f:=99) rfl ?_);refine bQ (some 23) rfl rfl Try.func99 (by kernel_rfl) rfl #[.string a0,.int .i64 a1,.int .i64 a2] rfl (by (try simp only [List.map_toArray,List.map_cons,List.map_nil]);first | done | rfl | (simp only [List.length_drop,List.length_take];rfl) | (simp only [ByteArray.size_append,Int.natCast_add];rfl) | (rw [B.dQ] <;> first | rfl | omega | (simp only [decide_eq_false_iff_not,decide_eq_true_eq,Int.not_lt,Nat.not_lt,gt_iff_lt] at * <;> omega))) ?_;(with_reducible refine (bC.calls a0 a1 a2 t160 true _ A5.out).mono ?_);rintro e w' ⟨rfl,⟨nd,rfl⟩⟩;refine ⟨_,rfl,?_⟩) | ((with_reducible refine aQ (f:=106) rfl ?_);refine bQ (some 29) rfl rfl Try.func106 (by kernel_rfl) rfl #[.int .i64 a3] rfl (by (try simp only [List.map_toArray,List.map_cons,List.map_nil]);first | done | rfl | (simp only [List.length_drop,List.length_take];rfl) | (simp only [ByteArray.size_append,Int.natCast_add];rfl) | (rw [B.dQ] <;> first | rfl | omega | (simp only [decide_eq_false_iff_not,decide_eq_true_eq,Int.not_lt,Nat.not_lt,gt_iff_lt] at * <;> omega))) ?_;(with_reducible refine (aH.calls k a3 t162 kE t164 _ A7.out).mono ?_);rintro e w35 ⟨rfl,hb⟩;refine ⟨_,rfl,?_⟩;have dZ:=aj.mk (bE (by repeat (first | (with_reducible first | exact HB.out | apply ak | apply ah | apply au) | exact HB.out)) hb);clear HB;have HB:=dZ;clear dZ;(try clear hb);(try clear hb2);(try clear hk);(try clear hi)) | ((with_reducible refine gI (N:=12) rfl ?_);(try (refine jr (by rfl) ?_;dsimp only));refine fT ?hg (N:=12) ?hd (cs:=#[.int .i64 0,.int .i64 0,.int .i64 0]) (t:=142) ?hr ?_;(case hd=>rfl);(case hg=>rfl);(case hr=>first | (go_simp;done) | (go_simp;rfl));intro dN hg w36 gW hb;have dZ:=aj.mk (bE (by repeat (first | (with_reducible first | exact HB.out | apply ak | apply ah | apply au) | exact HB.out)) hb);have gZ:=aj.mk (gW);have je:=aj.mk ((by rw [hg];exact (bL (by repeat (first | (with_reducible first | exact HB.out | apply ak | apply ah | apply au) | exact HB.out))):w.heap.size ≤ dN));have jH:=aj.mk ((by rw [hg];exact (bL (by repeat (first | (with_reducible first | exact HB.out | apply ak | apply ah | apply au) | exact HB.out))):w.heap.size ≤ dN));clear HB;have HB:=dZ;have bU:=gZ;have AU:=je;have kH:=jH;clear dZ gZ je jH;clear hb gW hg;have QN:w36.cell? ⟨dN,0,none⟩ = some (.int .i64 0):=(aM bU.out 0).trans rfl;have QO:w36.cell? ⟨dN,1,none⟩ = some (.int .i64 0):=(aM bU.out 1).trans rfl;have QS:w36.cell? ⟨dN,2,none⟩ = some (.int .i64 0):=(aM bU.out 2).trans rfl;have QT:=ay bU.out 0;have QU:=ay bU.out 1;have QV:=ay bU.out 2))
            go_loopg [13,14,15] k (fun kq v13 v14 v15 w'=>∃ (dG:ByteArray) (bR:Int) (vY:Int),v13 = .string dG ∧ v14 = .int .i64 bR ∧ v15 = .int .i64 vY ∧ aj (aX.l0 kq a0 a1 a2 dG bR vY t162 kE t164 = some (r1,r2)) ∧ aj (kq ≤ k) ∧ aj (w'.heap[dN]? = some (.cells #[.int .i64 t162,.int .i64 kE,.int .i64 t164] 142 (0,0))) ∧ aj (Below w.heap.size w w'))
            case atStart=>exact ⟨(t160.extract 0 (t162:Int).toNat),(wrap64 (a1 + t162)),(0),(by first | rfl | (simp;done) | (simp [*];done) | (simp [B.aV];done) | (simp [B.aW];done)),(by first | rfl | (simp;done) | (simp [*];done) | (simp [B.aV];done) | (simp [B.aW];done)),(by first | rfl | (simp;done) | (simp [*];done) | (simp [B.aV];done) | (simp [B.aW];done)),H',⟨Nat.le_refl _⟩,⟨by (with_reducible repeat (first | refine aG ?_ _ | refine aI ?_ | refine aA ?_ _));refine bV (cs:=#[.int .i64 t162,.int .i64 kE,.int .i64 0]) ?_ 2 _ rfl;(with_reducible repeat (first | refine aG ?_ _ | refine aI ?_ | refine aA ?_ _));refine bV (cs:=#[.int .i64 t162,.int .i64 0,.int .i64 0]) ?_ 1 _ rfl;(with_reducible repeat (first | refine aG ?_ _ | refine aI ?_ | refine aA ?_ _));refine bV (cs:=#[.int .i64 0,.int .i64 0,.int .i64 0]) ?_ 0 _ rfl;(with_reducible repeat (first | refine aG ?_ _ | refine aI ?_ | refine aA ?_ _));exact bU.out⟩,⟨by repeat (first | (with_reducible first | exact HB.out | apply ak | apply ah | apply au | refine aR ?_ kH.out) | exact HB.out)⟩⟩
            case round =>
              clear H'
              try clear c1
              try clear c2
              try clear p2
              try clear c3
              try clear c6
              try clear p6
              try clear c8
              try clear rW
              try clear rX
              try clear M4
              try clear c9
              try clear uD
              try clear EM
              try clear c10
              try clear c11
              try clear c12
              try clear uE
              try clear uF
              try clear Dc
              try clear Ns
              try clear Nt
              try clear Jo
              try clear SF
              try clear OO
              try clear aap
              try clear aaq
              try clear c34
              try clear aar
              try clear aas
              try clear CO
              try clear CP
              try clear CQ
              try clear IJ
              try clear IK
              try clear IL
              try clear Qv
              try clear Qw
              try clear Qx
              try clear QB
              try clear QC
              try clear QD
              try clear QH
              try clear QI
              try clear QJ
              try clear Iz
              try clear IB
              try clear IC
              try clear QN
              try clear QO
              try clear QS
              try clear CS
              try clear CU
              try clear CW
              try clear IQ
              try clear IU
              try clear IV
              try clear Qy
              try clear Qz
              try clear QA
              try clear QE
              try clear QF
              try clear QG
              try clear QK
              try clear QL
              try clear QM
              try clear IE
              try clear IG
              try clear II
              try clear QT
              try clear QU
              try clear QV
              obtain ⟨dG,bR,vY,rfl,rfl,rfl,HA,uz,bU,HB⟩:=hrel
              cases gk with
              | zero=>exact absurd HA.out (by simp [aX.l0])
              | succ k1 =>
                have H:=HA.out
                clear HA
                simp only [aX.l0] at H
                by_cases Kz:vY < kE
                · rw [if_pos Kz] at H
                  have SC:decide (vY < kE) = true:=decide_eq_true Kz
                  clear Kz
                  replace H:=zbm H
                  obtain ⟨⟨t167,t168,EY⟩,aat,H⟩:=H
                  replace H:(if EY = 0 then (if dG.size + t167.size ≤ 9223372036854775807 then (aX.l0 k1 a0 a1 a2 (dG ++ t167) t168 (wrap64 (vY + 1)) t162 kE t164) else (none)) else (some ((⟨#[]⟩:ByteArray),4))) = some (r1,r2):=H
                  have A39:=aj.mk aat
                  clear aat
                  by_cases c40:EY = 0
                  · rw [if_pos c40] at H
                    have aau:(EY == 0) = true:=beq_iff_eq.mpr c40
                    have aav:(EY != 0) = false:=bne_eq_false_iff_eq.mpr c40
                    clear c40
                    by_cases c41:dG.size + t167.size ≤ 9223372036854775807
                    · rw [if_pos c41] at H
                      have agR:=eq_true c41
                      have agS:decide (dG.size + t167.size ≤ 9223372036854775807) = true:=decide_eq_true c41
                      try have agT:(9223372036854775807 < dG.size + t167.size) = False:=eq_false (Nat.not_lt.2 c41)
                      have H':=aj.mk H
                      clear H
                      have Qm:wr.cell? ⟨dN,0,none⟩ = some (.int .i64 t162):=(aM bU.out 0).trans rfl
                      have Qo:wr.cell? ⟨dN,1,none⟩ = some (.int .i64 kE):=(aM bU.out 1).trans rfl
                      have Qp:wr.cell? ⟨dN,2,none⟩ = some (.int .i64 t164):=(aM bU.out 2).trans rfl
                      have Qq:=ay bU.out 0
                      have Qr:=ay bU.out 1
                      have Qs:=ay bU.out 2
                      go_wp2_with (first | ((with_reducible refine aQ (f:=118) rfl ?_);refine bQ (some 67) rfl rfl Try.func118 (by kernel_rfl) rfl #[.string a0,.int .i64 bR] rfl (by (try simp only [List.map_toArray,List.map_cons,List.map_nil]);first | done | rfl | (simp only [List.length_drop,List.length_take];rfl) | (simp only [ByteArray.size_append,Int.natCast_add];rfl) | (rw [B.dQ] <;> first | rfl | omega | (simp only [decide_eq_false_iff_not,decide_eq_true_eq,Int.not_lt,Nat.not_lt,gt_iff_lt] at * <;> omega))) ?_;(with_reducible refine (aU.calls k1 a0 bR t167 t168 EY _ A39.out).mono ?_);rintro e w' ⟨rfl,⟨nd,rfl⟩⟩;refine ⟨_,rfl,?_⟩))
                      go_roundg k1
                      case measure=>have:=uz.out;omega
                      case rel=>exact ⟨(dG ++ t167),(t168),(wrap64 (vY + 1)),(by first | rfl | (simp;done) | (simp [*];done) | (simp [B.aV];done) | (simp [B.aW];done)),(by first | rfl | (simp;done) | (simp [*];done) | (simp [B.aV];done) | (simp [B.aW];done)),(by first | rfl | (simp;done) | (simp [*];done) | (simp [B.aV];done) | (simp [B.aW];done)),H',⟨by have:=uz.out;omega⟩,⟨by (with_reducible repeat (first | refine aG ?_ _ | refine aI ?_ | refine aA ?_ _));exact bU.out⟩,⟨by repeat (first | (with_reducible first | exact HB.out | apply ak | apply ah | apply au | refine aR ?_ kH.out) | exact HB.out)⟩⟩
                    · rw [if_neg c41] at H
                      exact absurd H (by simp)
                  · rw [if_neg c40] at H
                    have aau:(EY == 0) = false:=beq_eq_false_iff_ne.mpr c40
                    have aav:(EY != 0) = true:=bne_iff_ne.mpr c40
                    simp only [Option.some.injEq,Prod.mk.injEq] at H
                    obtain ⟨rfl,rfl⟩:=H
                    have ac2:wr.cell? ⟨dN,0,none⟩ = some (.int .i64 t162):=(aM bU.out 0).trans rfl
                    have ac3:wr.cell? ⟨dN,1,none⟩ = some (.int .i64 kE):=(aM bU.out 1).trans rfl
                    have ac4:wr.cell? ⟨dN,2,none⟩ = some (.int .i64 t164):=(aM bU.out 2).trans rfl
                    have ac5:=ay bU.out 0
                    have ac6:=ay bU.out 1
                    have ac7:=ay bU.out 2
                    go_wp2_with (first | ((with_reducible refine aQ (f:=118) rfl ?_);refine bQ (some 67) rfl rfl Try.func118 (by kernel_rfl) rfl #[.string a0,.int .i64 bR] rfl (by (try simp only [List.map_toArray,List.map_cons,List.map_nil]);first | done | rfl | (simp only [List.length_drop,List.length_take];rfl) | (simp only [ByteArray.size_append,Int.natCast_add];rfl) | (rw [B.dQ] <;> first | rfl | omega | (simp only [decide_eq_false_iff_not,decide_eq_true_eq,Int.not_lt,Nat.not_lt,gt_iff_lt] at * <;> omega))) ?_;(with_reducible refine (aU.calls k1 a0 bR t167 t168 EY _ A39.out).mono ?_);rintro e w' ⟨rfl,⟨nd,rfl⟩⟩;refine ⟨_,rfl,?_⟩))
                    go_ret2
                    exact ⟨by first | rfl | (simp [aJ,aK] <;> rfl) | (simp [*,aJ,aK] <;> rfl),by repeat (first | (with_reducible first | exact HB.out | apply ak | apply ah | apply au | refine aR ?_ kH.out) | exact HB.out)⟩
                · rw [if_neg Kz] at H
                  have SC:decide (vY < kE) = false:=decide_eq_false Kz
                  clear Kz
                  by_cases Nu:(wrap64 (bR + t164)) = (wrap64 (a1 + a2))
                  · rw [if_pos Nu] at H
                    have aaw:((wrap64 (bR + t164)) == (wrap64 (a1 + a2))) = true:=beq_iff_eq.mpr Nu
                    have aax:((wrap64 (bR + t164)) != (wrap64 (a1 + a2))) = false:=bne_eq_false_iff_eq.mpr Nu
                    (try (have aay:(((bR + t164)) == ((a1 + a2))) = true:=by have h_:((wrap64 (bR + t164)) == (wrap64 (a1 + a2))) = true:=beq_iff_eq.mpr Nu;rw [B.dQ (by omega) (by omega)] at h_;rw [B.dQ (by omega) (by omega)] at h_;exact h_))
                    (try (have aaz:(((bR + t164)) != ((a1 + a2))) = false:=by have h_:((wrap64 (bR + t164)) != (wrap64 (a1 + a2))) = false:=bne_eq_false_iff_eq.mpr Nu;rw [B.dQ (by omega) (by omega)] at h_;rw [B.dQ (by omega) (by omega)] at h_;exact h_))
                    clear Nu
                    by_cases c45:0 ≤ bR
                    · rw [if_pos c45] at H
                      have agU:=eq_true c45
                      have agV:decide (0 ≤ bR) = true:=decide_eq_true c45
                      clear c45
                      by_cases c46:bR ≤ (wrap64 (a1 + a2))
                      · rw [if_pos c46] at H
                        have agW:=eq_true c46
                        have agX:decide (bR ≤ (wrap64 (a1 + a2))) = true:=decide_eq_true c46
                        by_cases c47:(wrap64 (a1 + a2)) ≤ (a0.size:Int)
                        · rw [if_pos c47] at H
                          have agY:=eq_true c47
                          have agZ:decide ((wrap64 (a1 + a2)) ≤ (a0.size:Int)) = true:=decide_eq_true c47
                          by_cases c48:dG.size + (a0.extract (bR:Int).toNat ((wrap64 (a1 + a2)):Int).toNat).size ≤ 9223372036854775807
                          · rw [if_pos c48] at H
                            have ag0:=eq_true c48
                            have ag1:decide (dG.size + (a0.extract (bR:Int).toNat ((wrap64 (a1 + a2)):Int).toNat).size ≤ 9223372036854775807) = true:=decide_eq_true c48
                            try have ag2:(9223372036854775807 < dG.size + (a0.extract (bR:Int).toNat ((wrap64 (a1 + a2)):Int).toNat).size) = False:=eq_false (Nat.not_lt.2 c48)
                            by_cases c49:((dG ++ (a0.extract (bR:Int).toNat ((wrap64 (a1 + a2)):Int).toNat)).size:Int) > 65535
                            · rw [if_pos c49] at H
                              have aaA:decide (65535 < ((dG ++ (a0.extract (bR:Int).toNat ((wrap64 (a1 + a2)):Int).toNat)).size:Int)) = true:=decide_eq_true c49
                              have aaB:decide (65535 < (dG ++ (a0.extract (bR:Int).toNat ((wrap64 (a1 + a2)):Int).toNat)).size) = true:=decide_eq_true (by omega)
                              (try (have aaC:decide (65535 < ((dG.size:Int) + ((a0.extract (bR:Int).toNat ((wrap64 (a1 + a2)):Int).toNat).size:Int))) = true:=by have h_:decide (65535 < ((dG ++ (a0.extract (bR:Int).toNat ((wrap64 (a1 + a2)):Int).toNat)).size:Int)) = true:=decide_eq_true c49;rw [show ((dG ++ (a0.extract (bR:Int).toNat ((wrap64 (a1 + a2)):Int).toNat)).size:Int) = ((dG.size:Int) + ((a0.extract (bR:Int).toNat ((wrap64 (a1 + a2)):Int).toNat).size:Int)) from by (simp only [ByteArray.size_append,Int.natCast_add];first | done | rfl)] at h_;(first | exact h_ | (simp only [Int.add_sub_cancel] at h_;exact h_))))
                              (try (have aaD:decide (65535 < ((dG.size:Int) + ((((wrap64 (a1 + a2)):Int).toNat - (bR:Int).toNat:Nat):Int))) = true:=by have h_:decide (65535 < ((dG ++ (a0.extract (bR:Int).toNat ((wrap64 (a1 + a2)):Int).toNat)).size:Int)) = true:=decide_eq_true c49;rw [show ((dG ++ (a0.extract (bR:Int).toNat ((wrap64 (a1 + a2)):Int).toNat)).size:Int) = ((dG.size:Int) + ((a0.extract (bR:Int).toNat ((wrap64 (a1 + a2)):Int).toNat).size:Int)) from by (simp only [ByteArray.size_append,Int.natCast_add];first | done | rfl)] at h_;rw [show ((a0.extract (bR:Int).toNat ((wrap64 (a1 + a2)):Int).toNat).size:Int) = ((((wrap64 (a1 + a2)):Int).toNat - (bR:Int).toNat:Nat):Int) from by (have h1_:(wrap64 (a1 + a2)) ≤ (a0.size:Int):=of_decide_eq_true (by assumption);rw [ByteArray.size_extract];omega)] at h_;exact h_))
                              (try (have aaE:decide (65535 < ((dG ++ (a0.extract (bR:Int).toNat (((a1 + a2)):Int).toNat)).size:Int)) = true:=by have h_:decide (65535 < ((dG ++ (a0.extract (bR:Int).toNat ((wrap64 (a1 + a2)):Int).toNat)).size:Int)) = true:=decide_eq_true c49;rw [B.dQ (by omega) (by omega)] at h_;exact h_))
                              (try (have aaF:decide (65535 < (dG ++ (a0.extract (bR:Int).toNat (((a1 + a2)):Int).toNat)).size) = true:=by have h_:decide (65535 < (dG ++ (a0.extract (bR:Int).toNat ((wrap64 (a1 + a2)):Int).toNat)).size) = true:=decide_eq_true (by omega);rw [B.dQ (by omega) (by omega)] at h_;exact h_))
                              (try (have aaG:decide (65535 < ((dG.size:Int) + ((a0.extract (bR:Int).toNat (((a1 + a2)):Int).toNat).size:Int))) = true:=by have h_:decide (65535 < ((dG.size:Int) + ((a0.extract (bR:Int).toNat ((wrap64 (a1 + a2)):Int).toNat).size:Int))) = true:=by have h_:decide (65535 < ((dG ++ (a0.extract (bR:Int).toNat ((wrap64 (a1 + a2)):Int).toNat)).size:Int)) = true:=decide_eq_true c49;rw [show ((dG ++ (a0.extract (bR:Int).toNat ((wrap64 (a1 + a2)):Int).toNat)).size:Int) = ((dG.size:Int) + ((a0.extract (bR:Int).toNat ((wrap64 (a1 + a2)):Int).toNat).size:Int)) from by (simp only [ByteArray.size_append,Int.natCast_add];first | done | rfl)] at h_;(first | exact h_ | (simp only [Int.add_sub_cancel] at h_;exact h_));rw [B.dQ (by omega) (by omega)] at h_;exact h_))
                              (try (have aaH:decide (65535 < ((dG.size:Int) + (((((a1 + a2)):Int).toNat - (bR:Int).toNat:Nat):Int))) = true:=by have h_:decide (65535 < ((dG.size:Int) + ((((wrap64 (a1 + a2)):Int).toNat - (bR:Int).toNat:Nat):Int))) = true:=by have h_:decide (65535 < ((dG ++ (a0.extract (bR:Int).toNat ((wrap64 (a1 + a2)):Int).toNat)).size:Int)) = true:=decide_eq_true c49;rw [show ((dG ++ (a0.extract (bR:Int).toNat ((wrap64 (a1 + a2)):Int).toNat)).size:Int) = ((dG.size:Int) + ((a0.extract (bR:Int).toNat ((wrap64 (a1 + a2)):Int).toNat).size:Int)) from by (simp only [ByteArray.size_append,Int.natCast_add];first | done | rfl)] at h_;rw [show ((a0.extract (bR:Int).toNat ((wrap64 (a1 + a2)):Int).toNat).size:Int) = ((((wrap64 (a1 + a2)):Int).toNat - (bR:Int).toNat:Nat):Int) from by (have h1_:(wrap64 (a1 + a2)) ≤ (a0.size:Int):=of_decide_eq_true (by assumption);rw [ByteArray.size_extract];omega)] at h_;exact h_;rw [B.dQ (by omega) (by omega)] at h_;exact h_))
                              clear c49
                              simp only [Option.some.injEq,Prod.mk.injEq] at H
                              obtain ⟨rfl,rfl⟩:=H
                              have ac8:wr.cell? ⟨dN,0,none⟩ = some (.int .i64 t162):=(aM bU.out 0).trans rfl
                              have ac9:wr.cell? ⟨dN,1,none⟩ = some (.int .i64 kE):=(aM bU.out 1).trans rfl
                              have ada:wr.cell? ⟨dN,2,none⟩ = some (.int .i64 t164):=(aM bU.out 2).trans rfl
                              have adb:=ay bU.out 0
                              have ade:=ay bU.out 1
                              have adf:=ay bU.out 2
                              go_wp2
                              go_ret2
                              exact ⟨by first | rfl | (simp [aJ,aK] <;> rfl) | (simp [*,aJ,aK] <;> rfl),by repeat (first | (with_reducible first | exact HB.out | apply ak | apply ah | apply au | refine aR ?_ kH.out) | exact HB.out)⟩
                            · rw [if_neg c49] at H
                              have aaA:decide (65535 < ((dG ++ (a0.extract (bR:Int).toNat ((wrap64 (a1 + a2)):Int).toNat)).size:Int)) = false:=decide_eq_false c49
                              have aaB:decide (65535 < (dG ++ (a0.extract (bR:Int).toNat ((wrap64 (a1 + a2)):Int).toNat)).size) = false:=decide_eq_false (by omega)
                              (try (have aaC:decide (65535 < ((dG.size:Int) + ((a0.extract (bR:Int).toNat ((wrap64 (a1 + a2)):Int).toNat).size:Int))) = false:=by have h_:decide (65535 < ((dG ++ (a0.extract (bR:Int).toNat ((wrap64 (a1 + a2)):Int).toNat)).size:Int)) = false:=decide_eq_false c49;rw [show ((dG ++ (a0.extract (bR:Int).toNat ((wrap64 (a1 + a2)):Int).toNat)).size:Int) = ((dG.size:Int) + ((a0.extract (bR:Int).toNat ((wrap64 (a1 + a2)):Int).toNat).size:Int)) from by (simp only [ByteArray.size_append,Int.natCast_add];first | done | rfl)] at h_;(first | exact h_ | (simp only [Int.add_sub_cancel] at h_;exact h_))))
                              (try (have aaD:decide (65535 < ((dG.size:Int) + ((((wrap64 (a1 + a2)):Int).toNat - (bR:Int).toNat:Nat):Int))) = false:=by have h_:decide (65535 < ((dG ++ (a0.extract (bR:Int).toNat ((wrap64 (a1 + a2)):Int).toNat)).size:Int)) = false:=decide_eq_false c49;rw [show ((dG ++ (a0.extract (bR:Int).toNat ((wrap64 (a1 + a2)):Int).toNat)).size:Int) = ((dG.size:Int) + ((a0.extract (bR:Int).toNat ((wrap64 (a1 + a2)):Int).toNat).size:Int)) from by (simp only [ByteArray.size_append,Int.natCast_add];first | done | rfl)] at h_;rw [show ((a0.extract (bR:Int).toNat ((wrap64 (a1 + a2)):Int).toNat).size:Int) = ((((wrap64 (a1 + a2)):Int).toNat - (bR:Int).toNat:Nat):Int) from by (have h1_:(wrap64 (a1 + a2)) ≤ (a0.size:Int):=of_decide_eq_true (by assumption);rw [ByteArray.size_extract];omega)] at h_;exact h_))
                              (try (have aaE:decide (65535 < ((dG ++ (a0.extract (bR:Int).toNat (((a1 + a2)):Int).toNat)).size:Int)) = false:=by have h_:decide (65535 < ((dG ++ (a0.extract (bR:Int).toNat ((wrap64 (a1 + a2)):Int).toNat)).size:Int)) = false:=decide_eq_false c49;rw [B.dQ (by omega) (by omega)] at h_;exact h_))
                              (try (have aaF:decide (65535 < (dG ++ (a0.extract (bR:Int).toNat (((a1 + a2)):Int).toNat)).size) = false:=by have h_:decide (65535 < (dG ++ (a0.extract (bR:Int).toNat ((wrap64 (a1 + a2)):Int).toNat)).size) = false:=decide_eq_false (by omega);rw [B.dQ (by omega) (by omega)] at h_;exact h_))
                              (try (have aaG:decide (65535 < ((dG.size:Int) + ((a0.extract (bR:Int).toNat (((a1 + a2)):Int).toNat).size:Int))) = false:=by have h_:decide (65535 < ((dG.size:Int) + ((a0.extract (bR:Int).toNat ((wrap64 (a1 + a2)):Int).toNat).size:Int))) = false:=by have h_:decide (65535 < ((dG ++ (a0.extract (bR:Int).toNat ((wrap64 (a1 + a2)):Int).toNat)).size:Int)) = false:=decide_eq_false c49;rw [show ((dG ++ (a0.extract (bR:Int).toNat ((wrap64 (a1 + a2)):Int).toNat)).size:Int) = ((dG.size:Int) + ((a0.extract (bR:Int).toNat ((wrap64 (a1 + a2)):Int).toNat).size:Int)) from by (simp only [ByteArray.size_append,Int.natCast_add];first | done | rfl)] at h_;(first | exact h_ | (simp only [Int.add_sub_cancel] at h_;exact h_));rw [B.dQ (by omega) (by omega)] at h_;exact h_))
                              (try (have aaH:decide (65535 < ((dG.size:Int) + (((((a1 + a2)):Int).toNat - (bR:Int).toNat:Nat):Int))) = false:=by have h_:decide (65535 < ((dG.size:Int) + ((((wrap64 (a1 + a2)):Int).toNat - (bR:Int).toNat:Nat):Int))) = false:=by have h_:decide (65535 < ((dG ++ (a0.extract (bR:Int).toNat ((wrap64 (a1 + a2)):Int).toNat)).size:Int)) = false:=decide_eq_false c49;rw [show ((dG ++ (a0.extract (bR:Int).toNat ((wrap64 (a1 + a2)):Int).toNat)).size:Int) = ((dG.size:Int) + ((a0.extract (bR:Int).toNat ((wrap64 (a1 + a2)):Int).toNat).size:Int)) from by (simp only [ByteArray.size_append,Int.natCast_add];first | done | rfl)] at h_;rw [show ((a0.extract (bR:Int).toNat ((wrap64 (a1 + a2)):Int).toNat).size:Int) = ((((wrap64 (a1 + a2)):Int).toNat - (bR:Int).toNat:Nat):Int) from by (have h1_:(wrap64 (a1 + a2)) ≤ (a0.size:Int):=of_decide_eq_true (by assumption);rw [ByteArray.size_extract];omega)] at h_;exact h_;rw [B.dQ (by omega) (by omega)] at h_;exact h_))
                              clear c49
                              simp only [Option.some.injEq,Prod.mk.injEq] at H
                              obtain ⟨rfl,rfl⟩:=H
                              have adg:wr.cell? ⟨dN,0,none⟩ = some (.int .i64 t162):=(aM bU.out 0).trans rfl
                              have adh:wr.cell? ⟨dN,1,none⟩ = some (.int .i64 kE):=(aM bU.out 1).trans rfl
                              have adi:wr.cell? ⟨dN,2,none⟩ = some (.int .i64 t164):=(aM bU.out 2).trans rfl
                              have adj:=ay bU.out 0
                              have adk:=ay bU.out 1
                              have adl:=ay bU.out 2
                              go_wp2
                              go_ret2
                              exact ⟨by first | rfl | (simp [aJ,aK] <;> rfl) | (simp [*,aJ,aK] <;> rfl),by repeat (first | (with_reducible first | exact HB.out | apply ak | apply ah | apply au | refine aR ?_ kH.out) | exact HB.out)⟩
                          · rw [if_neg c48] at H
                            exact absurd H (by simp)
                        · rw [if_neg c47] at H
                          exact absurd H (by simp)
                      · rw [if_neg c46] at H
                        exact absurd H (by simp)
                    · rw [if_neg c45] at H
                      exact absurd H (by simp)
                  · rw [if_neg Nu] at H
                    have aaw:((wrap64 (bR + t164)) == (wrap64 (a1 + a2))) = false:=beq_eq_false_iff_ne.mpr Nu
                    have aax:((wrap64 (bR + t164)) != (wrap64 (a1 + a2))) = true:=bne_iff_ne.mpr Nu
                    (try (have aay:(((bR + t164)) == ((a1 + a2))) = false:=by have h_:((wrap64 (bR + t164)) == (wrap64 (a1 + a2))) = false:=beq_eq_false_iff_ne.mpr Nu;rw [B.dQ (by omega) (by omega)] at h_;rw [B.dQ (by omega) (by omega)] at h_;exact h_))
                    (try (have aaz:(((bR + t164)) != ((a1 + a2))) = true:=by have h_:((wrap64 (bR + t164)) != (wrap64 (a1 + a2))) = true:=bne_iff_ne.mpr Nu;rw [B.dQ (by omega) (by omega)] at h_;rw [B.dQ (by omega) (by omega)] at h_;exact h_))
                    simp only [Option.some.injEq,Prod.mk.injEq] at H
                    obtain ⟨rfl,rfl⟩:=H
                    have adn:wr.cell? ⟨dN,0,none⟩ = some (.int .i64 t162):=(aM bU.out 0).trans rfl
                    have ado:wr.cell? ⟨dN,1,none⟩ = some (.int .i64 kE):=(aM bU.out 1).trans rfl
                    have adp:wr.cell? ⟨dN,2,none⟩ = some (.int .i64 t164):=(aM bU.out 2).trans rfl
                    have adq:=ay bU.out 0
                    have adr:=ay bU.out 1
                    have ads:=ay bU.out 2
                    go_wp2
                    go_ret2
                    exact ⟨by first | rfl | (simp [aJ,aK] <;> rfl) | (simp [*,aJ,aK] <;> rfl),by repeat (first | (with_reducible first | exact HB.out | apply ak | apply ah | apply au | refine aR ?_ kH.out) | exact HB.out)⟩
          · rw [if_neg c34] at H
            exact absurd H (by simp)
        · rw [if_neg OO] at H
          exact absurd H (by simp)
  · replace c6:=Bool.eq_false_iff.mpr c6
    subst c6
    have H1:(some ((⟨#[]⟩:ByteArray),2)) = some (r1,r2):=by rw [if_neg (show ¬ (false = true) by decide)] at H;exact H
    clear H
    have H:=H1
    clear H1
    simp only [Option.some.injEq,Prod.mk.injEq] at H
    obtain ⟨rfl,rfl⟩:=H
    go_enter Try.func104,Try.ntmps104
    go_wp2_with (first | ((with_reducible refine aQ (f:=99) rfl ?_);refine bQ (some 23) rfl rfl Try.func99 (by kernel_rfl) rfl #[.string a0,.int .i64 a1,.int .i64 a2] rfl (by (try simp only [List.map_toArray,List.map_cons,List.map_nil]);first | done | rfl | (simp only [List.length_drop,List.length_take];rfl) | (simp only [ByteArray.size_append,Int.natCast_add];rfl) | (rw [B.dQ] <;> first | rfl | omega | (simp only [decide_eq_false_iff_not,decide_eq_true_eq,Int.not_lt,Nat.not_lt,gt_iff_lt] at * <;> omega))) ?_;(with_reducible refine (bC.calls a0 a1 a2 t160 false _ A5.out).mono ?_);rintro e w' ⟨rfl,⟨nd,rfl⟩⟩;refine ⟨_,rfl,?_⟩))
    go_ret2
    exact ⟨by first | rfl | (simp [aJ,aK] <;> rfl) | (simp [*,aJ,aK] <;> rfl),by repeat (first | (with_reducible first | exact HB.out | apply ak | apply ah | apply au) | exact HB.out)⟩
def bS.f (k:Nat) (a0:Int) (a1:ByteArray):Option (Bool):=if (a1.size:Int) > 65535 then (some false) else ((aX.f k a1 0 (a1.size:Int) a0).bind fun EZ=>(if EZ.2 = 0 then (some (EZ.1.toList == a1.toList)) else (some false)))
set_option maxHeartbeats 8000000 in
set_option maxRecDepth 100000 in
theorem bS.calls (k:Nat) (a0:Int) (a1:ByteArray) (r:Bool) (w:World) (h:bS.f k a0 a1 = some r) :
    Calls Try.prog 83 #[.int .i64 a0,.string a1] w fun e w'=>e = .returned (.bool r) ∧ Below w.heap.size w w':=by
  have HB:=aj.mk (Below.refl w.heap.size w)
  have H:(if (a1.size:Int) > 65535 then (some false) else ((aX.f k a1 0 (a1.size:Int) a0).bind fun EZ=>(if EZ.2 = 0 then (some (EZ.1.toList == a1.toList)) else (some false)))) = some r:=h
  clear h
  by_cases c3:(a1.size:Int) > 65535
  · rw [if_pos c3] at H
    have qM:decide (65535 < (a1.size:Int)) = true:=decide_eq_true c3
    have Ct:decide (65535 < a1.size) = true:=decide_eq_true (by omega)
    clear c3
    obtain rfl:=Option.some.inj H
    go_enter Try.func83,Try.ntmps83
    go_wp2
    go_ret
    exact ⟨by first | rfl | (simp [aJ,aK] <;> rfl) | (simp [*,aJ,aK] <;> rfl),by repeat (first | (with_reducible first | exact HB.out | apply ak | apply ah | apply au) | exact HB.out)⟩
  · rw [if_neg c3] at H
    have qM:decide (65535 < (a1.size:Int)) = false:=decide_eq_false c3
    have Ct:decide (65535 < a1.size) = false:=decide_eq_false (by omega)
    clear c3
    replace H:=zbm H
    obtain ⟨⟨VG,t171⟩,EN,H⟩:=H
    replace H:(if t171 = 0 then (some (VG.toList == a1.toList)) else (some false)) = some r:=H
    have A4:=aj.mk EN
    clear EN
    by_cases c5:t171 = 0
    · rw [if_pos c5] at H
      have pK:(t171 == 0) = true:=beq_iff_eq.mpr c5
      have vE:(t171 != 0) = false:=bne_eq_false_iff_eq.mpr c5
      clear c5
      obtain rfl:=Option.some.inj H
      go_enter Try.func83,Try.ntmps83
      go_wp2_with (first | ((with_reducible refine aQ (f:=104) rfl ?_);refine bQ (some 15) rfl rfl Try.func104 (by kernel_rfl) rfl #[.string a1,.int .i64 0,.int .i64 (a1.size:Int),.int .i64 a0] rfl (by (try simp only [List.map_toArray,List.map_cons,List.map_nil]);first | done | rfl | (simp only [List.length_drop,List.length_take];rfl) | (simp only [ByteArray.size_append,Int.natCast_add];rfl) | (rw [B.dQ] <;> first | rfl | omega | (simp only [decide_eq_false_iff_not,decide_eq_true_eq,Int.not_lt,Nat.not_lt,gt_iff_lt] at * <;> omega))) ?_;(with_reducible refine (aX.calls k a1 0 (a1.size:Int) a0 VG t171 _ A4.out).mono ?_);rintro e w6 ⟨rfl,hb⟩;refine ⟨_,rfl,?_⟩;have dZ:=aj.mk (bE (by repeat (first | (with_reducible first | exact HB.out | apply ak | apply ah | apply au) | exact HB.out)) hb);clear HB;have HB:=dZ;clear dZ;(try clear hb);(try clear hb2);(try clear hk);(try clear hi)))
      go_ret
      exact ⟨by first | rfl | (simp [aJ,aK] <;> rfl) | (simp [*,aJ,aK] <;> rfl),by repeat (first | (with_reducible first | exact HB.out | apply ak | apply ah | apply au) | exact HB.out)⟩
    · rw [if_neg c5] at H
      have pK:(t171 == 0) = false:=beq_eq_false_iff_ne.mpr c5
      have vE:(t171 != 0) = true:=bne_iff_ne.mpr c5
      obtain rfl:=Option.some.inj H
      go_enter Try.func83,Try.ntmps83
      go_wp2_with (first | ((with_reducible refine aQ (f:=104) rfl ?_);refine bQ (some 15) rfl rfl Try.func104 (by kernel_rfl) rfl #[.string a1,.int .i64 0,.int .i64 (a1.size:Int),.int .i64 a0] rfl (by (try simp only [List.map_toArray,List.map_cons,List.map_nil]);first | done | rfl | (simp only [List.length_drop,List.length_take];rfl) | (simp only [ByteArray.size_append,Int.natCast_add];rfl) | (rw [B.dQ] <;> first | rfl | omega | (simp only [decide_eq_false_iff_not,decide_eq_true_eq,Int.not_lt,Nat.not_lt,gt_iff_lt] at * <;> omega))) ?_;(with_reducible refine (aX.calls k a1 0 (a1.size:Int) a0 VG t171 _ A4.out).mono ?_);rintro e w7 ⟨rfl,hb⟩;refine ⟨_,rfl,?_⟩;have dZ:=aj.mk (bE (by repeat (first | (with_reducible first | exact HB.out | apply ak | apply ah | apply au) | exact HB.out)) hb);clear HB;have HB:=dZ;clear dZ;(try clear hb);(try clear hb2);(try clear hk);(try clear hi)))
      go_ret
      exact ⟨by first | rfl | (simp [aJ,aK] <;> rfl) | (simp [*,aJ,aK] <;> rfl),by repeat (first | (with_reducible first | exact HB.out | apply ak | apply ah | apply au) | exact HB.out)⟩
def bg.l0 : Nat → ByteArray → List ByteArray → Int → Int → Int → Int → Int → Option (List ByteArray)
  | 0,_,_,_,_,_,_,_=>none
  | k + 1,x1,x5,x7,x8,QW,IZ,QX=>if x8 < IZ then ((aU.f k x1 x7).bind fun SG=>(if x5.length < 8796093022208 then (bg.l0 k x1 (x5 ++ [SG.1]) SG.2.1 (wrap64 (x8 + 1)) QW IZ QX) else (none))) else (some x5)
def bg.f (k:Nat) (a0:Int) (a1:ByteArray):Option (List ByteArray):=(bS.f k a0 a1).bind fun J6=>(if J6 = true then ((aH.f k a0).bind fun kF=>(bg.l0 k a1 ([]:List ByteArray) kF.1 0 kF.1 kF.2.1 kF.2.2)) else (some ([]:List ByteArray)))
set_option maxHeartbeats 8000000 in
set_option maxRecDepth 100000 in
theorem bg.calls (k:Nat) (a0:Int) (a1:ByteArray) (r:List ByteArray) (w:World) (h:bg.f k a0 a1 = some r) :
    Calls Try.prog 105 #[.int .i64 a0,.string a1] w fun e w'=>∃ Sj:Value,e = .returned (Sj) ∧ Kd.R Kd.string 9 w' w.heap.size (fun _=>True) Sj r ∧ Below w.heap.size w w':=by
  have Nj:=Try.underlying142
  have HB:=aj.mk (Below.refl w.heap.size w)
  have H:((bS.f k a0 a1).bind fun J6=>(if J6 = true then ((aH.f k a0).bind fun kF=>(bg.l0 k a1 ([]:List ByteArray) kF.1 0 kF.1 kF.2.1 kF.2.2)) else (some ([]:List ByteArray)))) = some r:=h
  clear h
  replace H:=zbm H
  obtain ⟨J6,Sn,H⟩:=H
  replace H:(if J6 = true then ((aH.f k a0).bind fun kF=>(bg.l0 k a1 ([]:List ByteArray) kF.1 0 kF.1 kF.2.1 kF.2.2)) else (some ([]:List ByteArray))) = some r:=H
  have A3:=aj.mk Sn
  clear Sn
  by_cases c4:J6 = true
  · subst c4
    have H1:((aH.f k a0).bind fun kF=>(bg.l0 k a1 ([]:List ByteArray) kF.1 0 kF.1 kF.2.1 kF.2.2)) = some r:=by rw [if_pos rfl] at H;exact H
    clear H
    have H:=H1
    clear H1
    replace H:=zbm H
    obtain ⟨⟨t173,vF,t175⟩,SE,H⟩:=H
    replace H:(bg.l0 k a1 ([]:List ByteArray) t173 0 t173 vF t175) = some r:=H
    have A5:=aj.mk SE
    clear SE
    have H':=aj.mk H
    clear H
    go_enter Try.func105,Try.ntmps105
    go_wp2_with (first | ((with_reducible refine aQ (f:=83) rfl ?_);refine bQ (some 14) rfl rfl Try.func83 (by kernel_rfl) rfl #[.int .i64 a0,.string a1] rfl (by (try simp only [List.map_toArray,List.map_cons,List.map_nil]);first | done | rfl | (simp only [List.length_drop,List.length_take];rfl) | (simp only [ByteArray.size_append,Int.natCast_add];rfl) | (rw [B.dQ] <;> first | rfl | omega | (simp only [decide_eq_false_iff_not,decide_eq_true_eq,Int.not_lt,Nat.not_lt,gt_iff_lt] at * <;> omega))) ?_;(with_reducible refine (bS.calls k a0 a1 true _ A3.out).mono ?_);rintro e w6 ⟨rfl,hb⟩;refine ⟨_,rfl,?_⟩;have dZ:=aj.mk (bE (by repeat (first | (with_reducible first | exact HB.out | apply ak | apply ah | apply au) | exact HB.out)) hb);clear HB;have HB:=dZ;clear dZ;(try clear hb);(try clear hb2);(try clear hk);(try clear hi)) | ((with_reducible refine aQ (f:=106) rfl ?_);refine bQ (some 17) rfl rfl Try.func106 (by kernel_rfl) rfl #[.int .i64 a0] rfl (by (try simp only [List.map_toArray,List.map_cons,List.map_nil]);first | done | rfl | (simp only [List.length_drop,List.length_take];rfl) | (simp only [ByteArray.size_append,Int.natCast_add];rfl) | (rw [B.dQ] <;> first | rfl | omega | (simp only [decide_eq_false_iff_not,decide_eq_true_eq,Int.not_lt,Nat.not_lt,gt_iff_lt] at * <;> omega))) ?_;(with_reducible refine (aH.calls k a0 t173 vF t175 _ A5.out).mono ?_);rintro e w7 ⟨rfl,hb⟩;refine ⟨_,rfl,?_⟩;have dZ:=aj.mk (bE (by repeat (first | (with_reducible first | exact HB.out | apply ak | apply ah | apply au) | exact HB.out)) hb);clear HB;have HB:=dZ;clear dZ;(try clear hb);(try clear hb2);(try clear hk);(try clear hi)) | ((with_reducible refine gI (N:=6) rfl ?_);refine fT ?hg (N:=6) ?hd (cs:=#[.int .i64 0,.int .i64 0,.int .i64 0]) (t:=142) ?hr ?_;(case hd=>rfl);(case hg=>rfl);(case hr=>first | (go_simp;done) | (go_simp;rfl));intro nR hg w8 gW hb;have dZ:=aj.mk (bE (by repeat (first | (with_reducible first | exact HB.out | apply ak | apply ah | apply au) | exact HB.out)) hb);have gZ:=aj.mk (gW);have je:=aj.mk ((by rw [hg];exact (bL (by repeat (first | (with_reducible first | exact HB.out | apply ak | apply ah | apply au) | exact HB.out))):w.heap.size ≤ nR));have jH:=aj.mk ((by rw [hg];exact (bL (by repeat (first | (with_reducible first | exact HB.out | apply ak | apply ah | apply au) | exact HB.out))):w.heap.size ≤ nR));clear HB;have HB:=dZ;have iX:=gZ;have ag3:=je;have E5:=jH;clear dZ gZ je jH;clear hb gW hg;have Nk:w8.cell? ⟨nR,0,none⟩ = some (.int .i64 0):=(aM iX.out 0).trans rfl;have Nl:w8.cell? ⟨nR,1,none⟩ = some (.int .i64 0):=(aM iX.out 1).trans rfl;have Nn:w8.cell? ⟨nR,2,none⟩ = some (.int .i64 0):=(aM iX.out 2).trans rfl;have Np:=ay iX.out 0;have Nq:=ay iX.out 1;have Nr:=ay iX.out 2))
    go_loopg [5,7,8] k (fun kq v5 v7 v8 w'=>∃ (E8:List ByteArray) (dK:Int) (gJ:Int),v7 = .int .i64 dK ∧ v8 = .int .i64 gJ ∧ aj (bg.l0 kq a1 E8 dK gJ t173 vF t175 = some r) ∧ aj (kq ≤ k) ∧ aj (Kd.R Kd.string 9 w' w.heap.size (fun _=>True) v5 E8) ∧ aj (w'.heap[nR]? = some (.cells #[.int .i64 t173,.int .i64 vF,.int .i64 t175] 142 (0,0))) ∧ aj (Below w.heap.size w w'))
    case atStart=>exact ⟨(([]:List ByteArray)),(t173),(0),(by first | rfl | (simp;done) | (simp [*];done) | (simp [B.aV];done) | (simp [B.aW];done)),(by first | rfl | (simp;done) | (simp [*];done) | (simp [B.aV];done) | (simp [B.aW];done)),H',⟨Nat.le_refl _⟩,⟨by first | exact Kd.jD _ _ _ _ _ | exact Kd.kV _ _ _ _ _ | exact Kd.kW _ _ _ _ _ | exact Kd.kT _ _ _ _ _ | exact Kd.kU _ _ _ _ _⟩,⟨by (with_reducible repeat (first | refine aG ?_ _ | refine aI ?_ | refine aA ?_ _));refine bV (cs:=#[.int .i64 t173,.int .i64 vF,.int .i64 0]) ?_ 2 _ rfl;(with_reducible repeat (first | refine aG ?_ _ | refine aI ?_ | refine aA ?_ _));refine bV (cs:=#[.int .i64 t173,.int .i64 0,.int .i64 0]) ?_ 1 _ rfl;(with_reducible repeat (first | refine aG ?_ _ | refine aI ?_ | refine aA ?_ _));refine bV (cs:=#[.int .i64 0,.int .i64 0,.int .i64 0]) ?_ 0 _ rfl;(with_reducible repeat (first | refine aG ?_ _ | refine aI ?_ | refine aA ?_ _));exact iX.out⟩,⟨by repeat (first | (with_reducible first | exact HB.out | apply ak | apply ah | apply au | refine aR ?_ E5.out) | exact HB.out)⟩⟩
    case round =>
      clear H'
      try clear c1
      try clear p2
      try clear c4
      try clear c8
      try clear Nk
      try clear Nl
      try clear Nn
      try clear Np
      try clear Nq
      try clear Nr
      obtain ⟨E8,dK,gJ,rfl,rfl,HA,uz,vG,iX,HB⟩:=hrel
      cases gk with
      | zero=>exact absurd HA.out (by simp [bg.l0])
      | succ k1 =>
        have H:=HA.out
        clear HA
        simp only [bg.l0] at H
        by_cases c10:gJ < vF
        · rw [if_pos c10] at H
          have rz:decide (gJ < vF) = true:=decide_eq_true c10
          clear c10
          replace H:=zbm H
          obtain ⟨⟨Nv,QY,ae2⟩,aaI,H⟩:=H
          replace H:(if E8.length < 8796093022208 then (bg.l0 k1 a1 (E8 ++ [Nv]) QY (wrap64 (gJ + 1)) t173 vF t175) else (none)) = some r:=H
          have A11:=aj.mk aaI
          clear aaI
          by_cases c12:E8.length < 8796093022208
          · rw [if_pos c12] at H
            have aaJ:=aj.mk c12
            clear c12
            obtain ⟨aaK,E9⟩:∃ y_:List ByteArray,y_ = (E8 ++ [Nv]):=⟨_,rfl⟩
            replace H:(bg.l0 k1 a1 aaK QY (wrap64 (gJ + 1)) t173 vF t175) = some r:=by first | (rw [E9];with_reducible exact H) | (have Gr:=(Option.bind_some _ _).symm.trans H;rw [E9];with_reducible exact Gr) | (have Gr:=(Option.bind_some _ _).symm.trans H;with_reducible exact Gr) | with_reducible exact H | (rw [E9];exact H) | exact H
            have aaL:=aj.mk E9
            clear E9
            have H':=aj.mk H
            clear H
            have Cy:wr.cell? ⟨nR,0,none⟩ = some (.int .i64 t173):=(aM iX.out 0).trans rfl
            have Cz:wr.cell? ⟨nR,1,none⟩ = some (.int .i64 vF):=(aM iX.out 1).trans rfl
            have CB:wr.cell? ⟨nR,2,none⟩ = some (.int .i64 t175):=(aM iX.out 2).trans rfl
            have CG:=ay iX.out 0
            have CJ:=ay iX.out 1
            have CK:=ay iX.out 2
            go_wp2_with (first | ((with_reducible refine aQ (f:=118) rfl ?_);refine bQ (some 29) rfl rfl Try.func118 (by kernel_rfl) rfl #[.string a1,.int .i64 dK] rfl (by (try simp only [List.map_toArray,List.map_cons,List.map_nil]);first | done | rfl | (simp only [List.length_drop,List.length_take];rfl) | (simp only [ByteArray.size_append,Int.natCast_add];rfl) | (rw [B.dQ] <;> first | rfl | omega | (simp only [decide_eq_false_iff_not,decide_eq_true_eq,Int.not_lt,Nat.not_lt,gt_iff_lt] at * <;> omega))) ?_;(with_reducible refine (aU.calls k1 a1 dK Nv QY ae2 _ A11.out).mono ?_);rintro e w' ⟨rfl,⟨nd,rfl⟩⟩;refine ⟨_,rfl,?_⟩) | ((with_reducible refine oo (b:=.append) (xs:=#[.tmp 33,.tmp 35]) rfl ?_);at_builtin;refine Kd.yF Kd.string (w0:=w) w.heap.size rfl (.tmp 33) (.tmp 35) 33 9 (.string ⟨#[]⟩) 16 rfl Try.underlying33 Ij rfl (by decide) (by omega) u5 E8 Nv [.string Nv] (fun _=>True) (fun _=>False) rfl rfl ?aP (fun _ hk=>hk.elim) ?aF ?aO ?aB ?aS ?aL ?_;(case aP=>exact rfl);(case aB=>exact (by repeat (first | (with_reducible first | exact HB.out | apply ak | apply ah | apply au | refine aR ?_ E5.out) | exact HB.out)));(case aF=>exact (fun _ _=>trivial));(case aO=>exact (by (with_reducible repeat (first | apply Kd.eY | apply Kd.fJ | apply Kd.fV));exact vG.out));(case aS=>exact (bL (by repeat (first | (with_reducible first | exact HB.out | apply ak | apply ah | apply au | refine aR ?_ E5.out) | exact HB.out))));(case aL=>have:=aaJ.out;omega);intro aho w14 ho hb hg hat;rw [← aaL.out] at ho;have dZ:=aj.mk (qo (g:=nR) (o:=.cells #[.int .i64 t173,.int .i64 vF,.int .i64 t175] 142 (0,0)) (by (with_reducible repeat (first | refine aG ?_ _ | refine aI ?_ | refine aA ?_ _));exact iX.out) hg (Kd.PG vG.out iX.out (by decide)));have gZ:=aj.mk (hb);have je:=aj.mk (ho);clear iX;clear HB;clear vG;have iX:=dZ;have HB:=gZ;have aaM:=je;clear dZ gZ je;clear ho hb hg hat))
            go_roundg k1
            case measure=>have:=uz.out;omega
            case rel=>exact ⟨(aaK),(QY),(wrap64 (gJ + 1)),(by first | rfl | (simp;done) | (simp [*];done) | (simp [B.aV];done) | (simp [B.aW];done)),(by first | rfl | (simp;done) | (simp [*];done) | (simp [B.aV];done) | (simp [B.aW];done)),H',⟨by have:=uz.out;omega⟩,⟨by (with_reducible repeat (first | apply Kd.eY | apply Kd.fJ | apply Kd.fV));exact aaM.out⟩,⟨by (with_reducible repeat (first | refine aG ?_ _ | refine aI ?_ | refine aA ?_ _));exact iX.out⟩,⟨by repeat (first | (with_reducible first | exact HB.out | apply ak | apply ah | apply au | refine aR ?_ E5.out) | exact HB.out)⟩⟩
          · rw [if_neg c12] at H
            exact absurd H (by simp)
        · rw [if_neg c10] at H
          have rz:decide (gJ < vF) = false:=decide_eq_false c10
          clear c10
          obtain rfl:=Option.some.inj H
          have CO:wr.cell? ⟨nR,0,none⟩ = some (.int .i64 t173):=(aM iX.out 0).trans rfl
          have CP:wr.cell? ⟨nR,1,none⟩ = some (.int .i64 vF):=(aM iX.out 1).trans rfl
          have CQ:wr.cell? ⟨nR,2,none⟩ = some (.int .i64 t175):=(aM iX.out 2).trans rfl
          have CS:=ay iX.out 0
          have CU:=ay iX.out 1
          have CW:=ay iX.out 2
          go_wp2
          go_ret
          exact ⟨_,by first | rfl | (simp [aJ,aK] <;> rfl) | (simp [*,aJ,aK] <;> rfl),by (with_reducible repeat (first | apply Kd.eY | apply Kd.fJ | apply Kd.fV));exact vG.out,by repeat (first | (with_reducible first | exact HB.out | apply ak | apply ah | apply au | refine aR ?_ E5.out) | exact HB.out)⟩
  · replace c4:=Bool.eq_false_iff.mpr c4
    subst c4
    have H1:(some ([]:List ByteArray)) = some r:=by rw [if_neg (show ¬ (false = true) by decide)] at H;exact H
    clear H
    have H:=H1
    clear H1
    obtain rfl:=Option.some.inj H
    go_enter Try.func105,Try.ntmps105
    go_wp2_with (first | ((with_reducible refine aQ (f:=83) rfl ?_);refine bQ (some 14) rfl rfl Try.func83 (by kernel_rfl) rfl #[.int .i64 a0,.string a1] rfl (by (try simp only [List.map_toArray,List.map_cons,List.map_nil]);first | done | rfl | (simp only [List.length_drop,List.length_take];rfl) | (simp only [ByteArray.size_append,Int.natCast_add];rfl) | (rw [B.dQ] <;> first | rfl | omega | (simp only [decide_eq_false_iff_not,decide_eq_true_eq,Int.not_lt,Nat.not_lt,gt_iff_lt] at * <;> omega))) ?_;(with_reducible refine (bS.calls k a0 a1 false _ A3.out).mono ?_);rintro e w16 ⟨rfl,hb⟩;refine ⟨_,rfl,?_⟩;have dZ:=aj.mk (bE (by repeat (first | (with_reducible first | exact HB.out | apply ak | apply ah | apply au) | exact HB.out)) hb);clear HB;have HB:=dZ;clear dZ;(try clear hb);(try clear hb2);(try clear hk);(try clear hi)))
    go_ret
    exact ⟨_,by first | rfl | (simp [aJ,aK] <;> rfl) | (simp [*,aJ,aK] <;> rfl),by first | exact Kd.jD _ _ _ _ _ | exact Kd.kV _ _ _ _ _ | exact Kd.kW _ _ _ _ _ | exact Kd.kT _ _ _ _ _ | exact Kd.kU _ _ _ _ _,by repeat (first | (with_reducible first | exact HB.out | apply ak | apply ah | apply au) | exact HB.out)⟩
def bG.l0 : Nat → ByteArray → List ByteArray → ByteArray → Int → Int → Option (ByteArray)
  | 0,_,_,_,_,_=>none
  | k + 1,x1,x5,x7,x8,x9=>if x9 < (x5.length:Int) then (if 0 ≤ x9 then ((fB.f k (pz ByteArray.empty x5 x9)).bind fun zQ=>(if x7.size + zQ.size ≤ 9223372036854775807 then (bG.l0 k x1 x5 (x7 ++ zQ) (wrap64 (x8 + ((pz ByteArray.empty x5 x9).size:Int))) (wrap64 (x9 + 1))) else (none))) else (none)) else (if 0 ≤ x8 then (if x8 ≤ (x1.size:Int) then (if x7.size + (x1.extract (x8:Int).toNat x1.size).size ≤ 9223372036854775807 then (some (x7 ++ (x1.extract (x8:Int).toNat x1.size))) else (none)) else (none)) else (none))
def bG.f (k:Nat) (a0:Int) (a1:ByteArray):Option (ByteArray):=(bS.f k a0 a1).bind fun t183=>(if t183 = true then ((bg.f k a0 a1).bind fun mH=>((aH.f k a0).bind fun jd=>(if 0 ≤ jd.1 then (if jd.1 ≤ (a1.size:Int) then (bG.l0 k a1 mH (a1.extract 0 (jd.1:Int).toNat) jd.1 0) else (none)) else (none)))) else (some (⟨#[]⟩:ByteArray)))
set_option maxHeartbeats 8000000 in
set_option maxRecDepth 100000 in
theorem bG.calls (k:Nat) (a0:Int) (a1:ByteArray) (r:ByteArray) (w:World) (h:bG.f k a0 a1 = some r) :
    Calls Try.prog 84 #[.int .i64 a0,.string a1] w fun e w'=>e = .returned (.string r) ∧ Below w.heap.size w w':=by
  have Nj:=Try.underlying142
  have HB:=aj.mk (Below.refl w.heap.size w)
  have H:((bS.f k a0 a1).bind fun t183=>(if t183 = true then ((bg.f k a0 a1).bind fun mH=>((aH.f k a0).bind fun jd=>(if 0 ≤ jd.1 then (if jd.1 ≤ (a1.size:Int) then (bG.l0 k a1 mH (a1.extract 0 (jd.1:Int).toNat) jd.1 0) else (none)) else (none)))) else (some (⟨#[]⟩:ByteArray)))) = some r:=h
  clear h
  replace H:=zbm H
  obtain ⟨t183,Sn,H⟩:=H
  replace H:(if t183 = true then ((bg.f k a0 a1).bind fun mH=>((aH.f k a0).bind fun jd=>(if 0 ≤ jd.1 then (if jd.1 ≤ (a1.size:Int) then (bG.l0 k a1 mH (a1.extract 0 (jd.1:Int).toNat) jd.1 0) else (none)) else (none)))) else (some (⟨#[]⟩:ByteArray))) = some r:=H
  have A3:=aj.mk Sn
  clear Sn
  by_cases c4:t183 = true
  · subst c4
    have H1:((bg.f k a0 a1).bind fun mH=>((aH.f k a0).bind fun jd=>(if 0 ≤ jd.1 then (if jd.1 ≤ (a1.size:Int) then (bG.l0 k a1 mH (a1.extract 0 (jd.1:Int).toNat) jd.1 0) else (none)) else (none)))) = some r:=by rw [if_pos rfl] at H;exact H
    clear H
    have H:=H1
    clear H1
    replace H:=zbm H
    obtain ⟨mH,SE,H⟩:=H
    replace H:((aH.f k a0).bind fun jd=>(if 0 ≤ jd.1 then (if jd.1 ≤ (a1.size:Int) then (bG.l0 k a1 mH (a1.extract 0 (jd.1:Int).toNat) jd.1 0) else (none)) else (none))) = some r:=H
    have A5:=aj.mk SE
    clear SE
    replace H:=zbm H
    obtain ⟨⟨qP,Nw,QZ⟩,A60,H⟩:=H
    replace H:(if 0 ≤ qP then (if qP ≤ (a1.size:Int) then (bG.l0 k a1 mH (a1.extract 0 (qP:Int).toNat) qP 0) else (none)) else (none)) = some r:=H
    have A6:=aj.mk A60
    clear A60
    by_cases c7:0 ≤ qP
    · rw [if_pos c7] at H
      have uJ:=eq_true c7
      have JW:decide (0 ≤ qP) = true:=decide_eq_true c7
      clear c7
      by_cases c8:qP ≤ (a1.size:Int)
      · rw [if_pos c8] at H
        have rW:=eq_true c8
        have rX:decide (qP ≤ (a1.size:Int)) = true:=decide_eq_true c8
        clear c8
        have H':=aj.mk H
        clear H
        go_enter Try.func84,Try.ntmps84
        go_wp2_with (first | ((with_reducible refine aQ (f:=83) rfl ?_);refine bQ (some 12) rfl rfl Try.func83 (by kernel_rfl) rfl #[.int .i64 a0,.string a1] rfl (by (try simp only [List.map_toArray,List.map_cons,List.map_nil]);first | done | rfl | (simp only [List.length_drop,List.length_take];rfl) | (simp only [ByteArray.size_append,Int.natCast_add];rfl) | (rw [B.dQ] <;> first | rfl | omega | (simp only [decide_eq_false_iff_not,decide_eq_true_eq,Int.not_lt,Nat.not_lt,gt_iff_lt] at * <;> omega))) ?_;(with_reducible refine (bS.calls k a0 a1 true _ A3.out).mono ?_);rintro e w9 ⟨rfl,hb⟩;refine ⟨_,rfl,?_⟩;have dZ:=aj.mk (bE (by repeat (first | (with_reducible first | exact HB.out | apply ak | apply ah | apply au) | exact HB.out)) hb);clear HB;have HB:=dZ;clear dZ;(try clear hb);(try clear hb2);(try clear hk);(try clear hi)) | ((with_reducible refine aQ (f:=105) rfl ?_);refine bQ (some 16) rfl rfl Try.func105 (by kernel_rfl) rfl #[.int .i64 a0,.string a1] rfl (by (try simp only [List.map_toArray,List.map_cons,List.map_nil]);first | done | rfl | (simp only [List.length_drop,List.length_take];rfl) | (simp only [ByteArray.size_append,Int.natCast_add];rfl) | (rw [B.dQ] <;> first | rfl | omega | (simp only [decide_eq_false_iff_not,decide_eq_true_eq,Int.not_lt,Nat.not_lt,gt_iff_lt] at * <;> omega))) ?_;(with_reducible refine (bg.calls k a0 a1 mH _ A5.out).mono ?_);rintro e w10 ⟨ae3,rfl,ho0,hb⟩;refine ⟨_,rfl,?_⟩;have dZ:=aj.mk (Kd.ug ho0 (bL (by repeat (first | (with_reducible first | exact HB.out | apply ak | apply ah | apply au) | exact HB.out))));have gZ:=aj.mk (bE (by repeat (first | (with_reducible first | exact HB.out | apply ak | apply ah | apply au) | exact HB.out)) hb);clear HB;have y9:=dZ;have HB:=gZ;clear dZ gZ;(try clear hb);(try clear hb2);(try clear hk);(try clear hi);(try clear ho0)) | ((with_reducible refine aQ (f:=106) rfl ?_);refine bQ (some 18) rfl rfl Try.func106 (by kernel_rfl) rfl #[.int .i64 a0] rfl (by (try simp only [List.map_toArray,List.map_cons,List.map_nil]);first | done | rfl | (simp only [List.length_drop,List.length_take];rfl) | (simp only [ByteArray.size_append,Int.natCast_add];rfl) | (rw [B.dQ] <;> first | rfl | omega | (simp only [decide_eq_false_iff_not,decide_eq_true_eq,Int.not_lt,Nat.not_lt,gt_iff_lt] at * <;> omega))) ?_;(with_reducible refine (aH.calls k a0 qP Nw QZ _ A6.out).mono ?_);rintro e VA ⟨rfl,hb⟩;refine ⟨_,rfl,?_⟩;have dZ:=aj.mk (Kd.j4 (by (with_reducible repeat (first | apply Kd.eY | apply Kd.fJ | apply Kd.fV));exact y9.out) hb);have gZ:=aj.mk (bE (by repeat (first | (with_reducible first | exact HB.out | apply ak | apply ah | apply au) | exact HB.out)) hb);clear y9;clear HB;have y9:=dZ;have HB:=gZ;clear dZ gZ;(try clear hb);(try clear hb2);(try clear hk);(try clear hi)) | ((with_reducible refine gI (N:=6) rfl ?_);refine fT ?hg (N:=6) ?hd (cs:=#[.int .i64 0,.int .i64 0,.int .i64 0]) (t:=142) ?hr ?_;(case hd=>rfl);(case hg=>rfl);(case hr=>first | (go_simp;done) | (go_simp;rfl));intro rC hg w12 gW hb;have dZ:=aj.mk (Kd.j4 (by (with_reducible repeat (first | apply Kd.eY | apply Kd.fJ | apply Kd.fV));exact y9.out) hb);have gZ:=aj.mk (bE (by repeat (first | (with_reducible first | exact HB.out | apply ak | apply ah | apply au) | exact HB.out)) hb);have je:=aj.mk (gW);have jH:=aj.mk ((by rw [hg];exact (bL (by repeat (first | (with_reducible first | exact HB.out | apply ak | apply ah | apply au) | exact HB.out))):w.heap.size ≤ rC));have qO:=aj.mk ((by rw [hg];exact (bL (by repeat (first | (with_reducible first | exact HB.out | apply ak | apply ah | apply au) | exact HB.out))):w.heap.size ≤ rC));clear y9;clear HB;have y9:=dZ;have HB:=gZ;have nS:=je;have ag4:=jH;have I4:=qO;clear dZ gZ je jH qO;clear hb gW hg;have Cy:w12.cell? ⟨rC,0,none⟩ = some (.int .i64 0):=(aM nS.out 0).trans rfl;have Cz:w12.cell? ⟨rC,1,none⟩ = some (.int .i64 0):=(aM nS.out 1).trans rfl;have CB:w12.cell? ⟨rC,2,none⟩ = some (.int .i64 0):=(aM nS.out 2).trans rfl;have CG:=ay nS.out 0;have CJ:=ay nS.out 1;have CK:=ay nS.out 2))
        go_loopg [7,8,9] k (fun kq v7 v8 v9 w'=>∃ (dK:ByteArray) (gJ:Int) (iJ:Int),v7 = .string dK ∧ v8 = .int .i64 gJ ∧ v9 = .int .i64 iJ ∧ aj (bG.l0 kq a1 mH dK gJ iJ = some r) ∧ aj (kq ≤ k) ∧ aj (Kd.R Kd.string 9 w' w.heap.size (fun _=>True) ae3 mH) ∧ aj (w'.heap[rC]? = some (.cells #[.int .i64 qP,.int .i64 Nw,.int .i64 QZ] 142 (0,0))) ∧ aj (Below w.heap.size w w'))
        case atStart=>exact ⟨(a1.extract 0 (qP:Int).toNat),(qP),(0),(by first | rfl | (simp;done) | (simp [*];done) | (simp [B.aV];done) | (simp [B.aW];done)),(by first | rfl | (simp;done) | (simp [*];done) | (simp [B.aV];done) | (simp [B.aW];done)),(by first | rfl | (simp;done) | (simp [*];done) | (simp [B.aV];done) | (simp [B.aW];done)),H',⟨Nat.le_refl _⟩,⟨by (with_reducible repeat (first | apply Kd.eY | apply Kd.fJ | apply Kd.fV));exact Kd.pF (Kd.uh (p:=⟨rC,2,none⟩) (Kd.uh (p:=⟨rC,1,none⟩) (Kd.uh (p:=⟨rC,0,none⟩) (Kd.uj y9.out nS.out (by decide)) (fun _ hk=>hk.2) (.int .i64 qP)) (fun _ hk=>hk.2) (.int .i64 Nw)) (fun _ hk=>hk.2) (.int .i64 QZ)) (fun _ hk=>trivial)⟩,⟨by (with_reducible repeat (first | refine aG ?_ _ | refine aI ?_ | refine aA ?_ _));refine bV (cs:=#[.int .i64 qP,.int .i64 Nw,.int .i64 0]) ?_ 2 _ rfl;(with_reducible repeat (first | refine aG ?_ _ | refine aI ?_ | refine aA ?_ _));refine bV (cs:=#[.int .i64 qP,.int .i64 0,.int .i64 0]) ?_ 1 _ rfl;(with_reducible repeat (first | refine aG ?_ _ | refine aI ?_ | refine aA ?_ _));refine bV (cs:=#[.int .i64 0,.int .i64 0,.int .i64 0]) ?_ 0 _ rfl;(with_reducible repeat (first | refine aG ?_ _ | refine aI ?_ | refine aA ?_ _));exact nS.out⟩,⟨by repeat (first | (with_reducible first | exact HB.out | apply ak | apply ah | apply au | refine aR ?_ I4.out) | exact HB.out)⟩⟩
        case round =>
          clear H'
          try clear c1
          try clear p2
          try clear c4
          try clear c7
          try clear uJ
          try clear JW
          try clear c8
          try clear rW
          try clear rX
          try clear c10
          try clear Cy
          try clear Cz
          try clear CB
          try clear CG
          try clear CJ
          try clear CK
          obtain ⟨dK,gJ,iJ,rfl,rfl,rfl,HA,uz,vG,nS,HB⟩:=hrel
          cases gk with
          | zero=>exact absurd HA.out (by simp [bG.l0])
          | succ k1 =>
            have H:=HA.out
            clear HA
            simp only [bG.l0] at H
            by_cases c14:iJ < (mH.length:Int)
            · rw [if_pos c14] at H
              have AB:decide (iJ < (mH.length:Int)) = true:=decide_eq_true c14
              clear c14
              by_cases c15:0 ≤ iJ
              · rw [if_pos c15] at H
                have Zr:decide (0 ≤ iJ) = true:=decide_eq_true c15
                clear c15
                replace H:=zbm H
                obtain ⟨zQ,aaN,H⟩:=H
                replace H:(if dK.size + zQ.size ≤ 9223372036854775807 then (bG.l0 k1 a1 mH (dK ++ zQ) (wrap64 (gJ + ((pz ByteArray.empty mH iJ).size:Int))) (wrap64 (iJ + 1))) else (none)) = some r:=H
                have A16:=aj.mk aaN
                clear aaN
                by_cases c17:dK.size + zQ.size ≤ 9223372036854775807
                · rw [if_pos c17] at H
                  have SA:=eq_true c17
                  have ag5:decide (dK.size + zQ.size ≤ 9223372036854775807) = true:=decide_eq_true c17
                  try have ag6:(9223372036854775807 < dK.size + zQ.size) = False:=eq_false (Nat.not_lt.2 c17)
                  have H':=aj.mk H
                  clear H
                  obtain ⟨ahp,ahq,ae4⟩:=Kd.wT vG.out
                  subst ae4
                  have VH:0 ≤ (iJ:Int):=of_decide_eq_true (by first | (with_reducible assumption) | assumption)
                  have VI:iJ < (mH.length:Int):=of_decide_eq_true (by first | (with_reducible assumption) | assumption)
                  obtain ⟨aaO,ae5,adt⟩:=Kd.Ap (Kd.pG vG.out).2.2 iJ VH VI
                  cases ae5
                  replace VH:=eq_true VH
                  replace VI:=eq_true VI
                  go_wp2_with (first | ((with_reducible refine aQ (f:=101) rfl ?_);refine bQ (some 36) rfl rfl Try.func101 (by kernel_rfl) rfl #[.string (pz ByteArray.empty mH iJ)] rfl (by (try simp only [List.map_toArray,List.map_cons,List.map_nil]);first | done | rfl | (simp only [List.length_drop,List.length_take];rfl) | (simp only [ByteArray.size_append,Int.natCast_add];rfl) | (rw [B.dQ] <;> first | rfl | omega | (simp only [decide_eq_false_iff_not,decide_eq_true_eq,Int.not_lt,Nat.not_lt,gt_iff_lt] at * <;> omega))) ?_;(with_reducible refine (fB.calls k1 (pz ByteArray.empty mH iJ) zQ _ A16.out).mono ?_);rintro e w19 ⟨rfl,hb⟩;refine ⟨_,rfl,?_⟩;have dZ:=aj.mk (Kd.j4 (by (with_reducible repeat (first | apply Kd.eY | apply Kd.fJ | apply Kd.fV));exact vG.out) hb);have gZ:=aj.mk (dO (g:=rC) (o:=.cells #[.int .i64 qP,.int .i64 Nw,.int .i64 QZ] 142 (0,0)) (by (with_reducible repeat (first | refine aG ?_ _ | refine aI ?_ | refine aA ?_ _));exact nS.out) hb);have je:=aj.mk (bE (by repeat (first | (with_reducible first | exact HB.out | apply ak | apply ah | apply au | refine aR ?_ I4.out) | exact HB.out)) hb);clear vG;clear nS;clear HB;have vG:=dZ;have nS:=gZ;have HB:=je;clear dZ gZ je;(try clear hb);(try clear hb2);(try clear hk);(try clear hi);have VJ:0 ≤ (iJ:Int):=of_decide_eq_true (by first | (with_reducible assumption) | assumption);have VK:iJ < (mH.length:Int):=of_decide_eq_true (by first | (with_reducible assumption) | assumption);obtain ⟨aaP,ae6,adu⟩:=Kd.Ap (Kd.pG vG.out).2.2 iJ VJ VK;obtain rfl:aaO = aaP:=(by injection ae6);replace VJ:=eq_true VJ;replace VK:=eq_true VK))
                  go_roundg k1
                  case measure=>have:=uz.out;omega
                  case rel=>exact ⟨(dK ++ zQ),(wrap64 (gJ + ((pz ByteArray.empty mH iJ).size:Int))),(wrap64 (iJ + 1)),(by first | rfl | (simp;done) | (simp [*];done) | (simp [B.aV];done) | (simp [B.aW];done)),(by first | rfl | (simp;done) | (simp [*];done) | (simp [B.aV];done) | (simp [B.aW];done)),(by first | rfl | (simp;done) | (simp [*];done) | (simp [B.aV];done) | (simp [B.aW];done)),H',⟨by have:=uz.out;omega⟩,⟨by (with_reducible repeat (first | apply Kd.eY | apply Kd.fJ | apply Kd.fV));exact vG.out⟩,⟨by (with_reducible repeat (first | refine aG ?_ _ | refine aI ?_ | refine aA ?_ _));exact nS.out⟩,⟨by repeat (first | (with_reducible first | exact HB.out | apply ak | apply ah | apply au | refine aR ?_ I4.out) | exact HB.out)⟩⟩
                · rw [if_neg c17] at H
                  exact absurd H (by simp)
              · rw [if_neg c15] at H
                exact absurd H (by simp)
            · rw [if_neg c14] at H
              have AB:decide (iJ < (mH.length:Int)) = false:=decide_eq_false c14
              clear c14
              by_cases c20:0 ≤ gJ
              · rw [if_pos c20] at H
                have Nf:=eq_true c20
                have ZV:decide (0 ≤ gJ) = true:=decide_eq_true c20
                clear c20
                by_cases c21:gJ ≤ (a1.size:Int)
                · rw [if_pos c21] at H
                  have Sw:=eq_true c21
                  have Sy:decide (gJ ≤ (a1.size:Int)) = true:=decide_eq_true c21
                  clear c21
                  by_cases Dc:dK.size + (a1.extract (gJ:Int).toNat a1.size).size ≤ 9223372036854775807
                  · rw [if_pos Dc] at H
                    have Ns:=eq_true Dc
                    have Nt:decide (dK.size + (a1.extract (gJ:Int).toNat a1.size).size ≤ 9223372036854775807) = true:=decide_eq_true Dc
                    try have ag7:(9223372036854775807 < dK.size + (a1.extract (gJ:Int).toNat a1.size).size) = False:=eq_false (Nat.not_lt.2 Dc)
                    obtain rfl:=Option.some.inj H
                    obtain ⟨ahr,ahs,ae7⟩:=Kd.wT vG.out
                    subst ae7
                    go_wp2
                    go_ret
                    exact ⟨by first | rfl | (simp [aJ,aK] <;> rfl) | (simp [*,aJ,aK] <;> rfl),by repeat (first | (with_reducible first | exact HB.out | apply ak | apply ah | apply au | refine aR ?_ I4.out) | exact HB.out)⟩
                  · rw [if_neg Dc] at H
                    exact absurd H (by simp)
                · rw [if_neg c21] at H
                  exact absurd H (by simp)
              · rw [if_neg c20] at H
                exact absurd H (by simp)
      · rw [if_neg c8] at H
        exact absurd H (by simp)
    · rw [if_neg c7] at H
      exact absurd H (by simp)
  · replace c4:=Bool.eq_false_iff.mpr c4
    subst c4
    have H1:(some (⟨#[]⟩:ByteArray)) = some r:=by rw [if_neg (show ¬ (false = true) by decide)] at H;exact H
    clear H
    have H:=H1
    clear H1
    obtain rfl:=Option.some.inj H
    go_enter Try.func84,Try.ntmps84
    go_wp2_with (first | ((with_reducible refine aQ (f:=83) rfl ?_);refine bQ (some 12) rfl rfl Try.func83 (by kernel_rfl) rfl #[.int .i64 a0,.string a1] rfl (by (try simp only [List.map_toArray,List.map_cons,List.map_nil]);first | done | rfl | (simp only [List.length_drop,List.length_take];rfl) | (simp only [ByteArray.size_append,Int.natCast_add];rfl) | (rw [B.dQ] <;> first | rfl | omega | (simp only [decide_eq_false_iff_not,decide_eq_true_eq,Int.not_lt,Nat.not_lt,gt_iff_lt] at * <;> omega))) ?_;(with_reducible refine (bS.calls k a0 a1 false _ A3.out).mono ?_);rintro e w24 ⟨rfl,hb⟩;refine ⟨_,rfl,?_⟩;have dZ:=aj.mk (bE (by repeat (first | (with_reducible first | exact HB.out | apply ak | apply ah | apply au) | exact HB.out)) hb);clear HB;have HB:=dZ;clear dZ;(try clear hb);(try clear hb2);(try clear hk);(try clear hi)))
    go_ret
    exact ⟨by first | rfl | (simp [aJ,aK] <;> rfl) | (simp [*,aJ,aK] <;> rfl),by repeat (first | (with_reducible first | exact HB.out | apply ak | apply ah | apply au) | exact HB.out)⟩
end Go.Proofs.Ytdkkgecdhapfhaa.ZQ
namespace Go.Proofs.Ytdkkgecdhapfhaa.ZQ
open Go.RowKit Go.Proofs.YtdkkgecdhapfhaaW.bD Go.Proofs.YtdkkgecdhapfhaaW.dM Go.Proofs.YtdkkgecdhapfhaaW.eH Go.Proofs.Ytdkkgecdhapfhaa.B
def vZ (msg:ByteArray) (i:Int):ByteArray × Int × Int:=(bF.f (rounds i) msg i).getD (⟨#[]⟩,0,0)
theorem SH (msg:ByteArray) (i:Int) (hm:msg.size ≤ 100000):bF.f (rounds i) msg i = some (vZ msg i):=by
  obtain ⟨R,h1,_⟩:=AL (rounds i) msg i hm (Nat.le_refl _)
  unfold vZ;rw [h1];rfl
theorem SI (k:Nat) (msg:ByteArray) (i:Int) (hm:msg.size ≤ 100000) (hk:rounds i ≤ k):bF.f k msg i = some (vZ msg i):=ET hk (SH msg i hm)
theorem vH (k:Nat) (msg:ByteArray) (i:Int) (hm:msg.size ≤ 100000) (hk:rounds i ≤ k):aU.f k msg i = some (vZ msg i):=by
  obtain ⟨R,h1,h2⟩:=AL k msg i hm hk
  rw [SI k msg i hm hk] at h1
  rw [h2,h1]
theorem uM (msg:ByteArray) (i:Int) (hm:msg.size ≤ 100000) :
    ((vZ msg i).2.2 = 0 ∧ jB (vZ msg i).1 = true ∧ 0 ≤ i ∧ i < (vZ msg i).2.1 ∧ (vZ msg i).2.1 ≤ (msg.size:Int)) ∨ (((vZ msg i).2.2 = 2 ∨ (vZ msg i).2.2 = 3) ∧ (vZ msg i).1 = ⟨#[]⟩ ∧ (vZ msg i).2.1 = 0):=Gv hm (SH msg i hm)
def Fa (msg:ByteArray) (e:Int):Nat → Int → List ByteArray → Option (List ByteArray × Int)
  | 0,i,l=>some (l,i)
  | n + 1,i,l=>if (vZ msg i).2.2 = 0 then (if (vZ msg i).2.1 > e then none else Fa msg e n (vZ msg i).2.1 (l ++ [(vZ msg i).1])) else none
theorem qD (msg:ByteArray) (e:Int) (hm:msg.size ≤ 100000):∀ (n:Nat) (i:Int) (l:List ByteArray) (R:List ByteArray × Int),Fa msg e n i l = some R → i ≤ e → i ≤ R.2 ∧ R.2 ≤ e ∧ R.1.length = l.length + n ∧ (∃ l',R.1 = l ++ l' ∧ ∀ x ∈ l',jB x = true)
  | 0,i,l,R,h,hi=>by cases h;exact ⟨Int.le_refl _,hi,rfl,[],by simp,by simp⟩
  | n + 1,i,l,R,h,hi=>by
    rw [Fa] at h
    by_cases h0:(vZ msg i).2.2 = 0
    · rw [if_pos h0] at h
      by_cases h1:(vZ msg i).2.1 > e
      · rw [if_pos h1] at h;cases h
      · rw [if_neg h1] at h
        obtain ⟨a1,a2,a3,l',a4,a5⟩:=qD msg e hm n _ _ R h (by omega)
        rcases uM msg i hm with ⟨_,b2,_,b4,_⟩ | ⟨b1,_⟩
        · refine ⟨by omega,a2,by rw [a3,List.length_append,List.length_singleton];omega,(vZ msg i).1 :: l',by rw [a4];simp,?_⟩
          intro x hx
          rcases List.mem_cons.mp hx with rfl | hx
          · exact b2
          · exact a5 x hx
        · omega
    · rw [if_neg h0] at h;cases h
def K0 : Nat:=101000
theorem qE {msg:ByteArray} {i:Int} {k:Nat} (hm:msg.size ≤ 100000) (hi:i ≤ (msg.size:Int)) (hk:K0 ≤ k):rounds i ≤ k:=by unfold rounds;unfold K0 at hk;omega
theorem CX (msg:ByteArray) (e s0 s1 s2:Int) (a b:ByteArray) (hm:msg.size ≤ 100000) (he:e ≤ (msg.size:Int)) (h2:0 ≤ s2 ∧ s2 ≤ 1000) (c:Int) (hc:c ≤ 100):∀ (n k:Nat) (i x:Int) (l:List ByteArray),K0 + n ≤ k → x + n = c → 0 ≤ x → 0 ≤ i → i ≤ e → l.length + n ≤ 1000 →
    bW.l0 (k + 1) msg i e c x s0 s1 s2 a b l = (match Fa msg e n i l with
      | some R=>some (a,msg.extract R.2.toNat e.toNat,R.1,(((msg.extract R.2.toNat e.toNat).size:Int) == s2))
      | none=>some (⟨#[]⟩,⟨#[]⟩,[],false))
  | 0,k,i,x,l,hk,hx,hx0,hi,hie,hl=>by
    rw [bW.l0,if_neg (by omega),if_pos hi,if_pos hie,if_pos he,Fa]
  | n + 1,k,i,x,l,hk,hx,hx0,hi,hie,hl=>by
    obtain ⟨k,rfl⟩:∃ m,k = m + 1:=⟨k - 1,by omega⟩
    rw [bW.l0,if_pos (by omega),SI (k + 1) msg i hm (qE hm (by omega) (by omega)),Fa]
    simp only [Option.bind_some]
    by_cases h0:(vZ msg i).2.2 = 0
    · rw [if_pos h0,if_pos h0]
      by_cases h1:(vZ msg i).2.1 > e
      · rw [if_pos h1,if_pos h1]
      · rcases uM msg i hm with ⟨_,_,_,b4,_⟩ | ⟨b1,_⟩
        · rw [if_neg h1,if_neg h1,if_pos (by omega),dQ (by omega) (by omega)]
          exact CX msg e s0 s1 s2 a b hm he h2 c hc n k _ (x + 1) _ (by omega) (by omega) (by omega) (by omega) (by omega) (by rw [List.length_append,List.length_singleton];omega)
        · omega
    · rw [if_neg h0,if_neg h0]
def Ny (s:ByteArray):Nat → Int → Bool
  | 0,_=>false
  | k + 1,i=>if i < (s.size:Int) then Ny s k (i + 1 + bt s i) else decide (i = s.size)
def Gy (s:ByteArray):Bool:=decide (0 < s.size) && Ny s (s.size + 1) 0
theorem VL (s:ByteArray) {k:Nat} {i:Int} (h:(s.size:Int) < i):Ny s k i = false:=by
  cases k with
  | zero=>rfl
  | succ k=>rw [Ny,if_neg (by omega)];simp;omega
theorem Nz (s:ByteArray) (hs:s.size ≤ 100000) (d:Nat):∀ (k m:Nat) (i:Int),0 ≤ i → i ≤ (s.size:Int) → s.size - i.toNat ≤ d → d + 1 ≤ k → d + 1 ≤ m → dL.l0 k (s.extract i.toNat s.size) = some (Ny s m i):=by
  induction d with
  | zero =>
    intro k m i h0 h1 h2 hk hm
    obtain ⟨k,rfl⟩:∃ j,k = j + 1:=⟨k - 1,by omega⟩
    obtain ⟨m,rfl⟩:∃ j,m = j + 1:=⟨m - 1,by omega⟩
    rw [dL.l0,if_pos (toList_nil.mpr (by rw [ByteArray.size_extract];omega)),Ny,if_neg (by omega),decide_eq_true (by omega)]
  | succ d ih =>
    intro k m i h0 h1 h2 hk hm
    obtain ⟨k,rfl⟩:∃ j,k = j + 1:=⟨k - 1,by omega⟩
    obtain ⟨m,rfl⟩:∃ j,m = j + 1:=⟨m - 1,by omega⟩
    have hz:(s.extract i.toNat s.size).size = s.size - i.toNat:=by rw [ByteArray.size_extract];omega
    by_cases hi:i < (s.size:Int)
    · have hb:bt (s.extract i.toNat s.size) 0 = bt s i:=by
        rw [mq (by omega) (by omega)];congr 1;omega
      have hr:=gB s i
      rw [dL.l0,if_neg (by rw [toList_nil];omega),if_pos (by omega),hb,dQ (n:=bt s i) (by omega) (by omega),dQ (n:=1 + bt s i) (by omega) (by omega),Ny,if_pos hi]
      by_cases h3:1 + bt s i > ((s.extract i.toNat s.size).size:Int)
      · rw [if_pos h3,VL s (by omega)]
      · rw [if_neg h3,if_pos (by omega),if_pos (by omega)]
        have e:(s.extract i.toNat s.size).extract (1 + bt s i).toNat (s.extract i.toNat s.size).size = s.extract (i + 1 + bt s i).toNat s.size:=by
          rw [ByteArray.extract_extract,hz]
          congr 1 <;> omega
        rw [e]
        exact ih k m _ (by omega) (by omega) (by omega) (by omega) (by omega)
    · rw [dL.l0,if_pos (toList_nil.mpr (by omega)),Ny,if_neg hi,decide_eq_true (by omega)]
theorem NA (k:Nat) (hk:K0 ≤ k) (s:ByteArray) (hs:s.size ≤ 100000):dL.f k s = some (Gy s):=by
  unfold dL.f Gy
  by_cases h:s.toList = ([]:List UInt8)
  · rw [if_pos h];rw [toList_nil] at h;rw [h];rfl
  · rw [if_neg h]
    rw [toList_nil] at h
    unfold K0 at hk
    have:=Nz s hs s.size k (s.size + 1) 0 (by omega) (by omega) (by omega) (by omega) (by omega)
    rw [show (0:Int).toNat = 0 from rfl,ByteArray.extract_zero_size] at this
    rw [this,decide_eq_true (by omega),Bool.true_and]
theorem CY (s:ByteArray) (hs:s.size ≤ 100000) (d:Nat):∀ (k m:Nat) (i:Int),0 ≤ i → (i:Int) ≤ s.size + 300 → 0 < i ∨ 0 < s.size → s.size - i.toNat ≤ d → d + 1 ≤ k → d + 1 ≤ m → bn.l0 k s i = some (Ny s m i):=by
  induction d with
  | zero =>
    intro k m i h0 h1 hp h2 hk hm
    obtain ⟨k,rfl⟩:∃ j,k = j + 1:=⟨k - 1,by omega⟩
    obtain ⟨m,rfl⟩:∃ j,m = j + 1:=⟨m - 1,by omega⟩
    have hlt:¬ i < (s.size:Int):=by omega
    rw [bn.l0,if_neg hlt,Ny,if_neg hlt]
    by_cases h:i = (s.size:Int)
    · rw [if_pos h,decide_eq_true (by omega),decide_eq_true h]
    · rw [if_neg h,decide_eq_false h]
  | succ d ih =>
    intro k m i h0 h1 hp h2 hk hm
    obtain ⟨k,rfl⟩:∃ j,k = j + 1:=⟨k - 1,by omega⟩
    obtain ⟨m,rfl⟩:∃ j,m = j + 1:=⟨m - 1,by omega⟩
    have hr:=gB s i
    rw [bn.l0,Ny]
    by_cases hi:i < (s.size:Int)
    · rw [if_pos hi,if_pos hi,if_pos h0,dQ (n:=bt s i) (by omega) (by omega),dQ (n:=i + 1) (by omega) (by omega),dQ (by omega) (by omega)]
      exact ih k m _ (by omega) (by omega) (by omega) (by omega) (by omega) (by omega)
    · rw [if_neg hi,if_neg hi]
      by_cases h:i = (s.size:Int)
      · rw [if_pos h,decide_eq_true (by omega),decide_eq_true h]
      · rw [if_neg h,decide_eq_false h]
theorem CZ (k:Nat) (hk:K0 ≤ k) (s:ByteArray) (hs:s.size ≤ 100000):bn.f k s = some (Gy s):=by
  unfold bn.f Gy
  unfold K0 at hk
  by_cases h:0 < s.size
  · rw [CY s hs s.size k (s.size + 1) 0 (by omega) (by omega) (by omega) (by omega) (by omega) (by omega),decide_eq_true h,Bool.true_and]
  · obtain ⟨k,rfl⟩:∃ j,k = j + 1:=⟨k - 1,by omega⟩
    rw [bn.l0,if_neg (by omega),if_pos (by omega),decide_eq_false h];rfl
end Go.Proofs.Ytdkkgecdhapfhaa.ZQ
namespace Go.Proofs.Ytdkkgecdhapfhaa.ZQ
open Go.RowKit Go.Proofs.YtdkkgecdhapfhaaW.bD Go.Proofs.YtdkkgecdhapfhaaW.dM Go.Proofs.YtdkkgecdhapfhaaW.eH Go.Proofs.Ytdkkgecdhapfhaa.B
theorem Gz (l m:List ByteArray):strings_Join.cat (l ++ m) = strings_Join.cat l ++ strings_Join.cat m:=by
  induction l with
  | nil=>exact (empty_append _).symm
  | cons x l ih=>rw [List.cons_append,strings_Join.cat,ih,strings_Join.cat,ByteArray.append_assoc]
theorem Q0 (x:ByteArray):strings_Join.cat [x] = x:=append_empty x
theorem pU {n:ByteArray} (h:jB n = true):n.size ≤ 255:=by
  obtain ⟨l,_,_,hz⟩:=Ig.mp h;exact hz
theorem uN : ∀ {l:List ByteArray},(∀ x ∈ l,jB x = true) → (strings_Join.cat l).size ≤ 255 * l.length
  | [],_=>Nat.zero_le _
  | x :: l,h=>by
    have h1:=pU (h x (by simp))
    have h2:=uN (l:=l) (fun y hy=>h y (by simp [hy]))
    rw [strings_Join.cat,ByteArray.size_append,List.length_cons]
    omega
def za (d:ByteArray):ByteArray × Int:=if (d.size:Int) > 65535 then (⟨#[]⟩,4) else (d,0)
theorem vI (d:ByteArray):(if (d.size:Int) > 65535 then some ((⟨#[]⟩:ByteArray),(4:Int)) else some (d,0)) = some (za d):=by
  unfold za;split <;> rfl
def J7 (msg:ByteArray) (i size:Int) (s:Int × Int × Int):ByteArray × Int :=
  if s.1 ≤ size then (match Fa msg (i + size) s.2.1.toNat (i + s.1) [] with
    | some R=>if R.2 + s.2.2 = i + size then za (msg.extract i.toNat (i + s.1).toNat ++ strings_Join.cat R.1 ++ msg.extract R.2.toNat (i + size).toNat) else (⟨#[]⟩,4)
    | none=>(⟨#[]⟩,4)) else (⟨#[]⟩,4)
def zR (msg:ByteArray) (i size kind:Int):ByteArray × Int :=
  if gV msg i size then (match aD.y7 kind with
    | some s=>J7 msg i size s
    | none=>if kind = 16 then (if Gy (msg.extract i.toNat (i + size).toNat) = true then za (msg.extract i.toNat (i + size).toNat) else (⟨#[]⟩,4)) else za (msg.extract i.toNat (i + size).toNat))
  else (⟨#[]⟩,2)
theorem kP {kind:Int} {s:Int × Int × Int} (h:aD.y7 kind = some s):0 ≤ s.1 ∧ s.1 ≤ 16 ∧ 0 ≤ s.2.1 ∧ s.2.1 ≤ 2 ∧ 0 ≤ s.2.2 ∧ s.2.2 ≤ 20 ∧ kind ≠ 16 ∧ (s.1 = 0 → s.2.1 = 0 → False):=by
  unfold aD.y7 at h
  repeat' split at h
  all_goals (first | (cases h;subst_vars;decide) | cases h)
theorem VN (k:Nat) (hk:K0 ≤ k) (kind:Int) (hkind:kind ≠ 16) (d:ByteArray):aD.fin k kind d true = some (za d):=by
  unfold aD.fin
  rw [if_pos rfl,if_neg hkind,vI]
theorem vJ (k:Nat) (kind:Int) (d:ByteArray):aD.fin k kind d false = some (⟨#[]⟩,4):=by
  unfold aD.fin;rw [if_neg Bool.false_ne_true]
theorem AX (msg:ByteArray) (i size kind:Int) (k:Nat) (hk:K0 ≤ k) (hm:msg.size ≤ 100000) (f:ByteArray → Option Bool) (hf:∀ s,s.size ≤ 100000 → f s = some (Gy s)) (t:ByteArray) (ht:t.size ≤ 100000) :
    (if kind = 16 then ((f t).bind fun b=>if b = true then (if (t.size:Int) > 65535 then some ((⟨#[]⟩:ByteArray),(4:Int)) else some (t,0)) else some (⟨#[]⟩,4)) else (if (t.size:Int) > 65535 then some (⟨#[]⟩,4) else some (t,0))) =
      some (if kind = 16 then (if Gy t = true then za t else (⟨#[]⟩,4)) else za t):=by
  rw [hf t ht,vI]
  simp only [Option.bind_some]
  split
  · split <;> rfl
  · rfl
theorem J8 (k:Nat) (hk:K0 + 10 ≤ k) (msg:ByteArray) (i size kind:Int) (hm:msg.size ≤ 100000) (ht:gV msg i size) (s:Int × Int × Int) (hs:aD.y7 kind = some s):aD.g k msg i size kind s = some (J7 msg i size s):=by
  obtain ⟨h0,h1,h2⟩:=ht
  obtain ⟨a1,a2,a3,a4,a5,a6,a7,a8⟩:=kP hs
  obtain ⟨s0,s1,s2⟩:=s
  simp only at a1 a2 a3 a4 a5 a6 a8
  have e1:wrap64 (i + size) = i + size:=dQ (by omega) (by omega)
  have e2:wrap64 (i + size - i) = size:=by rw [dQ (by omega) (by omega)];omega
  have e3:wrap64 (i + s0) = i + s0:=dQ (by omega) (by omega)
  unfold aD.g bW.f J7
  simp only [e1,e2,e3]
  by_cases c:s0 ≤ size
  · rw [if_pos c,if_pos c,if_pos h0,if_pos (by omega),if_pos (by omega)]
    obtain ⟨k,rfl⟩:∃ j,k = j + 1:=⟨k - 1,by omega⟩
    rw [CX msg (i + size) s0 s1 s2 _ _ hm h2 ⟨a5,by omega⟩ s1 (by omega) s1.toNat k (i + s0) 0 [] (by omega) (by omega) (Int.le_refl _) (by omega) (by omega) (by simp only [List.length_nil];omega)]
    have hz:(msg.extract i.toNat (i + s0).toNat).size ≤ 16:=by rw [ByteArray.size_extract];omega
    cases hr:Fa msg (i + size) s1.toNat (i + s0) [] with
    | none =>
      simp only [Option.bind_some]
      rw [if_pos (by decide),if_pos (by decide),vJ]
    | some R =>
      obtain ⟨b1,b2,b3,l',b4,b5⟩:=qD msg _ hm _ _ _ R hr (by omega)
      have hcz:=uN b5
      rw [List.nil_append] at b4
      rw [← b4] at hcz
      rw [List.length_nil,Nat.zero_add] at b3
      have hbz:(msg.extract R.2.toNat (i + size).toNat).size = (i + size - R.2).toNat:=by rw [ByteArray.size_extract];omega
      simp only [Option.bind_some]
      rw [if_pos (by omega),if_pos (by omega)]
      by_cases d:R.2 + s2 = i + size
      · rw [if_pos d,show (((msg.extract R.2.toNat (i + size).toNat).size:Int) == s2) = true from beq_iff_eq.mpr (by omega),VN k.succ (by omega) kind a7]
      · rw [if_neg d,show (((msg.extract R.2.toNat (i + size).toNat).size:Int) == s2) = false from beq_eq_false_iff_ne.mpr (by omega),vJ]
  · rw [if_neg c,if_neg c]
    simp only [Option.bind_some]
    rw [if_pos (by decide),if_pos (by decide),vJ]
theorem VO (k:Nat) (hk:K0 + 10 ≤ k) (msg:ByteArray) (i size kind:Int) (hm:msg.size ≤ 100000):aD.f k msg i size kind = some (zR msg i size kind):=by
  unfold aD.f zR
  rw [uI msg i size (by omega)]
  simp only [Option.bind_some]
  by_cases ht:gV msg i size
  · rw [if_pos ht,if_pos ht]
    simp only [if_true]
    cases hs:aD.y7 kind with
    | some s=>exact J8 k hk msg i size kind hm ht s hs
    | none =>
      have hz:(msg.extract i.toNat (i + size).toNat).size ≤ 100000:=by rw [ByteArray.size_extract];omega
      have:=AX msg i size kind k (by omega) hm (dL.f k) (fun s h=>NA k (by omega) s h) _ hz
      unfold aD.fin
      rw [if_pos rfl]
      exact this
  · rw [if_neg ht,if_neg ht];rfl
theorem oC (k:Nat) (hk:1 ≤ k) (kind:Int):aH.f k kind = some ((aD.y7 kind).getD (0,0,0)):=by
  obtain ⟨k,rfl⟩:∃ j,k = j + 1:=⟨k - 1,by omega⟩
  unfold aH.f aD.y7
  simp only [aH.j0]
  by_cases h1:kind = 1
  · subst h1;rfl
  by_cases h2:kind = 28
  · subst h2;rfl
  by_cases h3:kind = 2
  · subst h3;rfl
  by_cases h4:kind = 5
  · subst h4;rfl
  by_cases h5:kind = 12
  · subst h5;rfl
  by_cases h6:kind = 6
  · subst h6;rfl
  by_cases h7:kind = 15
  · subst h7;rfl
  by_cases h8:kind = 33
  · subst h8;rfl
  simp [h1,h2,h3,h4,h5,h6,h7,h8]
theorem Fb (msg:ByteArray) (i size s0 s1 s2:Int) (hm:msg.size ≤ 100000) (ht:gV msg i size) (h2:0 ≤ s2 ∧ s2 ≤ 1000) (hs:s1 ≤ 100):∀ (n k:Nat) (j x:Int) (out:ByteArray),K0 + n ≤ k → x + n = s1 → 0 ≤ x → i + size < j → j ≤ (msg.size:Int) → out.size + 300 * n ≤ 1000000 →
    aX.l0 (k + 1) msg i size out j x s0 s1 s2 = some (⟨#[]⟩,4)
  | 0,k,j,x,out,hk,hx,hx0,hj,hjm,ho=>by
    obtain ⟨t0,t1,t2⟩:=ht
    rw [aX.l0,if_neg (by omega),dQ (n:=j + s2) (by omega) (by omega),dQ (n:=i + size) (by omega) (by omega),if_neg (by omega)]
  | n + 1,k,j,x,out,hk,hx,hx0,hj,hjm,ho=>by
    obtain ⟨k,rfl⟩:∃ m,k = m + 1:=⟨k - 1,by omega⟩
    rw [aX.l0,if_pos (by omega),vH (k + 1) msg j hm (qE hm (by omega) (by omega))]
    simp only [Option.bind_some]
    rcases uM msg j hm with ⟨b1,b2,_,b4,b5⟩ | ⟨b1,_⟩
    · have hz:=pU b2
      rw [if_pos b1,if_pos (by omega),dQ (n:=x + 1) (by omega) (by omega)]
      exact Fb msg i size s0 s1 s2 hm ht h2 hs n k _ _ _ (by omega) (by omega) (by omega) (by omega) b5 (by rw [ByteArray.size_append];omega)
    · rw [if_neg (by omega)]
theorem NC (msg:ByteArray) (i size s0 s1 s2:Int) (a:ByteArray) (hm:msg.size ≤ 100000) (ht:gV msg i size) (h2:0 ≤ s2 ∧ s2 ≤ 1000) (hs:s1 ≤ 100):∀ (n k:Nat) (j x:Int) (l:List ByteArray),K0 + n ≤ k → x + n = s1 → 0 ≤ x → 0 ≤ j → j ≤ i + size → (a ++ strings_Join.cat l).size + 300 * n ≤ 800000 →
    aX.l0 (k + 1) msg i size (a ++ strings_Join.cat l) j x s0 s1 s2 = some (match Fa msg (i + size) n j l with
      | some R=>if R.2 + s2 = i + size then za (a ++ strings_Join.cat R.1 ++ msg.extract R.2.toNat (i + size).toNat) else (⟨#[]⟩,4)
      | none=>(⟨#[]⟩,4))
  | 0,k,j,x,l,hk,hx,hx0,hj0,hj,ho=>by
    obtain ⟨t0,t1,t2⟩:=ht
    rw [aX.l0,if_neg (by omega),dQ (n:=j + s2) (by omega) (by omega),dQ (n:=i + size) (by omega) (by omega),Fa]
    simp only
    by_cases c:j + s2 = i + size
    · have hz:(msg.extract j.toNat (i + size).toNat).size ≤ 100000:=by rw [ByteArray.size_extract];omega
      rw [if_pos c,if_pos c,if_pos hj0,if_pos hj,if_pos t2,if_pos (by omega),vI]
    · rw [if_neg c,if_neg c]
  | n + 1,k,j,x,l,hk,hx,hx0,hj0,hj,ho=>by
    have ht0:=ht
    obtain ⟨t0,t1,t2⟩:=ht
    obtain ⟨k,rfl⟩:∃ m,k = m + 1:=⟨k - 1,by omega⟩
    rw [aX.l0,if_pos (by omega),vH (k + 1) msg j hm (qE hm (by omega) (by omega)),Fa]
    simp only [Option.bind_some]
    rcases uM msg j hm with ⟨b1,b2,_,b4,b5⟩ | ⟨b1,_⟩
    · have hz:=pU b2
      rw [if_pos b1,if_pos b1,if_pos (by omega),dQ (n:=x + 1) (by omega) (by omega)]
      by_cases c:(vZ msg j).2.1 > i + size
      · rw [if_pos c]
        exact Fb msg i size s0 s1 s2 hm ht0 h2 hs n k _ _ _ (by omega) (by omega) (by omega) (by omega) b5 (by rw [ByteArray.size_append];omega)
      · rw [if_neg c]
        have e:a ++ strings_Join.cat l ++ (vZ msg j).1 = a ++ strings_Join.cat (l ++ [(vZ msg j).1]):=by rw [Gz,Q0,ByteArray.append_assoc]
        rw [e]
        exact NC msg i size s0 s1 s2 a hm ht0 h2 hs n k _ _ _ (by omega) (by omega) (by omega) (by omega) (by omega) (by rw [← e,ByteArray.size_append];omega)
    · rw [if_neg (by omega),if_neg (by omega)]
theorem GA (k:Nat) (hk:K0 + 10 ≤ k) (msg:ByteArray) (i size kind:Int) (hm:msg.size ≤ 100000):aX.f k msg i size kind = some (zR msg i size kind):=by
  unfold aX.f zR
  rw [pO msg i size (by omega),oC k (by omega)]
  simp only [Option.bind_some]
  by_cases ht:gV msg i size
  · rw [if_pos ht,if_pos ht]
    simp only [if_true]
    obtain ⟨t0,t1,t2⟩:=ht
    have hz:(msg.extract i.toNat (i + size).toNat).size = size.toNat:=by rw [ByteArray.size_extract];omega
    cases hs:aD.y7 kind with
    | none =>
      simp only [Option.getD_none]
      rw [if_pos (by decide)]
      exact AX msg i size kind k (by omega) hm (bn.f k) (fun s h=>CZ k (by omega) s h) _ (by omega)
    | some s =>
      obtain ⟨a1,a2,a3,a4,a5,a6,a7,a8⟩:=kP hs
      obtain ⟨s0,s1,s2⟩:=s
      simp only at a1 a2 a3 a4 a5 a6 a8
      simp only [Option.getD_some]
      have main:(if s0 > size then some ((⟨#[]⟩:ByteArray),(4:Int)) else (if 0 ≤ s0 then (if s0 ≤ ((msg.extract i.toNat (i + size).toNat).size:Int) then (aX.l0 k msg i size ((msg.extract i.toNat (i + size).toNat).extract 0 (s0:Int).toNat) (wrap64 (i + s0)) 0 s0 s1 s2) else none) else none)) = some (J7 msg i size (s0,s1,s2)):=by
        unfold J7
        simp only
        by_cases c:s0 > size
        · rw [if_pos c,if_neg (by omega)]
        · rw [if_neg c,if_pos a1,if_pos (by omega),if_pos (by omega),dQ (by omega) (by omega)]
          obtain ⟨k,rfl⟩:∃ j,k = j + 1:=⟨k - 1,by omega⟩
          have e:(msg.extract i.toNat (i + size).toNat).extract 0 s0.toNat = msg.extract i.toNat (i + s0).toNat:=by
            rw [ByteArray.extract_extract];congr 1 <;> omega
          have hz2:(msg.extract i.toNat (i + s0).toNat).size ≤ 16:=by rw [ByteArray.size_extract];omega
          have h:=NC msg i size s0 s1 s2 (msg.extract i.toNat (i + s0).toNat) hm ⟨t0,t1,t2⟩ ⟨a5,by omega⟩ (by omega) s1.toNat k (i + s0) 0 [] (by omega) (by omega) (Int.le_refl _) (by omega) (by omega) (by simp only [strings_Join.cat,append_empty];omega)
          simp only [strings_Join.cat,append_empty] at h
          rw [e,h]
      have hne:¬ ((s0 == 0 && (s1 == 0 && (s2 == 0))) = true):=by
        intro h
        simp only [Bool.and_eq_true,beq_iff_eq] at h
        exact a8 h.1 h.2.1
      rw [if_neg hne]
      exact main
  · rw [if_neg ht,if_neg ht];rfl
end Go.Proofs.Ytdkkgecdhapfhaa.ZQ
namespace Go.Proofs.Ytdkkgecdhapfhaa.ZQ
open Go.RowKit Go.Proofs.YtdkkgecdhapfhaaW.bD Go.Proofs.YtdkkgecdhapfhaaW.dM Go.Proofs.YtdkkgecdhapfhaaW.eH Go.Proofs.Ytdkkgecdhapfhaa.B
def wB (kind:Int) (d:ByteArray):Bool:=decide (d.size ≤ 65535) && (decide ((zR d 0 d.size kind).2 = 0) && decide ((zR d 0 d.size kind).1 = d))
theorem uO {kind:Int} {d:ByteArray}:wB kind d = true ↔ d.size ≤ 65535 ∧ zR d 0 d.size kind = (d,0):=by
  unfold wB
  simp only [Bool.and_eq_true,decide_eq_true_eq]
  constructor
  · rintro ⟨h1,h2,h3⟩;exact ⟨h1,Prod.ext h3 h2⟩
  · rintro ⟨h1,h2⟩;rw [h2];exact ⟨h1,rfl,rfl⟩
theorem AY (k:Nat) (hk:K0 + 10 ≤ k) (kind:Int) (d:ByteArray):iR.f k kind d = some (wB kind d):=by
  unfold iR.f wB
  by_cases h:(d.size:Int) > 65535
  · rw [if_pos h,decide_eq_false (by omega)];rfl
  · rw [if_neg h,VO k hk d 0 _ kind (by omega),decide_eq_true (by omega),Bool.true_and]
    simp only [Option.bind_some]
    by_cases h0:(zR d 0 d.size kind).2 = 0
    · rw [if_pos h0,decide_eq_true h0,yT,Bool.true_and]
    · rw [if_neg h0,decide_eq_false h0,Bool.false_and]
theorem ny (k:Nat) (hk:K0 + 10 ≤ k) (kind:Int) (d:ByteArray):bS.f k kind d = some (wB kind d):=by
  unfold bS.f wB
  by_cases h:(d.size:Int) > 65535
  · rw [if_pos h,decide_eq_false (by omega)];rfl
  · rw [if_neg h,GA k hk d 0 _ kind (by omega),decide_eq_true (by omega),Bool.true_and]
    simp only [Option.bind_some]
    by_cases h0:(zR d 0 d.size kind).2 = 0
    · rw [if_pos h0,decide_eq_true h0,yT,Bool.true_and]
    · rw [if_neg h0,decide_eq_false h0,Bool.false_and]
theorem GD (d:ByteArray):gV d 0 d.size:=⟨Int.le_refl _,by omega,by omega⟩
theorem J9 {x d:ByteArray} (h:za x = (d,0)):x = d ∧ x.size ≤ 65535:=by
  unfold za at h
  split at h
  · have:=congrArg Prod.snd h;cases this
  · exact ⟨congrArg Prod.fst h,by omega⟩
theorem pV {kind:Int} {d:ByteArray} {s:Int × Int × Int} (h:wB kind d = true) (hs:aD.y7 kind = some s) :
    ∃ R,s.1 ≤ (d.size:Int) ∧ Fa d d.size s.2.1.toNat s.1 [] = some R ∧ R.2 + s.2.2 = d.size ∧ d = d.extract 0 s.1.toNat ++ strings_Join.cat R.1 ++ d.extract R.2.toNat d.size ∧ s.1 ≤ R.2 ∧ R.2 ≤ (d.size:Int) ∧ R.1.length = s.2.1.toNat ∧ (∀ x ∈ R.1,jB x = true) ∧ R.2 = s.1 + (strings_Join.cat R.1).size:=by
  obtain ⟨h0,h1⟩:=uO.mp h
  unfold zR J7 at h1
  rw [if_pos (GD d),hs] at h1
  simp only [Int.zero_add,Int.toNat_natCast] at h1
  obtain ⟨a1,a2,a3,a4,a5,a6,a7,a8⟩:=kP hs
  by_cases c:s.1 ≤ (d.size:Int)
  · rw [if_pos c] at h1
    cases hr:Fa d d.size s.2.1.toNat s.1 [] with
    | none=>rw [hr] at h1;have:=congrArg Prod.snd h1;cases this
    | some R =>
      rw [hr] at h1
      simp only at h1
      by_cases e:R.2 + s.2.2 = d.size
      · rw [if_pos e] at h1
        obtain ⟨h2,_⟩:=J9 h1
        obtain ⟨b1,b2,b3,l',b4,b5⟩:=qD d _ (by omega) _ _ _ R hr c
        rw [List.nil_append] at b4
        rw [← b4] at b5
        have hz:=congrArg ByteArray.size h2
        simp only [ByteArray.size_append,ByteArray.size_extract] at hz
        refine ⟨R,c,rfl,e,h2.symm,b1,b2,by rw [b3];simp,b5,?_⟩
        simp only [show (0:Int).toNat = 0 from rfl] at hz
        omega
      · rw [if_neg e] at h1;have:=congrArg Prod.snd h1;cases this
  · rw [if_neg c] at h1;have:=congrArg Prod.snd h1;cases this
def prt (kind:Int) (d:ByteArray):ByteArray × ByteArray × List ByteArray × Bool :=
  if wB kind d = true then (match aD.y7 kind with
    | some s=>(match Fa d d.size s.2.1.toNat s.1 [] with
      | some R=>(d.extract 0 s.1.toNat,d.extract R.2.toNat d.size,R.1,true)
      | none=>(⟨#[]⟩,⟨#[]⟩,[],false))
    | none=>(d,⟨#[]⟩,[],true)) else (⟨#[]⟩,⟨#[]⟩,[],false)
theorem vK : (⟨#[]⟩:ByteArray).size = 0:=rfl
theorem wJ (k:Nat) (hk:K0 + 20 ≤ k) (d:ByteArray) (hd:d.size ≤ 65535) (s0 s1 s2:Int) (a1:0 ≤ s0) (a3:0 ≤ s1) (a4:s1 ≤ 2) (a5:0 ≤ s2) (a6:s2 ≤ 20) (R:List ByteArray × Int) (c1:s0 ≤ (d.size:Int)) (c2:Fa d d.size s1.toNat s0 [] = some R) (c3:R.2 + s2 = d.size) :
    bW.f k d 0 (d.size:Int) s0 s1 s2 = some (d.extract 0 s0.toNat,d.extract R.2.toNat d.size,R.1,true):=by
  unfold bW.f
  have e2:wrap64 ((d.size:Int) - 0) = d.size:=by rw [dQ (by omega) (by omega)];omega
  have e3:wrap64 (0 + s0) = s0:=by rw [dQ (by omega) (by omega)];omega
  obtain ⟨b1,b2,_⟩:=qD d _ (by omega) _ _ _ R c2 c1
  have hz:((d.extract R.2.toNat d.size).size:Int) = s2:=by rw [ByteArray.size_extract];omega
  obtain ⟨k,rfl⟩:∃ j,k = j + 1:=⟨k - 1,by omega⟩
  have h:=CX d d.size s0 s1 s2 (d.extract 0 s0.toNat) ⟨#[]⟩ (by omega) (Int.le_refl _) ⟨a5,by omega⟩ s1 (by omega) s1.toNat k s0 0 [] (by omega) (by omega) (Int.le_refl _) a1 c1 (by simp only [List.length_nil];omega)
  rw [c2] at h
  simp only [Int.toNat_natCast] at h
  rw [show (((d.extract R.2.toNat d.size).size:Int) == s2) = true from beq_iff_eq.mpr hz] at h
  rw [e2,if_pos c1,if_pos (Int.le_refl _),e3,if_pos a1,if_pos c1]
  exact h
theorem Ke (k:Nat) (hk:K0 + 20 ≤ k) (kind:Int) (d:ByteArray):dn.f k kind d = some (prt kind d):=by
  unfold dn.f prt
  rw [AY k (by omega)]
  simp only [Option.bind_some]
  by_cases h:wB kind d = true
  · rw [if_pos h,if_pos h]
    cases hs:aD.y7 kind with
    | none=>rfl
    | some s =>
      obtain ⟨R,c1,c2,c3,c4,c5,c6,c7,c8,c9⟩:=pV h hs
      obtain ⟨a1,a2,a3,a4,a5,a6,a7,a8⟩:=kP hs
      obtain ⟨h0,_⟩:=uO.mp h
      obtain ⟨s0,s1,s2⟩:=s
      simp only at a1 a2 a3 a4 a5 a6 c1 c2 c3 c5
      simp only [c2]
      exact wJ k hk d h0 s0 s1 s2 a1 a3 a4 a5 a6 R c1 c2 c3
  · rw [if_neg h,if_neg h]
theorem AZ {kind:Int} {d:ByteArray}:(∀ x ∈ (prt kind d).2.2.1,jB x = true) ∧ (prt kind d).2.2.1.length ≤ 2:=by
  unfold prt
  by_cases h:wB kind d = true
  · rw [if_pos h]
    cases hs:aD.y7 kind with
    | none=>exact ⟨by simp,by simp⟩
    | some s =>
      obtain ⟨R,c1,c2,c3,c4,c5,c6,c7,c8,c9⟩:=pV h hs
      obtain ⟨a1,a2,a3,a4,a5,a6,a7,a8⟩:=kP hs
      simp only [c2]
      exact ⟨c8,by omega⟩
  · rw [if_neg h];exact ⟨by simp,by simp⟩
theorem wh (k:Nat) (hk:600 ≤ k) (n:ByteArray) (hs:n.size ≤ 1000000000):mE.f k n = some (if jB n = true then oJ n else ⟨#[]⟩):=by
  unfold mE.f
  rw [ER k hk n hs,Vq n hs]
  simp only [Option.bind_some]
  split <;> rfl
theorem ze (k:Nat) (hk:600 ≤ k) (n:ByteArray) (hs:n.size ≤ 1000000000):fB.f k n = some (if jB n = true then oJ n else ⟨#[]⟩):=by
  unfold fB.f
  rw [uG k hk n hs,M8 n hs]
  simp only [Option.bind_some]
  split <;> rfl
theorem all_eq (k:Nat) (hk:600 ≤ k):∀ l:List ByteArray,(∀ x ∈ l,jB x = true) → eG.all k l = some (l.map oJ)
  | [],_=>rfl
  | x :: l,h=>by
    have hx:=h x (by simp)
    have hz:=pU hx
    rw [eG.all,wh k hk x (by omega),if_pos hx]
    simp only [Option.bind_some]
    rw [all_eq k hk l (fun y hy=>h y (by simp [hy]))]
    rfl
theorem uP : ∀ l:List ByteArray,(strings_Join.cat (l.map oJ)).size = (strings_Join.cat l).size
  | []=>rfl
  | x :: l=>by rw [List.map_cons,strings_Join.cat,strings_Join.cat,ByteArray.size_append,ByteArray.size_append,AO,uP l]
def lw (kind:Int) (d:ByteArray):ByteArray:=(prt kind d).1 ++ strings_Join.cat ((prt kind d).2.2.1.map oJ) ++ (prt kind d).2.1
theorem Kg {kind:Int} {d:ByteArray}:(prt kind d).1.size ≤ 65535 ∧ (prt kind d).2.1.size ≤ 65535:=by
  unfold prt
  by_cases h:wB kind d = true
  · obtain ⟨h0,_⟩:=uO.mp h
    rw [if_pos h]
    cases hs:aD.y7 kind with
    | none=>exact ⟨h0,by show (⟨#[]⟩:ByteArray).size ≤ 65535;decide⟩
    | some s =>
      obtain ⟨R,c1,c2,_⟩:=pV h hs
      simp only [c2]
      simp only [ByteArray.size_extract]
      omega
  · rw [if_neg h];exact ⟨by decide,by decide⟩
theorem Q5 (k:Nat) (hk:K0 + 20 ≤ k) (kind:Int) (d:ByteArray):eG.f k kind d = some (lw kind d):=by
  obtain ⟨p1,p2⟩:=@AZ kind d
  obtain ⟨p3,p4⟩:=@Kg kind d
  have hcz:=uN p1
  unfold eG.f
  rw [Ke k hk]
  simp only [Option.bind_some]
  rw [all_eq k (by unfold K0 at hk;omega) _ p1]
  simp only [Option.bind_some]
  unfold eG.fin lw
  rw [if_pos (by rw [uP];omega),if_pos (by rw [List.length_map];omega)]
theorem uQ (d:ByteArray) (e s0 s1 s2:Int) (hm:d.size ≤ 100000) (he:e ≤ (d.size:Int)) (hs:s1 ≤ 100):∀ (n k:Nat) (l:List ByteArray) (i x:Int) (R:List ByteArray × Int),K0 + n ≤ k → x + n = s1 → 0 ≤ x → i ≤ e → l.length + n ≤ 1000 → Fa d e n i l = some R →
    bg.l0 (k + 1) d l i x s0 s1 s2 = some R.1
  | 0,k,l,i,x,R,hk,hx,hx0,hi,hl,h=>by
    cases h
    rw [bg.l0,if_neg (by omega)]
  | n + 1,k,l,i,x,R,hk,hx,hx0,hi,hl,h=>by
    obtain ⟨k,rfl⟩:∃ m,k = m + 1:=⟨k - 1,by omega⟩
    rw [Fa] at h
    rw [bg.l0,if_pos (by omega),vH (k + 1) d i hm (qE hm (by omega) (by omega))]
    simp only [Option.bind_some]
    by_cases h0:(vZ d i).2.2 = 0
    · rw [if_pos h0] at h
      by_cases h1:(vZ d i).2.1 > e
      · rw [if_pos h1] at h;cases h
      · rw [if_neg h1] at h
        rw [if_pos (by omega),dQ (by omega) (by omega)]
        exact uQ d e s0 s1 s2 hm he hs n k _ _ _ R (by omega) (by omega) (by omega) (by omega) (by rw [List.length_append,List.length_singleton];omega) h
    · rw [if_neg h0] at h;cases h
theorem C8 (k:Nat) (hk:K0 + 20 ≤ k) (kind:Int) (d:ByteArray):bg.f k kind d = some (prt kind d).2.2.1:=by
  unfold bg.f prt
  rw [ny k (by omega),oC k (by omega)]
  simp only [Option.bind_some]
  obtain ⟨k,rfl⟩:∃ j,k = j + 1:=⟨k - 1,by omega⟩
  by_cases h:wB kind d = true
  · rw [if_pos h,if_pos h]
    obtain ⟨h0,_⟩:=uO.mp h
    cases hs:aD.y7 kind with
    | none =>
      rw [Option.getD_none,bg.l0,if_neg (by decide)]
    | some s =>
      obtain ⟨R,c1,c2,c3,c4,c5,c6,c7,c8,c9⟩:=pV h hs
      obtain ⟨a1,a2,a3,a4,a5,a6,a7,a8⟩:=kP hs
      simp only [c2,Option.getD_some]
      exact uQ d d.size _ _ _ (by omega) (Int.le_refl _) (by omega) s.2.1.toNat k [] s.1 0 R (by omega) (by omega) (Int.le_refl _) c1 (by simp only [List.length_nil];omega) c2
  · rw [if_neg h,if_neg h]
theorem Q6 {α} (d:α) (p:List α) (x:α) (s:List α):pz d (p ++ x :: s) (p.length:Int) = x:=by
  unfold pz;simp
theorem r9 (d:ByteArray) (hd:d.size ≤ 65535) (xs:List ByteArray) (hxs:xs.length ≤ 1000):∀ (suf pre:List ByteArray) (k:Nat) (out:ByteArray) (i:Int),xs = pre ++ suf → (∀ x ∈ suf,jB x = true) → 700 + suf.length ≤ k → 0 ≤ i → i + (strings_Join.cat suf).size ≤ d.size → out.size + (strings_Join.cat suf).size ≤ 1000000 →
    bG.l0 (k + 1) d xs out i (pre.length:Int) = some (out ++ strings_Join.cat (suf.map oJ) ++ d.extract (i + (strings_Join.cat suf).size).toNat d.size)
  | [],pre,k,out,i,hx,hn,hk,hi,hs,ho=>by
    rw [List.append_nil] at hx
    subst hx
    have hz:(d.extract i.toNat d.size).size ≤ 65535:=by rw [ByteArray.size_extract];omega
    simp only [strings_Join.cat,List.map_nil,EF,append_empty] at hs ho ⊢
    rw [bG.l0,if_neg (by omega),if_pos hi,if_pos (by omega),if_pos (by omega)]
    congr 3
    omega
  | x :: suf,pre,k,out,i,hx,hn,hk,hi,hs,ho=>by
    obtain ⟨k,rfl⟩:∃ j,k = j + 1:=⟨k - 1,by simp only [List.length_cons] at hk;omega⟩
    have hxn:=hn x (by simp)
    have hz:=pU hxn
    have hrd:pz ByteArray.empty xs (pre.length:Int) = x:=by rw [hx];exact Q6 _ _ _ _
    have hl:(xs.length:Int) = pre.length + suf.length + 1:=by rw [hx];simp;omega
    simp only [List.length_cons,strings_Join.cat,ByteArray.size_append] at hk hs ho
    have hlz:=AO x
    rw [bG.l0,if_pos (by omega),if_pos (by omega),hrd,ze (k + 1) (by omega) x (by omega),if_pos hxn]
    simp only [Option.bind_some]
    rw [if_pos (by omega),dQ (n:=i + (x.size:Int)) (by omega) (by omega),dQ (by omega) (by omega),show ((pre.length:Int) + 1) = ((pre ++ [x]).length:Int) from by simp]
    have:=r9 d hd xs hxs suf (pre ++ [x]) k (out ++ oJ x) (i + x.size) (by rw [hx];simp) (fun y hy=>hn y (by simp [hy])) (by omega) (by omega) (by omega) (by rw [ByteArray.size_append];omega)
    rw [this]
    have e:i + (x.size:Int) + ((strings_Join.cat suf).size:Int) = i + ((x.size + (strings_Join.cat suf).size:Nat):Int):=by omega
    rw [e]
    simp only [List.map_cons,strings_Join.cat,ByteArray.size_append,ByteArray.append_assoc]
theorem GH (k:Nat) (hk:K0 + 20 ≤ k) (kind:Int) (d:ByteArray):bG.f k kind d = some (lw kind d):=by
  obtain ⟨p1,p2⟩:=@AZ kind d
  unfold bG.f
  rw [ny k (by omega),C8 k hk,oC k (by omega)]
  simp only [Option.bind_some]
  unfold lw prt
  unfold prt at p1 p2
  unfold K0 at hk
  obtain ⟨k,rfl⟩:∃ j,k = j + 1:=⟨k - 1,by omega⟩
  by_cases h:wB kind d = true
  · simp only [if_pos h] at p1 p2 ⊢
    obtain ⟨h0,_⟩:=uO.mp h
    cases hs:aD.y7 kind with
    | none =>
      simp only [Option.getD_none]
      rw [if_pos (Int.le_refl _),if_pos (by omega)]
      have:=r9 d h0 [] (by simp) [] [] k (d.extract 0 0) 0 rfl (by simp) (by simp only [List.length_nil];omega) (Int.le_refl _) (by simp only [strings_Join.cat,vK];omega) (by simp only [strings_Join.cat,vK,ByteArray.size_extract];omega)
      simp only [List.length_nil] at this
      rw [show ((0:Int).toNat) = 0 from rfl,show ((0:Nat):Int) = 0 from rfl] at *
      rw [this]
      have e0:d.extract 0 0 = ⟨#[]⟩:=eq_empty (by rw [ByteArray.size_extract];omega)
      simp [strings_Join.cat,e0,empty_append,append_empty,vK,ByteArray.extract_zero_size]
    | some s =>
      obtain ⟨R,c1,c2,c3,c4,c5,c6,c7,c8,c9⟩:=pV h hs
      obtain ⟨a1,a2,a3,a4,a5,a6,a7,a8⟩:=kP hs
      simp only [hs,c2,Option.getD_some] at p1 p2 ⊢
      have hcz:=uN p1
      rw [if_pos a1,if_pos c1]
      have:=r9 d h0 R.1 (by omega) R.1 [] k (d.extract 0 s.1.toNat) s.1 rfl p1 (by omega) a1 (by omega) (by rw [ByteArray.size_extract];omega)
      rw [show ((([]:List ByteArray).length:Nat):Int) = 0 from rfl] at this
      rw [this,c9]
  · simp only [if_neg h]
    rfl
end Go.Proofs.Ytdkkgecdhapfhaa.ZQ
set_option maxRecDepth 100000
namespace Go.Proofs.Ytdkkgecdhapfhaa.Ka
open Go Go.RowKit Ev
abbrev AG := List AV → Option (List AV × List AV)
def SL (g:ByteArray → SV):AG:=fun gK=>match gK with
  | [.one (.f (.str q))]=>if q.size ≤ 1000000 then some (Mf [g q],Mf [.str q]) else none
  | _=>none
def SN (g:Int → ByteArray → SV):AG:=fun gK=>match gK with
  | [.one (.f (.int .i64 k)),.one (.f (.str q))]=>if q.size ≤ 1000000 then some (Mf [g k q],Mf [.int .i64 k,.str q]) else none
  | _=>none
theorem wW {f:FuncId} {g:ByteArray → SV} (h:∀ q w,q.size ≤ 1000000 → Calls Try.prog f #[.string q] w fun e w'=>e = .returned (encS (g q)) ∧ Below w.heap.size w w'):Sat Try.prog f (SL g):=by
  refine Sat.xg fun gK r he=>?_
  unfold SL at he
  split at he
  · split at he
    · cases he;rename_i q hq;exact ⟨[.str q],[g q],rfl,rfl,fun w=>h q w hq⟩
    · cases he
  · cases he
theorem wX {f:FuncId} {g:Int → ByteArray → SV} (h:∀ k q w,q.size ≤ 1000000 → Calls Try.prog f #[.int .i64 k,.string q] w fun e w'=>e = .returned (encS (g k q)) ∧ Below w.heap.size w w'):Sat Try.prog f (SN g):=by
  refine Sat.xg fun gK r he=>?_
  unfold SN at he
  split at he
  · split at he
    · cases he;rename_i k q hq;exact ⟨[.int .i64 k,.str q],[g k q],rfl,rfl,fun w=>h k q w hq⟩
    · cases he
  · cases he
def VP (q:ByteArray):ByteArray:=if B.jB q = true then B.oJ q else ⟨#[]⟩
def A8 : Th:=⟨B.jB,VP,ZQ.wB,ZQ.lw⟩
def leafs : List (FuncId × AG):=[
  (91,SL fun q=>.bool (B.jB q)),(92,SL fun q=>.str (VP q)),
  (100,SL fun q=>.bool (B.jB q)),(101,SL fun q=>.str (VP q)),
  (94,SN fun k q=>.bool (ZQ.wB k q)),(95,SN fun k q=>.str (ZQ.lw k q)),
  (83,SN fun k q=>.bool (ZQ.wB k q)),(84,SN fun k q=>.str (ZQ.lw k q)),
  (88,Pv 1 false),(70,Pv 3 true)]
theorem Fe : ∀ p ∈ leafs,Sat Try.prog p.1 p.2:=by
  have hk:∀ q:ByteArray,q.size ≤ 1000000 → q.size ≤ 1000000000:=fun q h=>by omega
  intro p hp
  simp only [leafs,List.mem_cons,List.not_mem_nil,or_false] at hp
  rcases hp with rfl | rfl | rfl | rfl | rfl | rfl | rfl | rfl | rfl | rfl
  · exact wW fun q w hq=>ZQ.iO.calls 600 q _ w (ZQ.ER 600 (Nat.le_refl _) q (hk q hq))
  · exact wW fun q w hq=>ZQ.mE.calls 600 q _ w (ZQ.wh 600 (Nat.le_refl _) q (hk q hq))
  · exact wW fun q w hq=>ZQ.dB.calls 600 q _ w (ZQ.uG 600 (Nat.le_refl _) q (hk q hq))
  · exact wW fun q w hq=>ZQ.fB.calls 600 q _ w (ZQ.ze 600 (Nat.le_refl _) q (hk q hq))
  · exact wX fun k q w hq=>ZQ.iR.calls _ k q _ w (ZQ.AY (ZQ.K0 + 20) (by omega) k q)
  · exact wX fun k q w hq=>ZQ.eG.calls _ k q _ w (ZQ.Q5 (ZQ.K0 + 20) (by omega) k q)
  · exact wX fun k q w hq=>ZQ.bS.calls _ k q _ w (ZQ.ny (ZQ.K0 + 20) (by omega) k q)
  · exact wX fun k q w hq=>ZQ.bG.calls _ k q _ w (ZQ.GH (ZQ.K0 + 20) (by omega) k q)
  · exact Pw
  · exact Px
theorem zf : ∀ p ∈ leafs,∃ fn,Try.prog.funcs[p.1]? = some fn ∧ (fn.name == "runtime.NumGoroutine") = false ∧ fn.body.isSome = true:=by
  intro p hp
  simp only [leafs,List.mem_cons,List.not_mem_nil,or_false] at hp
  rcases hp with rfl | rfl | rfl | rfl | rfl | rfl | rfl | rfl | rfl | rfl
  · exact ⟨Try.f91,by kernel_rfl,by kernel_rfl,by kernel_rfl⟩
  · exact ⟨Try.f92,by kernel_rfl,by kernel_rfl,by kernel_rfl⟩
  · exact ⟨Try.f100,by kernel_rfl,by kernel_rfl,by kernel_rfl⟩
  · exact ⟨Try.f101,by kernel_rfl,by kernel_rfl,by kernel_rfl⟩
  · exact ⟨Try.f94,by kernel_rfl,by kernel_rfl,by kernel_rfl⟩
  · exact ⟨Try.f95,by kernel_rfl,by kernel_rfl,by kernel_rfl⟩
  · exact ⟨Try.f83,by kernel_rfl,by kernel_rfl,by kernel_rfl⟩
  · exact ⟨Try.f84,by kernel_rfl,by kernel_rfl,by kernel_rfl⟩
  · exact ⟨Try.f88,by kernel_rfl,by kernel_rfl,by kernel_rfl⟩
  · exact ⟨Try.f70,by kernel_rfl,by kernel_rfl,by kernel_rfl⟩
def GI : Env:=q8 leafs
theorem Q7 : iT Try.prog GI:=yC Fe
theorem Kh : eT Try.prog GI:=rU zf
noncomputable def ins : List (FuncId × AG):=(19,vR GI 200000000000001 9) :: leafs
theorem VQ : ∀ p ∈ ins,Sat Try.prog p.1 p.2:=by
  intro p hp
  rcases List.mem_cons.mp hp with rfl | hp
  · exact Py Q7 Kh _ _
  · exact Fe p hp
theorem ND : ∀ p ∈ ins,∃ fn,Try.prog.funcs[p.1]? = some fn ∧ (fn.name == "runtime.NumGoroutine") = false ∧ fn.body.isSome = true:=by
  intro p hp
  rcases List.mem_cons.mp hp with rfl | hp
  · exact ⟨Try.f19,by kernel_rfl,by kernel_rfl,by kernel_rfl⟩
  · exact zf p hp
noncomputable def ext1 : Env:=q8 ins
theorem Q8 : iT Try.prog ext1:=yC VQ
theorem Ki : eT Try.prog ext1:=rU ND
theorem aaQ : A8.Ok GI:=by
  constructor <;> intros <;> simp_all [GI,leafs,q8,SL,SN,Mf,Za,A8,vs,vb,vi]
theorem VR : A8.Ok ext1:=by
  constructor <;> intros <;> simp_all [ext1,ins,leafs,q8,SL,SN,Mf,Za,A8,vs,vb,vi]
theorem I5 {α:Type} (sz:Nat) (own:Bool) (l:List α) (f:α → List FV) (hf:∀ x,(f x).length = sz) (h:l.length ≤ 1000000):Pv sz own [vl (l.map f)] = some ([.one (if own then .own sz (l.map f) else .f (.sl (l.map f)))],[vl (l.map f)]):=by
  have h1:((l.map f).all fun r=>r.length == sz) = true:=by
    rw [List.all_eq_true];intro r hr;obtain ⟨x, -,rfl⟩:=List.mem_map.mp hr;exact beq_iff_eq.mpr (hf x)
  show (if (l.map f).length ≤ 1000000 ∧ _ then _ else _) = _
  rw [if_pos ⟨by rw [List.length_map];exact h,h1⟩]
theorem aaR (l:List ByteArray) (h:l.length ≤ 1000000):Pv 1 false [vl (l.map fU)] = some ([vl (l.map fU)],[vl (l.map fU)]):=I5 1 false l fU (fun _=>rfl) h
theorem aaS (l:List Qn) (h:l.length ≤ 1000000):Pv 3 true [vl (l.map rQ)] = some ([.one (.own 3 (l.map rQ))],[vl (l.map rQ)]):=I5 3 true l rQ (fun _=>rfl) h
theorem aaT : rP GI:=⟨fun l h=>aaS l h,fun l h=>aaR l h⟩
theorem VT : rP ext1:=⟨fun l h=>aaS l h,fun l h=>aaR l h⟩
theorem Fg (gK:List AV):ext1 19 gK = vR GI 200000000000001 (0 + 9) gK:=by
  unfold ext1 ins q8;rw [if_pos rfl]
theorem Q9 : Et A8 ext1 where
  p0 now x r:=by rw [Fg];exact Mj now x r
  p1 s now x r h1 h2 h3 _ h4 h5 h6:=by rw [Fg];exact Mk aaQ aaT s now x r (Nat.le_refl _) h1 h2 h3 h4 h5 h6
theorem Ra : A8.Live:=by constructor <;> decide +kernel
end Go.Proofs.Ytdkkgecdhapfhaa.Ka
namespace Go.Proofs.Ytdkkgecdhapfhaa.Ev
open Go Go.RowKit
structure Old (w w':World):Prop where
  os:w'.os = w.os
  output:w'.output = w.output
  size:w.heap.size ≤ w'.heap.size
  block:∀ k,k < w.heap.size → w'.heap[k]? = w.heap[k]?
theorem Old.frame {W w':World} (h:Old W w') (may:MemPlace → Prop):W.keptBut w' may:=by
  refine ⟨h.os,h.output,fun i hi=>?_⟩
  rw [h.block i hi]
  split <;> simp_all
theorem Old.same {W w':World} (h:Old W w') {p:MemPlace} (hp:p.block < W.heap.size):W.sameAt w' p:=by
  cases p with
  | cell b o=>exact World.cell?_of_block (w:=W) (h.block b hp)
  | map b=>exact h.block b hp
theorem Old.trod {H:Type} {enc:TypeId × Value → H} {P:Program} {t:TypeId} (hl:laidOutB P = true) (hr:P.readableRec t = true) (hrow:t < P.types.size) {W W':World} {v:Value} {d:DataW H} {ps:List MemPlace}
    (h:DataW.Trod enc P W 0 (fun _=>true) true t v d ps) (hb:Old W W') (hlt:∀ x ∈ ps,x.block < W.heap.size):DataW.Trod enc P W' 0 (fun b=>decide (b < W.heap.size)) true t v d ps :=
  WideElems.Trod_stays hl hr hrow h (fun x hx=>hb.same (hlt x hx)) (fun x hx=>by simpa using hlt x hx)
theorem Kj {P:Program} {Γ:Env} (mI:iT P Γ) {f:FuncId} {gK sw:List AV} {b:Bool} {vals:List Value} {W:World} (h:Γ f gK = some ([.one (.f (.bool b))],sw)) (ha:fP (fun k=>k < W.heap.size) W gK vals []) :
    Calls P f vals.toArray W fun e W'=>e = .returned (.bool b) ∧ Old W W':=by
  refine (mI f gK _ _ h (fun k=>k < W.heap.size) W vals [] ha List.nodup_nil (by simp) (fun _ h=>h)).mono fun e w' ⟨bK,uZ,b1,b2,he,hp⟩=>?_
  refine ⟨?_,hp.kp.1,hp.kp.2,hp.big,fun k hk=>hp.ext k hk (by simp)⟩
  match uZ,hp.rs with
  | [v],⟨c1,c2,h1,h2,h3⟩=>rw [he,show v = .bool b from h1.1];rfl
def I6 (P:Program) {α:Type} (T:TypeId) (f:α → List FV) (G:α → Prop):Prop :=
  ∀ {H:Type} (enc:TypeId × Value → H) (w:World) (spare:Nat → Bool) (held:Bool) (fuel:Nat) (cs:List Value) (x:DataW H × List MemPlace),
    DataW.trod enc P w 0 spare held fuel T cs = some x → (∀ n ∈ x.1.weights P T,n ≤ reachBytes) → ∃ a:α,cO (fun k=>k < w.heap.size) w (f a) cs ∧ G a
section
variable {P : Program}
theorem qF {k:IntKind} {T:TypeId} (h:P.underlying T = some (.int k)):I6 P T (fun n=>[FV.int k n]) (fun n=>(Lit.int k n).wf = true):=by
  intro H enc w spare held fuel cs x hx _
  obtain ⟨n,rfl,rfl,hw⟩:=DataW.trod_int h hx
  exact ⟨n,⟨by simp only [fu],trivial⟩,hw⟩
theorem I7 {T:TypeId} (h:P.underlying T = some .string):I6 P T (fun s=>[FV.str s]) (fun s=>s.size ≤ 140737488351232):=by
  intro H enc w spare held fuel cs x hx hz
  obtain ⟨s,rfl,rfl,hw⟩:=DataW.trod_string h hx
  refine ⟨s,⟨by simp only [fu],trivial⟩,?_⟩
  have:=hz s.data.toList.length (by simp [DataW.weights])
  rw [Array.length_toList] at this
  exact this
theorem nT {H:Type} {e:TypeId}:∀ {ds:List (DataW H)} {i:Nat} {d:DataW H},ds[i]? = some d → ∀ n ∈ d.weights P e,n ∈ DataW.weightsAll P e ds
  | [],i,d,h,_,_=>by simp at h
  | d0 :: ds,0,d,h,n,hn=>by
    simp at h;subst h
    exact List.mem_append.mpr (.inl hn)
  | d0 :: ds,i + 1,d,h,n,hn=>by
    simp at h
    exact List.mem_append.mpr (.inr (nT h n hn))
theorem Fh {H:Type} {ts:List TypeId} {ds:List (DataW H)} (h:(DataW.weightsEach P ts ds).all (· ≤ reachBytes) = true) {j:Nat} {t:TypeId} {d:DataW H} (ht:ts[j]? = some t) (hd:ds[j]? = some d) :
    ∀ n ∈ d.weights P t,n ≤ reachBytes:=fun n hn=>by
  have:=List.all_eq_true.1 h n (DataW.weights_mem_each ht hd n hn)
  simpa using this
theorem uR {α:Type} {Q:Nat → α → Prop}:∀ n,(∀ i,i < n → ∃ y,Q i y) → ∃ ys:List α,ys.length = n ∧ ∀ i y,ys[i]? = some y → Q i y
  | 0,_=>⟨[],rfl,by simp⟩
  | n + 1,h=>by
    obtain ⟨ys,hl,hq⟩:=uR n (fun i hi=>h i (by omega))
    obtain ⟨y,hy⟩:=h n (by omega)
    refine ⟨ys ++ [y],by simp [hl],fun i z hz=>?_⟩
    by_cases hi:i < n
    · rw [List.getElem?_append_left (by omega)] at hz
      exact hq i z hz
    · have hlt:=(List.getElem?_eq_some_iff.1 hz).1
      simp only [List.length_append,List.length_singleton] at hlt
      obtain rfl:i = n:=by omega
      rw [List.getElem?_append_right (by omega),hl,Nat.sub_self] at hz
      simp at hz
      subst hz
      exact hy
theorem A9 {Fz:Nat → Prop} {w:World} {b:Nat}:∀ (xs:List FV) (cs:List Value) (o:Nat),cO Fz w xs cs → (∀ i u,cs[i]? = some u → w.cell? ⟨b,o + i,none⟩ = some u) → dY Fz w b o xs
  | [],_,_,_,_=>by simp only [dY]
  | x :: xs,[],_,h,_=>h.elim
  | x :: xs,c :: cs,o,h,hc=>by
    simp only [dY]
    exact ⟨⟨c,hc 0 c rfl,h.1⟩,A9 xs cs (o + 1) h.2 fun i u hi=>by rw [show o + 1 + i = o + (i + 1) from by omega];exact hc (i + 1) u hi⟩
theorem zh {Fz:Nat → Prop} {w:World} {sz b:Nat} {α:Type} {f:α → List FV} (hf:∀ a,(f a).length = sz):∀ (l:List α) (o:Nat),(∀ i y,l[i]? = some y → dY Fz w b (o + i * sz) (f y)) → dh Fz w sz b o (l.map f)
  | [],_,_=>by simp only [List.map_nil,dh]
  | y :: l,o,h=>by
    simp only [List.map_cons,dh]
    refine ⟨hf y,by simpa using h 0 y rfl,zh hf l (o + sz) fun i z hz=>?_⟩
    rw [show o + sz + i * sz = o + (i + 1) * sz from by rw [Nat.add_mul];omega]
    exact h (i + 1) z hz
theorem Kk (a:Addr) (x y:Nat):(a.add x).add y = a.add (x + y):=by
  unfold Addr.add
  by_cases hx:x = 0
  · subst hx;simp
  · by_cases hy:y = 0
    · subst hy;simp [hx]
    · simp [hx,hy,Nat.add_assoc]
theorem zi {w:World} {a:Addr} {u:Value} (h:w.cell? a = some u):a = ⟨a.block,a.off,none⟩ ∧ a.block < w.heap.size:=by
  unfold World.cell? at h
  split at h
  · rename_i c _ _ hb
    split at h
    · cases h
    · rename_i hs
      obtain ⟨b,o,s⟩:=a
      cases s with
      | none=>exact ⟨rfl,by have:=(Array.getElem?_eq_some_iff.mp hb).1;exact this⟩
      | some s=>simp at hs
  · cases h
theorem Ba {α:Type} {f:α → List FV} {T e:TypeId} {G:α → Prop} (sz:Nat) (h:P.underlying T = some (.slice e)) (hc:P.cellsOf e = sz) (h0:0 < sz) (hf:∀ a,(f a).length = sz) (hby:decide (1 ≤ P.bytesOf e) = true) (hd:I6 P e f G) :
    I6 P T (fun l:List α=>[FV.sl (l.map f)]) (fun l=>l.length ≤ 140737488351232 ∧ ∀ x ∈ l,G x):=by
  intro H enc w spare held fuel cs x hx hz
  rcases DataW.trod_slice h hx with ⟨rfl,rfl⟩ | ⟨a,len,cap,elems,rest,n,_,rfl,rfl,hb,hl,hm,hlen,hel,_,_⟩
  · refine ⟨[],⟨?_,trivial⟩,by simp⟩
    simp only [fu]
    exact ⟨none,0,rfl,Nat.le_refl _,by simp,.inl rfl⟩
  · have hw:∀ m ∈ (elems.length + rest.length) * P.bytesOf e :: (DataW.weightsAll P e (elems.map (·.1)) ++ DataW.weightsAll P e (rest.map (·.1))),m ≤ reachBytes:=by
      intro m hm'
      refine hz m ?_
      simp only [DataW.weights,h,List.length_map]
      exact hm'
    obtain ⟨ys,hyl,hys⟩:=uR (α:=α) (Q:=fun i y=>∃ c,w.cells? 0 (a.add (i * P.cellsOf e)) (P.cellsOf e) = some c ∧ cO (fun k=>k < w.heap.size) w (f y) c ∧ G y) len (fun i hi=>by
      have h1:=hel i hi
      rw [List.getElem?_eq_getElem (by omega),Option.bind_eq_some_iff] at h1
      obtain ⟨c,hc1,hc2⟩:=h1
      obtain ⟨y,hy,hg⟩:=hd enc w spare held n c _ hc2 (fun m hm'=>by
        refine hw m (List.mem_cons_of_mem _ (List.mem_append.mpr (.inl ?_)))
        exact nT (i:=i) (d:=(elems[i]'(by omega)).1) (by rw [List.getElem?_map,List.getElem?_eq_getElem (by omega)];rfl) m hm')
      exact ⟨y,c,hc1,hy,hg⟩)
    have hlen1:(elems.length + rest.length) * P.bytesOf e ≤ reachBytes:=hw _ (by simp)
    have hlm:cap ≤ 9223372036854775807:=by unfold maxLen at hm;omega
    refine ⟨ys,⟨?_,trivial⟩,?_,?_⟩
    · simp only [fu,List.length_map]
      refine ⟨some a,cap,by rw [hyl],by omega,by omega,?_⟩
      cases hy0:ys with
      | nil=>exact .inl rfl
      | cons y0 ys0 =>
        right
        obtain ⟨c0,k0,_,_⟩:=hys 0 y0 (by rw [hy0];rfl)
        rw [hc] at k0
        obtain ⟨_,kl,kc⟩:=World.cells?_some k0
        have k1:=kc 0 h0
        rw [List.getElem?_eq_getElem (by omega)] at k1
        obtain ⟨ea,eb⟩:=zi k1
        have ea0:(a.add (0 * sz)).add 0 = a:=by simp [Addr.add]
        rw [ea0] at ea eb
        refine ⟨a.block,a.off,sz,congrArg some ea,eb,?_⟩
        rw [← hy0]
        refine zh hf ys a.off fun i y hi=>?_
        obtain ⟨c,hc1,hk,_⟩:=hys i y hi
        rw [hc] at hc1
        obtain ⟨_,hcl,hcc⟩:=World.cells?_some hc1
        refine A9 _ c _ hk fun j u hj=>?_
        have hj':j < sz:=by have:=(List.getElem?_eq_some_iff.1 hj).1;omega
        have:=hcc j hj'
        rw [Kk,hj] at this
        obtain ⟨e1,_⟩:=zi this
        rw [e1] at this
        have e2:a.add (i * sz + j) = ⟨a.block,a.off + i * sz + j,none⟩:=by
          rw [ea];unfold Addr.add;split
          · rename_i hz;congr 1;simp only;omega
          · congr 1;simp only;omega
        rw [e2] at this
        exact this
    · rw [hyl,← hlen]
      have h1:elems.length * P.bytesOf e ≤ (elems.length + rest.length) * P.bytesOf e:=Nat.mul_le_mul_right _ (by omega)
      have h2:reachBytes = 140737488351232:=rfl
      have h3:elems.length * 1 ≤ elems.length * P.bytesOf e:=Nat.mul_le_mul_left _ (of_decide_eq_true hby)
      omega
    · intro y hy
      obtain ⟨i,hi,rfl⟩:=List.mem_iff_getElem.1 hy
      obtain ⟨_,_,_,hg⟩:=hys i _ (List.getElem?_eq_getElem hi)
      exact hg
def Rb (P:Program) {α:Type} (sz:Nat) (f:α → List FV) (fs:List (TypeId × Nat)) (off:Nat) (G:α → Prop):Prop :=
  ∀ {H:Type} (enc:TypeId × Value → H) (w:World) (spare:Nat → Bool) (held:Bool) (n:Nat) (cs:List Value) (xs:List (DataW H × List MemPlace)),
    (∀ (i:Nat) (f:TypeId × Nat),fs[i]? = some f → DataW.trod enc P w 0 spare held n f.1 ((cs.drop f.2).take (P.cellsOf f.1)) = xs[i]?) → xs.length = fs.length →
    (∀ (i:Nat) (x:DataW H × List MemPlace) (f:TypeId × Nat),xs[i]? = some x → fs[i]? = some f → ∀ m ∈ x.1.weights P f.1,m ≤ reachBytes) → cs.length = off + sz → ∃ a,cO (fun k=>k < w.heap.size) w (f a) (cs.drop off) ∧ G a
theorem vL {α:Type} {sz:Nat} {f:α → List FV} {t:TypeId} {off:Nat} {G:α → Prop} (hd:I6 P t f G) (hc:P.cellsOf t = sz):Rb P sz f [(t,off)] off G:=by
  intro H enc w spare held n cs xs hf hl hw hn
  match xs,hl with
  | [y],_ =>
    have h1:=hf 0 _ rfl
    have h2:(cs.drop off).take (P.cellsOf t) = cs.drop off:=List.take_of_length_le (by rw [List.length_drop];omega)
    rw [h2] at h1
    exact hd enc w spare held n _ y h1 (hw 0 y _ rfl rfl)
theorem Bb {Fz:Nat → Prop} {w:World}:∀ {xs ys:List FV} {cs ds:List Value},cO Fz w xs cs → cO Fz w ys ds → cO Fz w (xs ++ ys) (cs ++ ds)
  | [],_,[],_,_,h=>h
  | [],_,_ :: _,_,h,_=>h.elim
  | _ :: _,_,[],_,h,_=>h.elim
  | x :: xs,ys,c :: cs,ds,h,k=>⟨h.1,Bb h.2 k⟩
theorem kQ {α β:Type} {sz sz':Nat} {f:α → List FV} {g:β → List FV} {t:TypeId} {fs:List (TypeId × Nat)} {off:Nat} {G:α → Prop} {G':β → Prop} (hd:I6 P t f G) (hc:P.cellsOf t = sz)
    (hr:Rb P sz' g fs (off + sz) G'):Rb P (sz + sz') (fun p:α × β=>f p.1 ++ g p.2) ((t,off) :: fs) off (fun p=>G p.1 ∧ G' p.2):=by
  intro H enc w spare held n cs xs hf hl hw hn
  match xs,hl with
  | y :: ys,hl =>
    have h1:=hf 0 _ rfl
    obtain ⟨a,ha,ga⟩:=hd enc w spare held n _ y h1 (hw 0 y _ rfl rfl)
    obtain ⟨b,hb,gb⟩:=hr enc w spare held n cs ys (fun i f hi=>hf (i + 1) f hi) (by simpa using hl) (fun i x f hx hfi=>hw (i + 1) x f hx hfi) (by omega)
    refine ⟨(a,b),?_,ga,gb⟩
    have e:cs.drop off = (cs.drop off).take (P.cellsOf t) ++ cs.drop (off + sz):=by rw [← List.drop_drop,hc,List.take_append_drop]
    rw [e]
    exact Bb ha hb
theorem sj {α:Type} {sz:Nat} {f:α → List FV} {T:TypeId} {fs:Array Field} {G:α → Prop} (h:P.underlying T = some (.struct fs)) (hc:P.cellsOf T = sz)
    (hd:Rb P sz f (fs.toList.map fun f=>(f.type,f.offset)) 0 G):I6 P T f G:=by
  intro H enc w spare held fuel cs x hx hz
  obtain ⟨xs,n,_,rfl,hl,hlen,hf⟩:=DataW.trod_struct h hx
  have hd':=hd enc w spare held n cs xs ?_ (by rw [List.length_map,Array.length_toList];exact hlen) ?_ (by rw [Nat.zero_add,← hc];exact hl)
  · obtain ⟨a,ha,ga⟩:=hd'
    exact ⟨a,by simpa using ha,ga⟩
  · intro i f hi
    rw [List.getElem?_map,Option.map_eq_some_iff] at hi
    obtain ⟨f',hf',rfl⟩:=hi
    exact hf i f' (by rw [← Array.getElem?_toList];exact hf')
  · intro i x f hxi hfi m hm
    refine hz m ?_
    simp only [DataW.weights,h]
    refine DataW.weights_mem_each (j:=i) (t:=f.1) (d:=x.1) ?_ ?_ m hm
    · rw [List.getElem?_map] at hfi ⊢
      rw [Option.map_eq_some_iff] at hfi ⊢
      obtain ⟨f',hf',rfl⟩:=hfi
      exact ⟨f',hf',rfl⟩
    · rw [List.getElem?_map,hxi];rfl
theorem wY {α β:Type} {T:TypeId} {f:α → List FV} {f':β → List FV} {G:α → Prop} {G':β → Prop} (g:α → β) (hg:∀ a,f' (g a) = f a) (hG:∀ a,G a → G' (g a)) (hd:I6 P T f G):I6 P T f' G':=by
  intro H enc w spare held fuel cs x hx hz
  obtain ⟨a,ha,ga⟩:=hd enc w spare held fuel cs x hx hz
  exact ⟨g a,by rw [hg];exact ha,hG a ga⟩
theorem Fj {Fz:Nat → Prop} {w:World} {x:FV} {v:Value} (h:fu Fz w x v):qH Fz w (.one (.f x)) v []:=⟨h,rfl⟩
theorem zk {Fz:Nat → Prop} {w:World} {x:AV} {v:Value} {xs:List AV} {vs:List Value} (h:qH Fz w x v []) (k:fP Fz w xs vs []):fP Fz w (x :: xs) (v :: vs) []:=⟨[],[],h,k,rfl⟩
theorem Kl {Fz:Nat → Prop} {w:World}:fP Fz w [] [] []:=rfl
end
end Go.Proofs.Ytdkkgecdhapfhaa.Ev
set_option maxRecDepth 100000
namespace Go.Proofs.Ytdkkgecdhapfhaa.Ka
open Go Ev
theorem opQ : I6 Try.prog 32 rQ (fun _=>True) :=
  wY (fun p:ByteArray × Int × Int=>⟨p.1,p.2.1,p.2.2⟩) (by exact fun _=>rfl) (by exact fun _ _=>trivial) (sj Try.underlying32 (by kernel_rfl) (kQ (sz:=1) (sz':=2) (I7 Try.underlying9) (by kernel_rfl) (kQ (sz:=1) (sz':=1) (qF Try.underlying3) (by kernel_rfl) (vL (qF Try.underlying3) (by kernel_rfl)))))
theorem opD : I6 Try.prog 33 (fun d:List ByteArray=>[.sl (d.map fU)]) (fun d=>d.length ≤ 140737488351232) :=
  wY (fun d:List ByteArray=>d) (by exact fun _=>rfl) (by exact fun _ h=>h.1) (Ba 1 Try.underlying33 (by kernel_rfl) (by decide) (fun _=>rfl) (by kernel_rfl) (I7 Try.underlying9))
theorem opS : I6 Try.prog 35 rS (fun x=>x.d.length ≤ 140737488351232) :=
  wY (fun p:Qn × List ByteArray × Int=>⟨p.1.q,p.1.t,p.1.c,p.2.1,p.2.2⟩) (by exact fun _=>rfl) (by exact fun _ h=>h.2.1) (sj Try.underlying35 (by kernel_rfl) (kQ (sz:=3) (sz':=2) opQ (by kernel_rfl) (kQ (sz:=1) (sz':=1) opD (by kernel_rfl) (vL (qF Try.underlying3) (by kernel_rfl)))))
theorem opO : I6 Try.prog 37 rO (fun x=>x.d.length ≤ 140737488351232) :=
  wY (fun p:Int × Int × Se × Int=>⟨p.1,p.2.1,p.2.2.1.q,p.2.2.1.t,p.2.2.1.c,p.2.2.1.d,p.2.2.1.ttl,p.2.2.2⟩) (by exact fun _=>rfl) (by exact fun _ h=>h.2.2.1) (sj Try.underlying37 (by kernel_rfl) (kQ (sz:=1) (sz':=7) (qF Try.underlying3) (by kernel_rfl) (kQ (sz:=1) (sz':=6) (qF Try.underlying3) (by kernel_rfl) (kQ (sz:=5) (sz':=1) opS (by kernel_rfl) (vL (qF Try.underlying3) (by kernel_rfl))))))
theorem opL : I6 Try.prog 22 (fun l:List Op=>[.sl (l.map rO)]) (fun l=>l.length ≤ 140737488351232 ∧ ∀ x ∈ l,x.d.length ≤ 140737488351232) :=
  Ba 8 Try.underlying22 (by kernel_rfl) (by decide) (fun _=>rfl) (by kernel_rfl) opO
end Go.Proofs.Ytdkkgecdhapfhaa.Ka

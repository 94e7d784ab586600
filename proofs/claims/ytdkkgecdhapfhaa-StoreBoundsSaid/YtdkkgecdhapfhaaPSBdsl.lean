/- A part of the proof of StoreBounds: cut, joined and given short names by a program of this session (wip/tools/pack.py); Lean checks it. No condition. -/
import Derived.Test.YtdkkgecdhapfhaaPSBdsi
import Derived.Test.YtdkkgecdhapfhaaPSBdsk
import Derived.Test.YtdkkgecdhapfhaaPSBdsj
import Derived.Test.YtdkkgecdhapfhaaPSBdsh
import Derived.Test.YtdkkgecdhapfhaaPSBdse
import Derived.ProofKit
import Derived.OpenShut
import Derived.SizedLaws
import Derived.ChangeArms
import Derived.ChangeSlices
import Derived.Carry
import Derived.KernelRfl
import Derived.Test.YtdkkgecdhapfhaaPSBdsd
set_option linter.unusedSectionVars false
set_option linter.unusedSimpArgs false
set_option linter.unusedVariables false
namespace Go.Proofs.Ytdkkgecdhapfhaa.ZQ
open Go.RowKit Go.Proofs.YtdkkgecdhapfhaaW.bD Go.Proofs.YtdkkgecdhapfhaaW.dW Go.Proofs.YtdkkgecdhapfhaaW.eG
attribute [local go_sem] ji jk j4 j5 iE iF jl jm
attribute [local go_sem high] UM
def aH.j0 : Nat → Int → Bool → Option (Int × Int × Int)
  | 0,_,_=>none
  | k + 1,x3,x4=>if x4 = true then (some (0,1,0)) else (if x3 = 6 then (some (0,2,20)) else (if x3 = 15 then (some (2,1,0)) else (if x3 = 33 then (some (6,1,0)) else (if x3 = 1 then (some (4,0,0)) else (if x3 = 28 then (some (16,0,0)) else (some (0,0,0)))))))
def aH.f (k:Nat) (a0:Int):Option (Int × Int × Int):=if a0 = 2 then (aH.j0 k a0 (a0 == 2)) else (if a0 = 5 then (aH.j0 k a0 (a0 == 5)) else (aH.j0 k a0 (a0 == 12)))
set_option maxHeartbeats 8000000 in
set_option maxRecDepth 100000 in
theorem aH.calls (k:Nat) (a0:Int) (r1:Int) (r2:Int) (r3:Int) (w:World) (h:aH.f k a0 = some (r1,r2,r3)) :
    Calls Try.prog 106 #[.int .i64 a0] w fun e w'=>e = .returned (.agg #[.int .i64 r1,.int .i64 r2,.int .i64 r3]) ∧ Below w.heap.size w w':=by
  have Mj:=Try.underlying142
  have HB:=aj.mk (Below.refl w.heap.size w)
  have H:(if a0 = 2 then (aH.j0 k a0 (a0 == 2)) else (if a0 = 5 then (aH.j0 k a0 (a0 == 5)) else (aH.j0 k a0 (a0 == 12)))) = some (r1,r2,r3):=h
  clear h
  have Uv:=aj.mk H
  clear H
  go_enter Try.func106,Try.ntmps106
  go_upto_if 4 with (first | ((with_reducible refine gH (N:=2) rfl ?_);refine fP ?hg (N:=2) ?hd (cs:=#[.int .i64 0,.int .i64 0,.int .i64 0]) (t:=142) ?hr ?_;(case hd=>rfl);(case hg=>rfl);(case hr=>first | (go_simp;done) | (go_simp;rfl));intro gX hg w3 gW hb;have dZ:=aj.mk (bE (by repeat (first | (with_reducible first | exact HB.out | apply ak | apply ah | apply au) | exact HB.out)) hb);have gZ:=aj.mk (gW);have jc:=aj.mk ((by rw [hg];exact (bL (by repeat (first | (with_reducible first | exact HB.out | apply ak | apply ah | apply au) | exact HB.out))):w.heap.size ≤ gX));have jG:=aj.mk ((by rw [hg];exact (bL (by repeat (first | (with_reducible first | exact HB.out | apply ak | apply ah | apply au) | exact HB.out))):w.heap.size ≤ gX));clear HB;have HB:=dZ;have dV:=gZ;have af5:=jc;have qN:=jG;clear dZ gZ jc jG;clear hb gW hg))
  (try simp only [Act.put,List.setIfInBounds_toArray,List.set_cons_zero,List.set_cons_succ])
  go_cut [4] (fun v4 wc=>∃ (kq:Nat) (qw:Bool),v4 = .bool qw ∧ aj (aH.j0 kq a0 qw = some (r1,r2,r3)) ∧ aj (kq ≤ k) ∧ aj (wc.heap[gX]? = some (.cells #[.int .i64 0,.int .i64 0,.int .i64 0] 142 (0,0))) ∧ aj (Below w.heap.size w wc))
  case first =>
    have H:=Uv.out
    clear Uv
    by_cases c4:a0 = 2
    · rw [if_pos c4] at H
      have qy:(a0 == 2) = true:=beq_iff_eq.mpr c4
      have I7:(a0 != 2) = false:=bne_eq_false_iff_eq.mpr c4
      clear c4
      (first | rw [qy] | rw [LM] | (simp only [gQ,iy];rw [qy]) | skip)
      have H':=aj.mk H
      clear H
      go_wp2
      go_meet
      case rel=>exact ⟨_,((a0 == 2)),(by first | rfl | (simp;done) | (simp [*];done) | (simp [B.aV];done) | (simp [B.aW];done)),H',⟨by first | omega | exact Nat.le_refl _⟩,⟨by (with_reducible repeat (first | refine aG ?_ _ | refine aI ?_ | refine aA ?_ _));exact dV.out⟩,⟨by repeat (first | (with_reducible first | exact HB.out | apply ak | apply ah | apply au | refine aR ?_ qN.out) | exact HB.out)⟩⟩
    · rw [if_neg c4] at H
      have qy:(a0 == 2) = false:=beq_eq_false_iff_ne.mpr c4
      have I7:(a0 != 2) = true:=bne_iff_ne.mpr c4
      (first | rw [qy] | rw [LM] | (simp only [gQ,iy];rw [qy]) | skip)
      by_cases c5:a0 = 5
      · rw [if_pos c5] at H
        have oP:(a0 == 5) = true:=beq_iff_eq.mpr c5
        have uS:(a0 != 5) = false:=bne_eq_false_iff_eq.mpr c5
        clear c5
        have H':=aj.mk H
        clear H
        go_wp2
        go_meet
        case rel=>exact ⟨_,((a0 == 5)),(by first | rfl | (simp;done) | (simp [*];done) | (simp [B.aV];done) | (simp [B.aW];done)),H',⟨by first | omega | exact Nat.le_refl _⟩,⟨by (with_reducible repeat (first | refine aG ?_ _ | refine aI ?_ | refine aA ?_ _));exact dV.out⟩,⟨by repeat (first | (with_reducible first | exact HB.out | apply ak | apply ah | apply au | refine aR ?_ qN.out) | exact HB.out)⟩⟩
      · rw [if_neg c5] at H
        have oP:(a0 == 5) = false:=beq_eq_false_iff_ne.mpr c5
        have uS:(a0 != 5) = true:=bne_iff_ne.mpr c5
        have H':=aj.mk H
        clear H
        go_wp2
        go_meet
        case rel=>exact ⟨_,((a0 == 12)),(by first | rfl | (simp;done) | (simp [*];done) | (simp [B.aV];done) | (simp [B.aW];done)),H',⟨by first | omega | exact Nat.le_refl _⟩,⟨by (with_reducible repeat (first | refine aG ?_ _ | refine aI ?_ | refine aA ?_ _));exact dV.out⟩,⟨by repeat (first | (with_reducible first | exact HB.out | apply ak | apply ah | apply au | refine aR ?_ qN.out) | exact HB.out)⟩⟩
  case rest =>
    clear Uv
    try clear c1
    try clear p2
    try clear c4
    try clear qy
    try clear I7
    try clear LM
    try clear c5
    try clear oP
    try clear uS
    obtain ⟨kq,qw,rfl,HA,HJ1,dV,HB⟩:=hcut
    cases kq with
    | zero=>exact absurd HA.out (by simp [aH.j0])
    | succ kj1 =>
      have H:=HA.out
      clear HA
      simp only [aH.j0] at H
      by_cases c6:qw = true
      · subst c6
        have H1:(some (0,1,0)) = some (r1,r2,r3):=by rw [if_pos rfl] at H;exact H
        clear H
        have H:=H1
        clear H1
        simp only [Option.some.injEq,Prod.mk.injEq] at H
        obtain ⟨rfl,rfl,rfl⟩:=H
        have aec:wc.cell? ⟨gX,0,none⟩ = some (.int .i64 0):=(aM dV.out 0).trans rfl
        have aed:wc.cell? ⟨gX,1,none⟩ = some (.int .i64 0):=(aM dV.out 1).trans rfl
        have aee:wc.cell? ⟨gX,2,none⟩ = some (.int .i64 0):=(aM dV.out 2).trans rfl
        have aef:=ay dV.out 0
        have aeg:=ay dV.out 1
        have aeh:=ay dV.out 2
        go_wp2
        refine bodyPost_ret (results_cell_row rfl _ _ gX 142 #[.int .i64 0,.int .i64 1,.int .i64 0] (0,0) _ rfl (by (with_reducible repeat (first | refine aG ?_ _ | refine aI ?_ | refine aA ?_ _));refine bU (cs:=#[.int .i64 0,.int .i64 1,.int .i64 0]) ?_ 2 _ rfl;(with_reducible repeat (first | refine aG ?_ _ | refine aI ?_ | refine aA ?_ _));refine bU (cs:=#[.int .i64 0,.int .i64 0,.int .i64 0]) ?_ 1 _ rfl;(with_reducible repeat (first | refine aG ?_ _ | refine aI ?_ | refine aA ?_ _));refine bU (cs:=#[.int .i64 0,.int .i64 0,.int .i64 0]) ?_ 0 _ rfl;(with_reducible repeat (first | refine aG ?_ _ | refine aI ?_ | refine aA ?_ _));exact dV.out) Try.underlying142 rfl (by kernel_rfl)) rfl ?_
        exact ⟨by first | rfl | (simp [aJ,aK] <;> rfl) | (simp [*,aJ,aK] <;> rfl),by repeat (first | (with_reducible first | exact HB.out | apply ak | apply ah | apply au | refine aR ?_ qN.out) | exact HB.out)⟩
      · replace c6:=Bool.eq_false_iff.mpr c6
        subst c6
        have H1:(if a0 = 6 then (some (0,2,20)) else (if a0 = 15 then (some (2,1,0)) else (if a0 = 33 then (some (6,1,0)) else (if a0 = 1 then (some (4,0,0)) else (if a0 = 28 then (some (16,0,0)) else (some (0,0,0))))))) = some (r1,r2,r3):=by rw [if_neg (show ¬ (false = true) by decide)] at H;exact H
        clear H
        have H:=H1
        clear H1
        by_cases c8:a0 = 6
        · rw [if_pos c8] at H
          have rz:(a0 == 6) = true:=beq_iff_eq.mpr c8
          have rA:(a0 != 6) = false:=bne_eq_false_iff_eq.mpr c8
          clear c8
          simp only [Option.some.injEq,Prod.mk.injEq] at H
          obtain ⟨rfl,rfl,rfl⟩:=H
          have Mk:wc.cell? ⟨gX,0,none⟩ = some (.int .i64 0):=(aM dV.out 0).trans rfl
          have Ml:wc.cell? ⟨gX,1,none⟩ = some (.int .i64 0):=(aM dV.out 1).trans rfl
          have Mr:wc.cell? ⟨gX,2,none⟩ = some (.int .i64 0):=(aM dV.out 2).trans rfl
          have Ms:=ay dV.out 0
          have Mt:=ay dV.out 1
          have Mv:=ay dV.out 2
          go_wp2
          refine bodyPost_ret (results_cell_row rfl _ _ gX 142 #[.int .i64 0,.int .i64 2,.int .i64 20] (0,0) _ rfl (by (with_reducible repeat (first | refine aG ?_ _ | refine aI ?_ | refine aA ?_ _));refine bU (cs:=#[.int .i64 0,.int .i64 2,.int .i64 0]) ?_ 2 _ rfl;(with_reducible repeat (first | refine aG ?_ _ | refine aI ?_ | refine aA ?_ _));refine bU (cs:=#[.int .i64 0,.int .i64 0,.int .i64 0]) ?_ 1 _ rfl;(with_reducible repeat (first | refine aG ?_ _ | refine aI ?_ | refine aA ?_ _));refine bU (cs:=#[.int .i64 0,.int .i64 0,.int .i64 0]) ?_ 0 _ rfl;(with_reducible repeat (first | refine aG ?_ _ | refine aI ?_ | refine aA ?_ _));exact dV.out) Try.underlying142 rfl (by kernel_rfl)) rfl ?_
          exact ⟨by first | rfl | (simp [aJ,aK] <;> rfl) | (simp [*,aJ,aK] <;> rfl),by repeat (first | (with_reducible first | exact HB.out | apply ak | apply ah | apply au | refine aR ?_ qN.out) | exact HB.out)⟩
        · rw [if_neg c8] at H
          have rz:(a0 == 6) = false:=beq_eq_false_iff_ne.mpr c8
          have rA:(a0 != 6) = true:=bne_iff_ne.mpr c8
          by_cases c10:a0 = 15
          · rw [if_pos c10] at H
            have qM:(a0 == 15) = true:=beq_iff_eq.mpr c10
            have zY:(a0 != 15) = false:=bne_eq_false_iff_eq.mpr c10
            clear c10
            simp only [Option.some.injEq,Prod.mk.injEq] at H
            obtain ⟨rfl,rfl,rfl⟩:=H
            have abZ:wc.cell? ⟨gX,0,none⟩ = some (.int .i64 0):=(aM dV.out 0).trans rfl
            have ab0:wc.cell? ⟨gX,1,none⟩ = some (.int .i64 0):=(aM dV.out 1).trans rfl
            have ab1:wc.cell? ⟨gX,2,none⟩ = some (.int .i64 0):=(aM dV.out 2).trans rfl
            have ab2:=ay dV.out 0
            have ab3:=ay dV.out 1
            have ab4:=ay dV.out 2
            go_wp2
            refine bodyPost_ret (results_cell_row rfl _ _ gX 142 #[.int .i64 2,.int .i64 1,.int .i64 0] (0,0) _ rfl (by (with_reducible repeat (first | refine aG ?_ _ | refine aI ?_ | refine aA ?_ _));refine bU (cs:=#[.int .i64 2,.int .i64 1,.int .i64 0]) ?_ 2 _ rfl;(with_reducible repeat (first | refine aG ?_ _ | refine aI ?_ | refine aA ?_ _));refine bU (cs:=#[.int .i64 2,.int .i64 0,.int .i64 0]) ?_ 1 _ rfl;(with_reducible repeat (first | refine aG ?_ _ | refine aI ?_ | refine aA ?_ _));refine bU (cs:=#[.int .i64 0,.int .i64 0,.int .i64 0]) ?_ 0 _ rfl;(with_reducible repeat (first | refine aG ?_ _ | refine aI ?_ | refine aA ?_ _));exact dV.out) Try.underlying142 rfl (by kernel_rfl)) rfl ?_
            exact ⟨by first | rfl | (simp [aJ,aK] <;> rfl) | (simp [*,aJ,aK] <;> rfl),by repeat (first | (with_reducible first | exact HB.out | apply ak | apply ah | apply au | refine aR ?_ qN.out) | exact HB.out)⟩
          · rw [if_neg c10] at H
            have qM:(a0 == 15) = false:=beq_eq_false_iff_ne.mpr c10
            have zY:(a0 != 15) = true:=bne_iff_ne.mpr c10
            by_cases c12:a0 = 33
            · rw [if_pos c12] at H
              have tN:(a0 == 33) = true:=beq_iff_eq.mpr c12
              have tO:(a0 != 33) = false:=bne_eq_false_iff_eq.mpr c12
              clear c12
              simp only [Option.some.injEq,Prod.mk.injEq] at H
              obtain ⟨rfl,rfl,rfl⟩:=H
              have BL:wc.cell? ⟨gX,0,none⟩ = some (.int .i64 0):=(aM dV.out 0).trans rfl
              have BM:wc.cell? ⟨gX,1,none⟩ = some (.int .i64 0):=(aM dV.out 1).trans rfl
              have BN:wc.cell? ⟨gX,2,none⟩ = some (.int .i64 0):=(aM dV.out 2).trans rfl
              have BO:=ay dV.out 0
              have BP:=ay dV.out 1
              have BQ:=ay dV.out 2
              go_wp2
              refine bodyPost_ret (results_cell_row rfl _ _ gX 142 #[.int .i64 6,.int .i64 1,.int .i64 0] (0,0) _ rfl (by (with_reducible repeat (first | refine aG ?_ _ | refine aI ?_ | refine aA ?_ _));refine bU (cs:=#[.int .i64 6,.int .i64 1,.int .i64 0]) ?_ 2 _ rfl;(with_reducible repeat (first | refine aG ?_ _ | refine aI ?_ | refine aA ?_ _));refine bU (cs:=#[.int .i64 6,.int .i64 0,.int .i64 0]) ?_ 1 _ rfl;(with_reducible repeat (first | refine aG ?_ _ | refine aI ?_ | refine aA ?_ _));refine bU (cs:=#[.int .i64 0,.int .i64 0,.int .i64 0]) ?_ 0 _ rfl;(with_reducible repeat (first | refine aG ?_ _ | refine aI ?_ | refine aA ?_ _));exact dV.out) Try.underlying142 rfl (by kernel_rfl)) rfl ?_
              exact ⟨by first | rfl | (simp [aJ,aK] <;> rfl) | (simp [*,aJ,aK] <;> rfl),by repeat (first | (with_reducible first | exact HB.out | apply ak | apply ah | apply au | refine aR ?_ qN.out) | exact HB.out)⟩
            · rw [if_neg c12] at H
              have tN:(a0 == 33) = false:=beq_eq_false_iff_ne.mpr c12
              have tO:(a0 != 33) = true:=bne_iff_ne.mpr c12
              by_cases c14:a0 = 1
              · rw [if_pos c14] at H
                have zZ:(a0 == 1) = true:=beq_iff_eq.mpr c14
                have Rp:(a0 != 1) = false:=bne_eq_false_iff_eq.mpr c14
                clear c14
                simp only [Option.some.injEq,Prod.mk.injEq] at H
                obtain ⟨rfl,rfl,rfl⟩:=H
                have BR:wc.cell? ⟨gX,0,none⟩ = some (.int .i64 0):=(aM dV.out 0).trans rfl
                have BS:wc.cell? ⟨gX,1,none⟩ = some (.int .i64 0):=(aM dV.out 1).trans rfl
                have BU:wc.cell? ⟨gX,2,none⟩ = some (.int .i64 0):=(aM dV.out 2).trans rfl
                have BX:=ay dV.out 0
                have BZ:=ay dV.out 1
                have Ca:=ay dV.out 2
                go_wp2
                refine bodyPost_ret (results_cell_row rfl _ _ gX 142 #[.int .i64 4,.int .i64 0,.int .i64 0] (0,0) _ rfl (by (with_reducible repeat (first | refine aG ?_ _ | refine aI ?_ | refine aA ?_ _));refine bU (cs:=#[.int .i64 4,.int .i64 0,.int .i64 0]) ?_ 2 _ rfl;(with_reducible repeat (first | refine aG ?_ _ | refine aI ?_ | refine aA ?_ _));refine bU (cs:=#[.int .i64 4,.int .i64 0,.int .i64 0]) ?_ 1 _ rfl;(with_reducible repeat (first | refine aG ?_ _ | refine aI ?_ | refine aA ?_ _));refine bU (cs:=#[.int .i64 0,.int .i64 0,.int .i64 0]) ?_ 0 _ rfl;(with_reducible repeat (first | refine aG ?_ _ | refine aI ?_ | refine aA ?_ _));exact dV.out) Try.underlying142 rfl (by kernel_rfl)) rfl ?_
                exact ⟨by first | rfl | (simp [aJ,aK] <;> rfl) | (simp [*,aJ,aK] <;> rfl),by repeat (first | (with_reducible first | exact HB.out | apply ak | apply ah | apply au | refine aR ?_ qN.out) | exact HB.out)⟩
              · rw [if_neg c14] at H
                have zZ:(a0 == 1) = false:=beq_eq_false_iff_ne.mpr c14
                have Rp:(a0 != 1) = true:=bne_iff_ne.mpr c14
                by_cases c16:a0 = 28
                · rw [if_pos c16] at H
                  have GL:(a0 == 28) = true:=beq_iff_eq.mpr c16
                  have Zr:(a0 != 28) = false:=bne_eq_false_iff_eq.mpr c16
                  clear c16
                  simp only [Option.some.injEq,Prod.mk.injEq] at H
                  obtain ⟨rfl,rfl,rfl⟩:=H
                  have ab5:wc.cell? ⟨gX,0,none⟩ = some (.int .i64 0):=(aM dV.out 0).trans rfl
                  have ab6:wc.cell? ⟨gX,1,none⟩ = some (.int .i64 0):=(aM dV.out 1).trans rfl
                  have ab7:wc.cell? ⟨gX,2,none⟩ = some (.int .i64 0):=(aM dV.out 2).trans rfl
                  have ab8:=ay dV.out 0
                  have ab9:=ay dV.out 1
                  have acd:=ay dV.out 2
                  go_wp2
                  refine bodyPost_ret (results_cell_row rfl _ _ gX 142 #[.int .i64 16,.int .i64 0,.int .i64 0] (0,0) _ rfl (by (with_reducible repeat (first | refine aG ?_ _ | refine aI ?_ | refine aA ?_ _));refine bU (cs:=#[.int .i64 16,.int .i64 0,.int .i64 0]) ?_ 2 _ rfl;(with_reducible repeat (first | refine aG ?_ _ | refine aI ?_ | refine aA ?_ _));refine bU (cs:=#[.int .i64 16,.int .i64 0,.int .i64 0]) ?_ 1 _ rfl;(with_reducible repeat (first | refine aG ?_ _ | refine aI ?_ | refine aA ?_ _));refine bU (cs:=#[.int .i64 0,.int .i64 0,.int .i64 0]) ?_ 0 _ rfl;(with_reducible repeat (first | refine aG ?_ _ | refine aI ?_ | refine aA ?_ _));exact dV.out) Try.underlying142 rfl (by kernel_rfl)) rfl ?_
                  exact ⟨by first | rfl | (simp [aJ,aK] <;> rfl) | (simp [*,aJ,aK] <;> rfl),by repeat (first | (with_reducible first | exact HB.out | apply ak | apply ah | apply au | refine aR ?_ qN.out) | exact HB.out)⟩
                · rw [if_neg c16] at H
                  have GL:(a0 == 28) = false:=beq_eq_false_iff_ne.mpr c16
                  have Zr:(a0 != 28) = true:=bne_iff_ne.mpr c16
                  simp only [Option.some.injEq,Prod.mk.injEq] at H
                  obtain ⟨rfl,rfl,rfl⟩:=H
                  have Hf:wc.cell? ⟨gX,0,none⟩ = some (.int .i64 0):=(aM dV.out 0).trans rfl
                  have Hg:wc.cell? ⟨gX,1,none⟩ = some (.int .i64 0):=(aM dV.out 1).trans rfl
                  have Hl:wc.cell? ⟨gX,2,none⟩ = some (.int .i64 0):=(aM dV.out 2).trans rfl
                  have Ho:=ay dV.out 0
                  have Hq:=ay dV.out 1
                  have Hr:=ay dV.out 2
                  go_wp2
                  refine bodyPost_ret (results_cell_row rfl _ _ gX 142 #[.int .i64 0,.int .i64 0,.int .i64 0] (0,0) _ rfl (by (with_reducible repeat (first | refine aG ?_ _ | refine aI ?_ | refine aA ?_ _));refine bU (cs:=#[.int .i64 0,.int .i64 0,.int .i64 0]) ?_ 2 _ rfl;(with_reducible repeat (first | refine aG ?_ _ | refine aI ?_ | refine aA ?_ _));refine bU (cs:=#[.int .i64 0,.int .i64 0,.int .i64 0]) ?_ 1 _ rfl;(with_reducible repeat (first | refine aG ?_ _ | refine aI ?_ | refine aA ?_ _));refine bU (cs:=#[.int .i64 0,.int .i64 0,.int .i64 0]) ?_ 0 _ rfl;(with_reducible repeat (first | refine aG ?_ _ | refine aI ?_ | refine aA ?_ _));exact dV.out) Try.underlying142 rfl (by kernel_rfl)) rfl ?_
                  exact ⟨by first | rfl | (simp [aJ,aK] <;> rfl) | (simp [*,aJ,aK] <;> rfl),by repeat (first | (with_reducible first | exact HB.out | apply ak | apply ah | apply au | refine aR ?_ qN.out) | exact HB.out)⟩
def bn.l0 : Nat → ByteArray → Int → Option (Bool)
  | 0,_,_=>none
  | k + 1,x0,x3=>if x3 < (x0.size:Int) then (if 0 ≤ x3 then (bn.l0 k x0 (wrap64 ((wrap64 (x3 + 1)) + (wrap64 (bt x0 x3))))) else (none)) else (if x3 = (x0.size:Int) then (some (decide (x3 > 0))) else (some false))
def bn.f (k:Nat) (a0:ByteArray):Option (Bool):=bn.l0 k a0 0
set_option maxHeartbeats 8000000 in
set_option maxRecDepth 100000 in
theorem bn.calls (k:Nat) (a0:ByteArray) (r:Bool) (w:World) (h:bn.f k a0 = some r) :
    Calls Try.prog 117 #[.string a0] w fun e w'=>e = .returned (.bool r) ∧ aY w w':=by
  have H:(bn.l0 k a0 0) = some r:=h
  clear h
  have H':=aj.mk H
  clear H
  go_enter Try.func117,Try.ntmps117
  go_wp2
  go_loopg [3] k (fun kq v3 w'=>∃ (og:Int),v3 = .int .i64 og ∧ aj (bn.l0 kq a0 og = some r) ∧ aj (kq ≤ k) ∧ aY w w')
  case atStart=>exact ⟨(0),(by first | rfl | (simp;done) | (simp [*];done) | (simp [B.aV];done) | (simp [B.aW];done)),H',⟨Nat.le_refl _⟩,by repeat (first | exact aY.refl _ | apply aY.step)⟩
  case round =>
    clear H'
    try clear c1
    obtain ⟨og,rfl,HA,tK,⟨m1,rfl⟩⟩:=hrel
    cases gk with
    | zero=>exact absurd HA.out (by simp [bn.l0])
    | succ k1 =>
      have H:=HA.out
      clear HA
      simp only [bn.l0] at H
      by_cases c2:og < (a0.size:Int)
      · rw [if_pos c2] at H
        have vQ:decide (og < (a0.size:Int)) = true:=decide_eq_true c2
        clear c2
        by_cases c3:0 ≤ og
        · rw [if_pos c3] at H
          have qz:decide (0 ≤ og) = true:=decide_eq_true c3
          clear c3
          have H':=aj.mk H
          clear H
          have p4:0 ≤ (og:Int):=of_decide_eq_true (by first | (with_reducible assumption) | assumption)
          have q4:og < (a0.size:Int):=of_decide_eq_true (by first | (with_reducible assumption) | assumption)
          have hx4:=nC a0 og
          replace p4:=eq_true p4
          replace q4:=eq_true q4
          go_wp2
          go_roundg k1
          case measure=>have:=tK.out;omega
          case rel=>exact ⟨(wrap64 ((wrap64 (og + 1)) + (wrap64 (bt a0 og)))),(by first | rfl | (simp;done) | (simp [*];done) | (simp [B.aV];done) | (simp [B.aW];done)),H',⟨by have:=tK.out;omega⟩,by repeat (first | exact aY.refl _ | apply aY.step)⟩
        · rw [if_neg c3] at H
          exact absurd H (by simp)
      · rw [if_neg c2] at H
        have vQ:decide (og < (a0.size:Int)) = false:=decide_eq_false c2
        clear c2
        by_cases c5:og = (a0.size:Int)
        · rw [if_pos c5] at H
          have oP:(og == (a0.size:Int)) = true:=beq_iff_eq.mpr c5
          have uS:(og != (a0.size:Int)) = false:=bne_eq_false_iff_eq.mpr c5
          clear c5
          obtain rfl:=Option.some.inj H
          go_wp2
          go_ret
          exact ⟨by first | rfl | (simp;done) | (simp [*];done),by repeat (first | exact aY.refl _ | apply aY.step)⟩
        · rw [if_neg c5] at H
          have oP:(og == (a0.size:Int)) = false:=beq_eq_false_iff_ne.mpr c5
          have uS:(og != (a0.size:Int)) = true:=bne_iff_ne.mpr c5
          obtain rfl:=Option.some.inj H
          go_wp2
          go_ret
          exact ⟨by first | rfl | (simp;done) | (simp [*];done),by repeat (first | exact aY.refl _ | apply aY.step)⟩
def aX.l0 : Nat → ByteArray → Int → Int → ByteArray → Int → Int → Int → Int → Int → Option (ByteArray × Int)
  | 0,_,_,_,_,_,_,_,_,_=>none
  | k + 1,x0,x1,x2,Zt,OP,x15,Pt,Ht,Hu=>if x15 < Ht then ((aU.f k x0 OP).bind fun Hw=>(if Hw.2.2 = 0 then (if Zt.size + Hw.1.size ≤ 9223372036854775807 then (aX.l0 k x0 x1 x2 (Zt ++ Hw.1) Hw.2.1 (wrap64 (x15 + 1)) Pt Ht Hu) else (none)) else (some ((⟨#[]⟩:ByteArray),4)))) else (if (wrap64 (OP + Hu)) = (wrap64 (x1 + x2)) then (if 0 ≤ OP then (if OP ≤ (wrap64 (x1 + x2)) then (if (wrap64 (x1 + x2)) ≤ (x0.size:Int) then (if Zt.size + (x0.extract (OP:Int).toNat ((wrap64 (x1 + x2)):Int).toNat).size ≤ 9223372036854775807 then (if ((Zt ++ (x0.extract (OP:Int).toNat ((wrap64 (x1 + x2)):Int).toNat)).size:Int) > 65535 then (some ((⟨#[]⟩:ByteArray),4)) else (some (Zt ++ (x0.extract (OP:Int).toNat ((wrap64 (x1 + x2)):Int).toNat),0))) else (none)) else (none)) else (none)) else (none)) else (some ((⟨#[]⟩:ByteArray),4)))
def aX.f (k:Nat) (a0:ByteArray) (a1:Int) (a2:Int) (a3:Int):Option (ByteArray × Int):=(bC.f a0 a1 a2).bind fun kX=>(if kX.2 = true then ((aH.f k a3).bind fun eU=>(if (eU.1 == 0 && (eU.2.1 == 0 && (eU.2.2 == 0))) = true then (if a3 = 16 then ((bn.f k kX.1).bind fun vT=>(if vT = true then (if (kX.1.size:Int) > 65535 then (some ((⟨#[]⟩:ByteArray),4)) else (some (kX.1,0))) else (some ((⟨#[]⟩:ByteArray),4)))) else (if (kX.1.size:Int) > 65535 then (some ((⟨#[]⟩:ByteArray),4)) else (some (kX.1,0)))) else (if eU.1 > a2 then (some ((⟨#[]⟩:ByteArray),4)) else (if 0 ≤ eU.1 then (if eU.1 ≤ (kX.1.size:Int) then (aX.l0 k a0 a1 a2 (kX.1.extract 0 (eU.1:Int).toNat) (wrap64 (a1 + eU.1)) 0 eU.1 eU.2.1 eU.2.2) else (none)) else (none))))) else (some ((⟨#[]⟩:ByteArray),2)))
set_option maxHeartbeats 8000000 in
set_option maxRecDepth 100000 in
theorem aX.calls (k:Nat) (a0:ByteArray) (a1:Int) (a2:Int) (a3:Int) (r1:ByteArray) (r2:Int) (w:World) (h:aX.f k a0 a1 a2 a3 = some (r1,r2)) :
    Calls Try.prog 104 #[.string a0,.int .i64 a1,.int .i64 a2,.int .i64 a3] w fun e w'=>e = .returned (.tuple #[.string r1,.int .i64 r2]) ∧ Below w.heap.size w w':=by
  have Mj:=Try.underlying142
  have HB:=aj.mk (Below.refl w.heap.size w)
  have H:((bC.f a0 a1 a2).bind fun kX=>(if kX.2 = true then ((aH.f k a3).bind fun eU=>(if (eU.1 == 0 && (eU.2.1 == 0 && (eU.2.2 == 0))) = true then (if a3 = 16 then ((bn.f k kX.1).bind fun vT=>(if vT = true then (if (kX.1.size:Int) > 65535 then (some ((⟨#[]⟩:ByteArray),4)) else (some (kX.1,0))) else (some ((⟨#[]⟩:ByteArray),4)))) else (if (kX.1.size:Int) > 65535 then (some ((⟨#[]⟩:ByteArray),4)) else (some (kX.1,0)))) else (if eU.1 > a2 then (some ((⟨#[]⟩:ByteArray),4)) else (if 0 ≤ eU.1 then (if eU.1 ≤ (kX.1.size:Int) then (aX.l0 k a0 a1 a2 (kX.1.extract 0 (eU.1:Int).toNat) (wrap64 (a1 + eU.1)) 0 eU.1 eU.2.1 eU.2.2) else (none)) else (none))))) else (some ((⟨#[]⟩:ByteArray),2)))) = some (r1,r2):=h
  clear h
  replace H:=zbm H
  obtain ⟨⟨t160,Zu⟩,Rz,H⟩:=H
  replace H:(if Zu = true then ((aH.f k a3).bind fun eU=>(if (eU.1 == 0 && (eU.2.1 == 0 && (eU.2.2 == 0))) = true then (if a3 = 16 then ((bn.f k t160).bind fun vT=>(if vT = true then (if (t160.size:Int) > 65535 then (some ((⟨#[]⟩:ByteArray),4)) else (some (t160,0))) else (some ((⟨#[]⟩:ByteArray),4)))) else (if (t160.size:Int) > 65535 then (some ((⟨#[]⟩:ByteArray),4)) else (some (t160,0)))) else (if eU.1 > a2 then (some ((⟨#[]⟩:ByteArray),4)) else (if 0 ≤ eU.1 then (if eU.1 ≤ (t160.size:Int) then (aX.l0 k a0 a1 a2 (t160.extract 0 (eU.1:Int).toNat) (wrap64 (a1 + eU.1)) 0 eU.1 eU.2.1 eU.2.2) else (none)) else (none))))) else (some ((⟨#[]⟩:ByteArray),2))) = some (r1,r2):=H
  have A5:=aj.mk Rz
  clear Rz
  by_cases c6:Zu = true
  · subst c6
    have H1:((aH.f k a3).bind fun eU=>(if (eU.1 == 0 && (eU.2.1 == 0 && (eU.2.2 == 0))) = true then (if a3 = 16 then ((bn.f k t160).bind fun vT=>(if vT = true then (if (t160.size:Int) > 65535 then (some ((⟨#[]⟩:ByteArray),4)) else (some (t160,0))) else (some ((⟨#[]⟩:ByteArray),4)))) else (if (t160.size:Int) > 65535 then (some ((⟨#[]⟩:ByteArray),4)) else (some (t160,0)))) else (if eU.1 > a2 then (some ((⟨#[]⟩:ByteArray),4)) else (if 0 ≤ eU.1 then (if eU.1 ≤ (t160.size:Int) then (aX.l0 k a0 a1 a2 (t160.extract 0 (eU.1:Int).toNat) (wrap64 (a1 + eU.1)) 0 eU.1 eU.2.1 eU.2.2) else (none)) else (none))))) = some (r1,r2):=by rw [if_pos rfl] at H;exact H
    clear H
    have H:=H1
    clear H1
    replace H:=zbm H
    obtain ⟨⟨t162,kD,t164⟩,YH,H⟩:=H
    replace H:(if (t162 == 0 && (kD == 0 && (t164 == 0))) = true then (if a3 = 16 then ((bn.f k t160).bind fun vT=>(if vT = true then (if (t160.size:Int) > 65535 then (some ((⟨#[]⟩:ByteArray),4)) else (some (t160,0))) else (some ((⟨#[]⟩:ByteArray),4)))) else (if (t160.size:Int) > 65535 then (some ((⟨#[]⟩:ByteArray),4)) else (some (t160,0)))) else (if t162 > a2 then (some ((⟨#[]⟩:ByteArray),4)) else (if 0 ≤ t162 then (if t162 ≤ (t160.size:Int) then (aX.l0 k a0 a1 a2 (t160.extract 0 (t162:Int).toNat) (wrap64 (a1 + t162)) 0 t162 kD t164) else (none)) else (none)))) = some (r1,r2):=H
    have A7:=aj.mk YH
    clear YH
    by_cases c8:(t162 == 0 && (kD == 0 && (t164 == 0))) = true
    · rw [if_pos c8] at H
      have rz:(t162 == 0 && (kD == 0 && (t164 == 0))) = true:=c8
      (try (have rA:decide (t162 = 0 && (kD == 0 && (t164 == 0))) = true:=by simpa using c8))
      (try (have LX:(t162 == 0 && (kD == 0 && (t164 == 0))) = true:=by simpa using c8))
      clear c8
      by_cases c9:a3 = 16
      · rw [if_pos c9] at H
        have tL:(a3 == 16) = true:=beq_iff_eq.mpr c9
        have DW:(a3 != 16) = false:=bne_eq_false_iff_eq.mpr c9
        clear c9
        replace H:=zbm H
        obtain ⟨vT,Mc,H⟩:=H
        replace H:(if vT = true then (if (t160.size:Int) > 65535 then (some ((⟨#[]⟩:ByteArray),4)) else (some (t160,0))) else (some ((⟨#[]⟩:ByteArray),4))) = some (r1,r2):=H
        have Rt:=aj.mk Mc
        clear Mc
        by_cases c11:vT = true
        · subst c11
          have H1:(if (t160.size:Int) > 65535 then (some ((⟨#[]⟩:ByteArray),4)) else (some (t160,0))) = some (r1,r2):=by rw [if_pos rfl] at H;exact H
          clear H
          have H:=H1
          clear H1
          by_cases c12:(t160.size:Int) > 65535
          · rw [if_pos c12] at H
            have tN:decide (65535 < (t160.size:Int)) = true:=decide_eq_true c12
            have tO:decide (65535 < t160.size) = true:=decide_eq_true (by omega)
            clear c12
            simp only [Option.some.injEq,Prod.mk.injEq] at H
            obtain ⟨rfl,rfl⟩:=H
            go_enter Try.func104,Try.ntmps104
            go_wp2_with (first | ((with_reducible refine aQ (f:=99) rfl ?_);refine bP (some 23) rfl rfl Try.func99 (by kernel_rfl) rfl #[.string a0,.int .i64 a1,.int .i64 a2] rfl (by (try simp only [List.map_toArray,List.map_cons,List.map_nil]);first | done | rfl | (simp only [List.length_drop,List.length_take];rfl) | (simp only [ByteArray.size_append,Int.natCast_add];rfl) | (rw [B.dP] <;> first | rfl | omega | (simp only [decide_eq_false_iff_not,decide_eq_true_eq,Int.not_lt,Nat.not_lt,gt_iff_lt] at * <;> omega))) ?_;(with_reducible refine (bC.calls a0 a1 a2 t160 true _ A5.out).mono ?_);rintro e w' ⟨rfl,⟨nd,rfl⟩⟩;refine ⟨_,rfl,?_⟩) | ((with_reducible refine aQ (f:=106) rfl ?_);refine bP (some 29) rfl rfl Try.func106 (by kernel_rfl) rfl #[.int .i64 a3] rfl (by (try simp only [List.map_toArray,List.map_cons,List.map_nil]);first | done | rfl | (simp only [List.length_drop,List.length_take];rfl) | (simp only [ByteArray.size_append,Int.natCast_add];rfl) | (rw [B.dP] <;> first | rfl | omega | (simp only [decide_eq_false_iff_not,decide_eq_true_eq,Int.not_lt,Nat.not_lt,gt_iff_lt] at * <;> omega))) ?_;(with_reducible refine (aH.calls k a3 t162 kD t164 _ A7.out).mono ?_);rintro e w13 ⟨rfl,hb⟩;refine ⟨_,rfl,?_⟩;have dZ:=aj.mk (bE (by repeat (first | (with_reducible first | exact HB.out | apply ak | apply ah | apply au) | exact HB.out)) hb);clear HB;have HB:=dZ;clear dZ;(try clear hb);(try clear hb2);(try clear hk);(try clear hi)) | ((with_reducible refine gH (N:=12) rfl ?_);(try (refine jo (by rfl) ?_;dsimp only));refine fP ?hg (N:=12) ?hd (cs:=#[.int .i64 0,.int .i64 0,.int .i64 0]) (t:=142) ?hr ?_;(case hd=>rfl);(case hg=>rfl);(case hr=>first | (go_simp;done) | (go_simp;rfl));intro dM hg w14 gW hb;have dZ:=aj.mk (bE (by repeat (first | (with_reducible first | exact HB.out | apply ak | apply ah | apply au) | exact HB.out)) hb);have gZ:=aj.mk (gW);have jc:=aj.mk ((by rw [hg];exact (bL (by repeat (first | (with_reducible first | exact HB.out | apply ak | apply ah | apply au) | exact HB.out))):w.heap.size ≤ dM));have jG:=aj.mk ((by rw [hg];exact (bL (by repeat (first | (with_reducible first | exact HB.out | apply ak | apply ah | apply au) | exact HB.out))):w.heap.size ≤ dM));clear HB;have HB:=dZ;have bT:=gZ;have Ae:=jc;have kF:=jG;clear dZ gZ jc jG;clear hb gW hg;have BR:w14.cell? ⟨dM,0,none⟩ = some (.int .i64 0):=(aM bT.out 0).trans rfl;have BS:w14.cell? ⟨dM,1,none⟩ = some (.int .i64 0):=(aM bT.out 1).trans rfl;have BU:w14.cell? ⟨dM,2,none⟩ = some (.int .i64 0):=(aM bT.out 2).trans rfl;have BX:=ay bT.out 0;have BZ:=ay bT.out 1;have Ca:=ay bT.out 2) | (go_at_call 117;(with_reducible refine (bn.calls k t160 true _ Rt.out).mono ?_);rintro e w' ⟨rfl,⟨nd,rfl⟩⟩))
            go_ret2
            exact ⟨by first | rfl | (simp [aJ,aK] <;> rfl) | (simp [*,aJ,aK] <;> rfl),by repeat (first | (with_reducible first | exact HB.out | apply ak | apply ah | apply au | refine aR ?_ kF.out) | exact HB.out)⟩
          · rw [if_neg c12] at H
            have tN:decide (65535 < (t160.size:Int)) = false:=decide_eq_false c12
            have tO:decide (65535 < t160.size) = false:=decide_eq_false (by omega)
            clear c12
            simp only [Option.some.injEq,Prod.mk.injEq] at H
            obtain ⟨rfl,rfl⟩:=H
            go_enter Try.func104,Try.ntmps104
            go_wp2_with (first | ((with_reducible refine aQ (f:=99) rfl ?_);refine bP (some 23) rfl rfl Try.func99 (by kernel_rfl) rfl #[.string a0,.int .i64 a1,.int .i64 a2] rfl (by (try simp only [List.map_toArray,List.map_cons,List.map_nil]);first | done | rfl | (simp only [List.length_drop,List.length_take];rfl) | (simp only [ByteArray.size_append,Int.natCast_add];rfl) | (rw [B.dP] <;> first | rfl | omega | (simp only [decide_eq_false_iff_not,decide_eq_true_eq,Int.not_lt,Nat.not_lt,gt_iff_lt] at * <;> omega))) ?_;(with_reducible refine (bC.calls a0 a1 a2 t160 true _ A5.out).mono ?_);rintro e w' ⟨rfl,⟨nd,rfl⟩⟩;refine ⟨_,rfl,?_⟩) | ((with_reducible refine aQ (f:=106) rfl ?_);refine bP (some 29) rfl rfl Try.func106 (by kernel_rfl) rfl #[.int .i64 a3] rfl (by (try simp only [List.map_toArray,List.map_cons,List.map_nil]);first | done | rfl | (simp only [List.length_drop,List.length_take];rfl) | (simp only [ByteArray.size_append,Int.natCast_add];rfl) | (rw [B.dP] <;> first | rfl | omega | (simp only [decide_eq_false_iff_not,decide_eq_true_eq,Int.not_lt,Nat.not_lt,gt_iff_lt] at * <;> omega))) ?_;(with_reducible refine (aH.calls k a3 t162 kD t164 _ A7.out).mono ?_);rintro e w16 ⟨rfl,hb⟩;refine ⟨_,rfl,?_⟩;have dZ:=aj.mk (bE (by repeat (first | (with_reducible first | exact HB.out | apply ak | apply ah | apply au) | exact HB.out)) hb);clear HB;have HB:=dZ;clear dZ;(try clear hb);(try clear hb2);(try clear hk);(try clear hi)) | ((with_reducible refine gH (N:=12) rfl ?_);(try (refine jo (by rfl) ?_;dsimp only));refine fP ?hg (N:=12) ?hd (cs:=#[.int .i64 0,.int .i64 0,.int .i64 0]) (t:=142) ?hr ?_;(case hd=>rfl);(case hg=>rfl);(case hr=>first | (go_simp;done) | (go_simp;rfl));intro dM hg w17 gW hb;have dZ:=aj.mk (bE (by repeat (first | (with_reducible first | exact HB.out | apply ak | apply ah | apply au) | exact HB.out)) hb);have gZ:=aj.mk (gW);have jc:=aj.mk ((by rw [hg];exact (bL (by repeat (first | (with_reducible first | exact HB.out | apply ak | apply ah | apply au) | exact HB.out))):w.heap.size ≤ dM));have jG:=aj.mk ((by rw [hg];exact (bL (by repeat (first | (with_reducible first | exact HB.out | apply ak | apply ah | apply au) | exact HB.out))):w.heap.size ≤ dM));clear HB;have HB:=dZ;have bT:=gZ;have Ae:=jc;have kF:=jG;clear dZ gZ jc jG;clear hb gW hg;have Hf:w17.cell? ⟨dM,0,none⟩ = some (.int .i64 0):=(aM bT.out 0).trans rfl;have Hg:w17.cell? ⟨dM,1,none⟩ = some (.int .i64 0):=(aM bT.out 1).trans rfl;have Hl:w17.cell? ⟨dM,2,none⟩ = some (.int .i64 0):=(aM bT.out 2).trans rfl;have Ho:=ay bT.out 0;have Hq:=ay bT.out 1;have Hr:=ay bT.out 2) | (go_at_call 117;(with_reducible refine (bn.calls k t160 true _ Rt.out).mono ?_);rintro e w' ⟨rfl,⟨nd,rfl⟩⟩))
            go_ret2
            exact ⟨by first | rfl | (simp [aJ,aK] <;> rfl) | (simp [*,aJ,aK] <;> rfl),by repeat (first | (with_reducible first | exact HB.out | apply ak | apply ah | apply au | refine aR ?_ kF.out) | exact HB.out)⟩
        · replace c11:=Bool.eq_false_iff.mpr c11
          subst c11
          have H1:(some ((⟨#[]⟩:ByteArray),4)) = some (r1,r2):=by rw [if_neg (show ¬ (false = true) by decide)] at H;exact H
          clear H
          have H:=H1
          clear H1
          simp only [Option.some.injEq,Prod.mk.injEq] at H
          obtain ⟨rfl,rfl⟩:=H
          go_enter Try.func104,Try.ntmps104
          go_wp2_with (first | ((with_reducible refine aQ (f:=99) rfl ?_);refine bP (some 23) rfl rfl Try.func99 (by kernel_rfl) rfl #[.string a0,.int .i64 a1,.int .i64 a2] rfl (by (try simp only [List.map_toArray,List.map_cons,List.map_nil]);first | done | rfl | (simp only [List.length_drop,List.length_take];rfl) | (simp only [ByteArray.size_append,Int.natCast_add];rfl) | (rw [B.dP] <;> first | rfl | omega | (simp only [decide_eq_false_iff_not,decide_eq_true_eq,Int.not_lt,Nat.not_lt,gt_iff_lt] at * <;> omega))) ?_;(with_reducible refine (bC.calls a0 a1 a2 t160 true _ A5.out).mono ?_);rintro e w' ⟨rfl,⟨nd,rfl⟩⟩;refine ⟨_,rfl,?_⟩) | ((with_reducible refine aQ (f:=106) rfl ?_);refine bP (some 29) rfl rfl Try.func106 (by kernel_rfl) rfl #[.int .i64 a3] rfl (by (try simp only [List.map_toArray,List.map_cons,List.map_nil]);first | done | rfl | (simp only [List.length_drop,List.length_take];rfl) | (simp only [ByteArray.size_append,Int.natCast_add];rfl) | (rw [B.dP] <;> first | rfl | omega | (simp only [decide_eq_false_iff_not,decide_eq_true_eq,Int.not_lt,Nat.not_lt,gt_iff_lt] at * <;> omega))) ?_;(with_reducible refine (aH.calls k a3 t162 kD t164 _ A7.out).mono ?_);rintro e w19 ⟨rfl,hb⟩;refine ⟨_,rfl,?_⟩;have dZ:=aj.mk (bE (by repeat (first | (with_reducible first | exact HB.out | apply ak | apply ah | apply au) | exact HB.out)) hb);clear HB;have HB:=dZ;clear dZ;(try clear hb);(try clear hb2);(try clear hk);(try clear hi)) | ((with_reducible refine gH (N:=12) rfl ?_);(try (refine jo (by rfl) ?_;dsimp only));refine fP ?hg (N:=12) ?hd (cs:=#[.int .i64 0,.int .i64 0,.int .i64 0]) (t:=142) ?hr ?_;(case hd=>rfl);(case hg=>rfl);(case hr=>first | (go_simp;done) | (go_simp;rfl));intro dM hg w20 gW hb;have dZ:=aj.mk (bE (by repeat (first | (with_reducible first | exact HB.out | apply ak | apply ah | apply au) | exact HB.out)) hb);have gZ:=aj.mk (gW);have jc:=aj.mk ((by rw [hg];exact (bL (by repeat (first | (with_reducible first | exact HB.out | apply ak | apply ah | apply au) | exact HB.out))):w.heap.size ≤ dM));have jG:=aj.mk ((by rw [hg];exact (bL (by repeat (first | (with_reducible first | exact HB.out | apply ak | apply ah | apply au) | exact HB.out))):w.heap.size ≤ dM));clear HB;have HB:=dZ;have bT:=gZ;have Ae:=jc;have kF:=jG;clear dZ gZ jc jG;clear hb gW hg;have Pv:w20.cell? ⟨dM,0,none⟩ = some (.int .i64 0):=(aM bT.out 0).trans rfl;have Pw:w20.cell? ⟨dM,1,none⟩ = some (.int .i64 0):=(aM bT.out 1).trans rfl;have Px:w20.cell? ⟨dM,2,none⟩ = some (.int .i64 0):=(aM bT.out 2).trans rfl;have Py:=ay bT.out 0;have Pz:=ay bT.out 1;have PD:=ay bT.out 2) | (go_at_call 117;(with_reducible refine (bn.calls k t160 false _ Rt.out).mono ?_);rintro e w' ⟨rfl,⟨nd,rfl⟩⟩))
          go_ret2
          exact ⟨by first | rfl | (simp [aJ,aK] <;> rfl) | (simp [*,aJ,aK] <;> rfl),by repeat (first | (with_reducible first | exact HB.out | apply ak | apply ah | apply au | refine aR ?_ kF.out) | exact HB.out)⟩
      · rw [if_neg c9] at H
        have tL:(a3 == 16) = false:=beq_eq_false_iff_ne.mpr c9
        have DW:(a3 != 16) = true:=bne_iff_ne.mpr c9
        by_cases Er:(t160.size:Int) > 65535
        · rw [if_pos Er] at H
          have Mw:decide (65535 < (t160.size:Int)) = true:=decide_eq_true Er
          have Mx:decide (65535 < t160.size) = true:=decide_eq_true (by omega)
          clear Er
          simp only [Option.some.injEq,Prod.mk.injEq] at H
          obtain ⟨rfl,rfl⟩:=H
          go_enter Try.func104,Try.ntmps104
          go_wp2_with (first | ((with_reducible refine aQ (f:=99) rfl ?_);refine bP (some 23) rfl rfl Try.func99 (by kernel_rfl) rfl #[.string a0,.int .i64 a1,.int .i64 a2] rfl (by (try simp only [List.map_toArray,List.map_cons,List.map_nil]);first | done | rfl | (simp only [List.length_drop,List.length_take];rfl) | (simp only [ByteArray.size_append,Int.natCast_add];rfl) | (rw [B.dP] <;> first | rfl | omega | (simp only [decide_eq_false_iff_not,decide_eq_true_eq,Int.not_lt,Nat.not_lt,gt_iff_lt] at * <;> omega))) ?_;(with_reducible refine (bC.calls a0 a1 a2 t160 true _ A5.out).mono ?_);rintro e w' ⟨rfl,⟨nd,rfl⟩⟩;refine ⟨_,rfl,?_⟩) | ((with_reducible refine aQ (f:=106) rfl ?_);refine bP (some 29) rfl rfl Try.func106 (by kernel_rfl) rfl #[.int .i64 a3] rfl (by (try simp only [List.map_toArray,List.map_cons,List.map_nil]);first | done | rfl | (simp only [List.length_drop,List.length_take];rfl) | (simp only [ByteArray.size_append,Int.natCast_add];rfl) | (rw [B.dP] <;> first | rfl | omega | (simp only [decide_eq_false_iff_not,decide_eq_true_eq,Int.not_lt,Nat.not_lt,gt_iff_lt] at * <;> omega))) ?_;(with_reducible refine (aH.calls k a3 t162 kD t164 _ A7.out).mono ?_);rintro e w23 ⟨rfl,hb⟩;refine ⟨_,rfl,?_⟩;have dZ:=aj.mk (bE (by repeat (first | (with_reducible first | exact HB.out | apply ak | apply ah | apply au) | exact HB.out)) hb);clear HB;have HB:=dZ;clear dZ;(try clear hb);(try clear hb2);(try clear hk);(try clear hi)) | ((with_reducible refine gH (N:=12) rfl ?_);(try (refine jo (by rfl) ?_;dsimp only));refine fP ?hg (N:=12) ?hd (cs:=#[.int .i64 0,.int .i64 0,.int .i64 0]) (t:=142) ?hr ?_;(case hd=>rfl);(case hg=>rfl);(case hr=>first | (go_simp;done) | (go_simp;rfl));intro dM hg w24 gW hb;have dZ:=aj.mk (bE (by repeat (first | (with_reducible first | exact HB.out | apply ak | apply ah | apply au) | exact HB.out)) hb);have gZ:=aj.mk (gW);have jc:=aj.mk ((by rw [hg];exact (bL (by repeat (first | (with_reducible first | exact HB.out | apply ak | apply ah | apply au) | exact HB.out))):w.heap.size ≤ dM));have jG:=aj.mk ((by rw [hg];exact (bL (by repeat (first | (with_reducible first | exact HB.out | apply ak | apply ah | apply au) | exact HB.out))):w.heap.size ≤ dM));clear HB;have HB:=dZ;have bT:=gZ;have Ae:=jc;have kF:=jG;clear dZ gZ jc jG;clear hb gW hg;have PE:w24.cell? ⟨dM,0,none⟩ = some (.int .i64 0):=(aM bT.out 0).trans rfl;have PG:w24.cell? ⟨dM,1,none⟩ = some (.int .i64 0):=(aM bT.out 1).trans rfl;have PI:w24.cell? ⟨dM,2,none⟩ = some (.int .i64 0):=(aM bT.out 2).trans rfl;have PK:=ay bT.out 0;have PN:=ay bT.out 1;have PO:=ay bT.out 2))
          go_ret2
          exact ⟨by first | rfl | (simp [aJ,aK] <;> rfl) | (simp [*,aJ,aK] <;> rfl),by repeat (first | (with_reducible first | exact HB.out | apply ak | apply ah | apply au | refine aR ?_ kF.out) | exact HB.out)⟩
        · rw [if_neg Er] at H
          have Mw:decide (65535 < (t160.size:Int)) = false:=decide_eq_false Er
          have Mx:decide (65535 < t160.size) = false:=decide_eq_false (by omega)
          clear Er
          simp only [Option.some.injEq,Prod.mk.injEq] at H
          obtain ⟨rfl,rfl⟩:=H
          go_enter Try.func104,Try.ntmps104
          go_wp2_with (first | ((with_reducible refine aQ (f:=99) rfl ?_);refine bP (some 23) rfl rfl Try.func99 (by kernel_rfl) rfl #[.string a0,.int .i64 a1,.int .i64 a2] rfl (by (try simp only [List.map_toArray,List.map_cons,List.map_nil]);first | done | rfl | (simp only [List.length_drop,List.length_take];rfl) | (simp only [ByteArray.size_append,Int.natCast_add];rfl) | (rw [B.dP] <;> first | rfl | omega | (simp only [decide_eq_false_iff_not,decide_eq_true_eq,Int.not_lt,Nat.not_lt,gt_iff_lt] at * <;> omega))) ?_;(with_reducible refine (bC.calls a0 a1 a2 t160 true _ A5.out).mono ?_);rintro e w' ⟨rfl,⟨nd,rfl⟩⟩;refine ⟨_,rfl,?_⟩) | ((with_reducible refine aQ (f:=106) rfl ?_);refine bP (some 29) rfl rfl Try.func106 (by kernel_rfl) rfl #[.int .i64 a3] rfl (by (try simp only [List.map_toArray,List.map_cons,List.map_nil]);first | done | rfl | (simp only [List.length_drop,List.length_take];rfl) | (simp only [ByteArray.size_append,Int.natCast_add];rfl) | (rw [B.dP] <;> first | rfl | omega | (simp only [decide_eq_false_iff_not,decide_eq_true_eq,Int.not_lt,Nat.not_lt,gt_iff_lt] at * <;> omega))) ?_;(with_reducible refine (aH.calls k a3 t162 kD t164 _ A7.out).mono ?_);rintro e w26 ⟨rfl,hb⟩;refine ⟨_,rfl,?_⟩;have dZ:=aj.mk (bE (by repeat (first | (with_reducible first | exact HB.out | apply ak | apply ah | apply au) | exact HB.out)) hb);clear HB;have HB:=dZ;clear dZ;(try clear hb);(try clear hb2);(try clear hk);(try clear hi)) | ((with_reducible refine gH (N:=12) rfl ?_);(try (refine jo (by rfl) ?_;dsimp only));refine fP ?hg (N:=12) ?hd (cs:=#[.int .i64 0,.int .i64 0,.int .i64 0]) (t:=142) ?hr ?_;(case hd=>rfl);(case hg=>rfl);(case hr=>first | (go_simp;done) | (go_simp;rfl));intro dM hg w27 gW hb;have dZ:=aj.mk (bE (by repeat (first | (with_reducible first | exact HB.out | apply ak | apply ah | apply au) | exact HB.out)) hb);have gZ:=aj.mk (gW);have jc:=aj.mk ((by rw [hg];exact (bL (by repeat (first | (with_reducible first | exact HB.out | apply ak | apply ah | apply au) | exact HB.out))):w.heap.size ≤ dM));have jG:=aj.mk ((by rw [hg];exact (bL (by repeat (first | (with_reducible first | exact HB.out | apply ak | apply ah | apply au) | exact HB.out))):w.heap.size ≤ dM));clear HB;have HB:=dZ;have bT:=gZ;have Ae:=jc;have kF:=jG;clear dZ gZ jc jG;clear hb gW hg;have PS:w27.cell? ⟨dM,0,none⟩ = some (.int .i64 0):=(aM bT.out 0).trans rfl;have PU:w27.cell? ⟨dM,1,none⟩ = some (.int .i64 0):=(aM bT.out 1).trans rfl;have PW:w27.cell? ⟨dM,2,none⟩ = some (.int .i64 0):=(aM bT.out 2).trans rfl;have PX:=ay bT.out 0;have PY:=ay bT.out 1;have PZ:=ay bT.out 2))
          go_ret2
          exact ⟨by first | rfl | (simp [aJ,aK] <;> rfl) | (simp [*,aJ,aK] <;> rfl),by repeat (first | (with_reducible first | exact HB.out | apply ak | apply ah | apply au | refine aR ?_ kF.out) | exact HB.out)⟩
    · rw [if_neg c8] at H
      have rz:(t162 == 0 && (kD == 0 && (t164 == 0))) = false:=by simpa using c8
      (try (have rA:decide (t162 = 0 && (kD == 0 && (t164 == 0))) = false:=by simpa using c8))
      (try (have LX:(t162 == 0 && (kD == 0 && (t164 == 0))) = false:=by simpa using c8))
      (try (have YB:¬ (t162 = 0 && (kD == 0 && (t164 == 0))):=by simpa using c8))
      clear c8
      by_cases Ir:t162 > a2
      · rw [if_pos Ir] at H
        have RA:decide (a2 < t162) = true:=decide_eq_true Ir
        clear Ir
        simp only [Option.some.injEq,Prod.mk.injEq] at H
        obtain ⟨rfl,rfl⟩:=H
        go_enter Try.func104,Try.ntmps104
        go_wp2_with (first | ((with_reducible refine aQ (f:=99) rfl ?_);refine bP (some 23) rfl rfl Try.func99 (by kernel_rfl) rfl #[.string a0,.int .i64 a1,.int .i64 a2] rfl (by (try simp only [List.map_toArray,List.map_cons,List.map_nil]);first | done | rfl | (simp only [List.length_drop,List.length_take];rfl) | (simp only [ByteArray.size_append,Int.natCast_add];rfl) | (rw [B.dP] <;> first | rfl | omega | (simp only [decide_eq_false_iff_not,decide_eq_true_eq,Int.not_lt,Nat.not_lt,gt_iff_lt] at * <;> omega))) ?_;(with_reducible refine (bC.calls a0 a1 a2 t160 true _ A5.out).mono ?_);rintro e w' ⟨rfl,⟨nd,rfl⟩⟩;refine ⟨_,rfl,?_⟩) | ((with_reducible refine aQ (f:=106) rfl ?_);refine bP (some 29) rfl rfl Try.func106 (by kernel_rfl) rfl #[.int .i64 a3] rfl (by (try simp only [List.map_toArray,List.map_cons,List.map_nil]);first | done | rfl | (simp only [List.length_drop,List.length_take];rfl) | (simp only [ByteArray.size_append,Int.natCast_add];rfl) | (rw [B.dP] <;> first | rfl | omega | (simp only [decide_eq_false_iff_not,decide_eq_true_eq,Int.not_lt,Nat.not_lt,gt_iff_lt] at * <;> omega))) ?_;(with_reducible refine (aH.calls k a3 t162 kD t164 _ A7.out).mono ?_);rintro e w30 ⟨rfl,hb⟩;refine ⟨_,rfl,?_⟩;have dZ:=aj.mk (bE (by repeat (first | (with_reducible first | exact HB.out | apply ak | apply ah | apply au) | exact HB.out)) hb);clear HB;have HB:=dZ;clear dZ;(try clear hb);(try clear hb2);(try clear hk);(try clear hi)) | ((with_reducible refine gH (N:=12) rfl ?_);(try (refine jo (by rfl) ?_;dsimp only));refine fP ?hg (N:=12) ?hd (cs:=#[.int .i64 0,.int .i64 0,.int .i64 0]) (t:=142) ?hr ?_;(case hd=>rfl);(case hg=>rfl);(case hr=>first | (go_simp;done) | (go_simp;rfl));intro dM hg w31 gW hb;have dZ:=aj.mk (bE (by repeat (first | (with_reducible first | exact HB.out | apply ak | apply ah | apply au) | exact HB.out)) hb);have gZ:=aj.mk (gW);have jc:=aj.mk ((by rw [hg];exact (bL (by repeat (first | (with_reducible first | exact HB.out | apply ak | apply ah | apply au) | exact HB.out))):w.heap.size ≤ dM));have jG:=aj.mk ((by rw [hg];exact (bL (by repeat (first | (with_reducible first | exact HB.out | apply ak | apply ah | apply au) | exact HB.out))):w.heap.size ≤ dM));clear HB;have HB:=dZ;have bT:=gZ;have Ae:=jc;have kF:=jG;clear dZ gZ jc jG;clear hb gW hg;have G5:w31.cell? ⟨dM,0,none⟩ = some (.int .i64 0):=(aM bT.out 0).trans rfl;have G6:w31.cell? ⟨dM,1,none⟩ = some (.int .i64 0):=(aM bT.out 1).trans rfl;have G7:w31.cell? ⟨dM,2,none⟩ = some (.int .i64 0):=(aM bT.out 2).trans rfl;have G8:=ay bT.out 0;have G9:=ay bT.out 1;have He:=ay bT.out 2))
        go_ret2
        exact ⟨by first | rfl | (simp [aJ,aK] <;> rfl) | (simp [*,aJ,aK] <;> rfl),by repeat (first | (with_reducible first | exact HB.out | apply ak | apply ah | apply au | refine aR ?_ kF.out) | exact HB.out)⟩
      · rw [if_neg Ir] at H
        have RA:decide (a2 < t162) = false:=decide_eq_false Ir
        clear Ir
        by_cases KI:0 ≤ t162
        · rw [if_pos KI] at H
          have Zv:=eq_true KI
          have Zw:decide (0 ≤ t162) = true:=decide_eq_true KI
          clear KI
          by_cases c34:t162 ≤ (t160.size:Int)
          · rw [if_pos c34] at H
            have Zx:=eq_true c34
            have Zy:decide (t162 ≤ (t160.size:Int)) = true:=decide_eq_true c34
            clear c34
            have H':=aj.mk H
            clear H
            go_enter Try.func104,Try.ntmps104
            go_wp2_with (first | ((with_reducible refine aQ (f:=99) rfl ?_);refine bP (some 23) rfl rfl Try.func99 (by kernel_rfl) rfl #[.string a0,.int .i64 a1,.int .i64 a2] rfl (by (try simp only [List.map_toArray,List.map_cons,List.map_nil]);first | done | rfl | (simp only [List.length_drop,List.length_take];rfl) | (simp only [ByteArray.size_append,Int.natCast_add];rfl) | (rw [B.dP] <;> first | rfl | omega | (simp only [decide_eq_false_iff_not,decide_eq_true_eq,Int.not_lt,Nat.not_lt,gt_iff_lt] at * <;> omega))) ?_;(with_reducible refine (bC.calls a0 a1 a2 t160 true _ A5.out).mono ?_);rintro e w' ⟨rfl,⟨nd,rfl⟩⟩;refine ⟨_,rfl,?_⟩) | ((with_reducible refine aQ (f:=106) rfl ?_);refine bP (some 29) rfl rfl Try.func106 (by kernel_rfl) rfl #[.int .i64 a3] rfl (by (try simp only [List.map_toArray,List.map_cons,List.map_nil]);first | done | rfl | (simp only [List.length_drop,List.length_take];rfl) | (simp only [ByteArray.size_append,Int.natCast_add];rfl) | (rw [B.dP] <;> first | rfl | omega | (simp only [decide_eq_false_iff_not,decide_eq_true_eq,Int.not_lt,Nat.not_lt,gt_iff_lt] at * <;> omega))) ?_;(with_reducible refine (aH.calls k a3 t162 kD t164 _ A7.out).mono ?_);rintro e w35 ⟨rfl,hb⟩;refine ⟨_,rfl,?_⟩;have dZ:=aj.mk (bE (by repeat (first | (with_reducible first | exact HB.out | apply ak | apply ah | apply au) | exact HB.out)) hb);clear HB;have HB:=dZ;clear dZ;(try clear hb);(try clear hb2);(try clear hk);(try clear hi)) | ((with_reducible refine gH (N:=12) rfl ?_);(try (refine jo (by rfl) ?_;dsimp only));refine fP ?hg (N:=12) ?hd (cs:=#[.int .i64 0,.int .i64 0,.int .i64 0]) (t:=142) ?hr ?_;(case hd=>rfl);(case hg=>rfl);(case hr=>first | (go_simp;done) | (go_simp;rfl));intro dM hg w36 gW hb;have dZ:=aj.mk (bE (by repeat (first | (with_reducible first | exact HB.out | apply ak | apply ah | apply au) | exact HB.out)) hb);have gZ:=aj.mk (gW);have jc:=aj.mk ((by rw [hg];exact (bL (by repeat (first | (with_reducible first | exact HB.out | apply ak | apply ah | apply au) | exact HB.out))):w.heap.size ≤ dM));have jG:=aj.mk ((by rw [hg];exact (bL (by repeat (first | (with_reducible first | exact HB.out | apply ak | apply ah | apply au) | exact HB.out))):w.heap.size ≤ dM));clear HB;have HB:=dZ;have bT:=gZ;have Ae:=jc;have kF:=jG;clear dZ gZ jc jG;clear hb gW hg;have P5:w36.cell? ⟨dM,0,none⟩ = some (.int .i64 0):=(aM bT.out 0).trans rfl;have P6:w36.cell? ⟨dM,1,none⟩ = some (.int .i64 0):=(aM bT.out 1).trans rfl;have P7:w36.cell? ⟨dM,2,none⟩ = some (.int .i64 0):=(aM bT.out 2).trans rfl;have P8:=ay bT.out 0;have P9:=ay bT.out 1;have Qa:=ay bT.out 2))
            go_loopg [13,14,15] k (fun kq v13 v14 v15 w'=>∃ (dG:ByteArray) (bQ:Int) (vI:Int),v13 = .string dG ∧ v14 = .int .i64 bQ ∧ v15 = .int .i64 vI ∧ aj (aX.l0 kq a0 a1 a2 dG bQ vI t162 kD t164 = some (r1,r2)) ∧ aj (kq ≤ k) ∧ aj (w'.heap[dM]? = some (.cells #[.int .i64 t162,.int .i64 kD,.int .i64 t164] 142 (0,0))) ∧ aj (Below w.heap.size w w'))
            case atStart=>exact ⟨(t160.extract 0 (t162:Int).toNat),(wrap64 (a1 + t162)),(0),(by first | rfl | (simp;done) | (simp [*];done) | (simp [B.aV];done) | (simp [B.aW];done)),(by first | rfl | (simp;done) | (simp [*];done) | (simp [B.aV];done) | (simp [B.aW];done)),(by first | rfl | (simp;done) | (simp [*];done) | (simp [B.aV];done) | (simp [B.aW];done)),H',⟨Nat.le_refl _⟩,⟨by (with_reducible repeat (first | refine aG ?_ _ | refine aI ?_ | refine aA ?_ _));refine bU (cs:=#[.int .i64 t162,.int .i64 kD,.int .i64 0]) ?_ 2 _ rfl;(with_reducible repeat (first | refine aG ?_ _ | refine aI ?_ | refine aA ?_ _));refine bU (cs:=#[.int .i64 t162,.int .i64 0,.int .i64 0]) ?_ 1 _ rfl;(with_reducible repeat (first | refine aG ?_ _ | refine aI ?_ | refine aA ?_ _));refine bU (cs:=#[.int .i64 0,.int .i64 0,.int .i64 0]) ?_ 0 _ rfl;(with_reducible repeat (first | refine aG ?_ _ | refine aI ?_ | refine aA ?_ _));exact bT.out⟩,⟨by repeat (first | (with_reducible first | exact HB.out | apply ak | apply ah | apply au | refine aR ?_ kF.out) | exact HB.out)⟩⟩
            case round =>
              clear H'
              try clear c1
              try clear c2
              try clear p2
              try clear c3
              try clear c6
              try clear p6
              try clear c8
              try clear rz
              try clear rA
              try clear LX
              try clear c9
              try clear tL
              try clear DW
              try clear c10
              try clear c11
              try clear c12
              try clear tN
              try clear tO
              try clear Er
              try clear Mw
              try clear Mx
              try clear Ir
              try clear RA
              try clear KI
              try clear Zv
              try clear Zw
              try clear c34
              try clear Zx
              try clear Zy
              try clear BR
              try clear BS
              try clear BU
              try clear Hf
              try clear Hg
              try clear Hl
              try clear Pv
              try clear Pw
              try clear Px
              try clear PE
              try clear PG
              try clear PI
              try clear PS
              try clear PU
              try clear PW
              try clear G5
              try clear G6
              try clear G7
              try clear P5
              try clear P6
              try clear P7
              try clear BX
              try clear BZ
              try clear Ca
              try clear Ho
              try clear Hq
              try clear Hr
              try clear Py
              try clear Pz
              try clear PD
              try clear PK
              try clear PN
              try clear PO
              try clear PX
              try clear PY
              try clear PZ
              try clear G8
              try clear G9
              try clear He
              try clear P8
              try clear P9
              try clear Qa
              obtain ⟨dG,bQ,vI,rfl,rfl,rfl,HA,tK,bT,HB⟩:=hrel
              cases gk with
              | zero=>exact absurd HA.out (by simp [aX.l0])
              | succ k1 =>
                have H:=HA.out
                clear HA
                simp only [aX.l0] at H
                by_cases JE:vI < kD
                · rw [if_pos JE] at H
                  have Ry:decide (vI < kD) = true:=decide_eq_true JE
                  clear JE
                  replace H:=zbm H
                  obtain ⟨⟨t167,t168,Eb⟩,Zz,H⟩:=H
                  replace H:(if Eb = 0 then (if dG.size + t167.size ≤ 9223372036854775807 then (aX.l0 k1 a0 a1 a2 (dG ++ t167) t168 (wrap64 (vI + 1)) t162 kD t164) else (none)) else (some ((⟨#[]⟩:ByteArray),4))) = some (r1,r2):=H
                  have A39:=aj.mk Zz
                  clear Zz
                  by_cases c40:Eb = 0
                  · rw [if_pos c40] at H
                    have ZA:(Eb == 0) = true:=beq_iff_eq.mpr c40
                    have ZB:(Eb != 0) = false:=bne_eq_false_iff_eq.mpr c40
                    clear c40
                    by_cases ZC:dG.size + t167.size ≤ 9223372036854775807
                    · rw [if_pos ZC] at H
                      have af6:=eq_true ZC
                      have af7:decide (dG.size + t167.size ≤ 9223372036854775807) = true:=decide_eq_true ZC
                      try have af8:(9223372036854775807 < dG.size + t167.size) = False:=eq_false (Nat.not_lt.2 ZC)
                      have H':=aj.mk H
                      clear H
                      have Pj:wr.cell? ⟨dM,0,none⟩ = some (.int .i64 t162):=(aM bT.out 0).trans rfl
                      have Pk:wr.cell? ⟨dM,1,none⟩ = some (.int .i64 kD):=(aM bT.out 1).trans rfl
                      have Pm:wr.cell? ⟨dM,2,none⟩ = some (.int .i64 t164):=(aM bT.out 2).trans rfl
                      have Pn:=ay bT.out 0
                      have Po:=ay bT.out 1
                      have Pp:=ay bT.out 2
                      go_wp2_with (first | ((with_reducible refine aQ (f:=118) rfl ?_);refine bP (some 67) rfl rfl Try.func118 (by kernel_rfl) rfl #[.string a0,.int .i64 bQ] rfl (by (try simp only [List.map_toArray,List.map_cons,List.map_nil]);first | done | rfl | (simp only [List.length_drop,List.length_take];rfl) | (simp only [ByteArray.size_append,Int.natCast_add];rfl) | (rw [B.dP] <;> first | rfl | omega | (simp only [decide_eq_false_iff_not,decide_eq_true_eq,Int.not_lt,Nat.not_lt,gt_iff_lt] at * <;> omega))) ?_;(with_reducible refine (aU.calls k1 a0 bQ t167 t168 Eb _ A39.out).mono ?_);rintro e w' ⟨rfl,⟨nd,rfl⟩⟩;refine ⟨_,rfl,?_⟩))
                      go_roundg k1
                      case measure=>have:=tK.out;omega
                      case rel=>exact ⟨(dG ++ t167),(t168),(wrap64 (vI + 1)),(by first | rfl | (simp;done) | (simp [*];done) | (simp [B.aV];done) | (simp [B.aW];done)),(by first | rfl | (simp;done) | (simp [*];done) | (simp [B.aV];done) | (simp [B.aW];done)),(by first | rfl | (simp;done) | (simp [*];done) | (simp [B.aV];done) | (simp [B.aW];done)),H',⟨by have:=tK.out;omega⟩,⟨by (with_reducible repeat (first | refine aG ?_ _ | refine aI ?_ | refine aA ?_ _));exact bT.out⟩,⟨by repeat (first | (with_reducible first | exact HB.out | apply ak | apply ah | apply au | refine aR ?_ kF.out) | exact HB.out)⟩⟩
                    · rw [if_neg ZC] at H
                      exact absurd H (by simp)
                  · rw [if_neg c40] at H
                    have ZA:(Eb == 0) = false:=beq_eq_false_iff_ne.mpr c40
                    have ZB:(Eb != 0) = true:=bne_iff_ne.mpr c40
                    simp only [Option.some.injEq,Prod.mk.injEq] at H
                    obtain ⟨rfl,rfl⟩:=H
                    have ace:wr.cell? ⟨dM,0,none⟩ = some (.int .i64 t162):=(aM bT.out 0).trans rfl
                    have acf:wr.cell? ⟨dM,1,none⟩ = some (.int .i64 kD):=(aM bT.out 1).trans rfl
                    have acg:wr.cell? ⟨dM,2,none⟩ = some (.int .i64 t164):=(aM bT.out 2).trans rfl
                    have ach:=ay bT.out 0
                    have aci:=ay bT.out 1
                    have acj:=ay bT.out 2
                    go_wp2_with (first | ((with_reducible refine aQ (f:=118) rfl ?_);refine bP (some 67) rfl rfl Try.func118 (by kernel_rfl) rfl #[.string a0,.int .i64 bQ] rfl (by (try simp only [List.map_toArray,List.map_cons,List.map_nil]);first | done | rfl | (simp only [List.length_drop,List.length_take];rfl) | (simp only [ByteArray.size_append,Int.natCast_add];rfl) | (rw [B.dP] <;> first | rfl | omega | (simp only [decide_eq_false_iff_not,decide_eq_true_eq,Int.not_lt,Nat.not_lt,gt_iff_lt] at * <;> omega))) ?_;(with_reducible refine (aU.calls k1 a0 bQ t167 t168 Eb _ A39.out).mono ?_);rintro e w' ⟨rfl,⟨nd,rfl⟩⟩;refine ⟨_,rfl,?_⟩))
                    go_ret2
                    exact ⟨by first | rfl | (simp [aJ,aK] <;> rfl) | (simp [*,aJ,aK] <;> rfl),by repeat (first | (with_reducible first | exact HB.out | apply ak | apply ah | apply au | refine aR ?_ kF.out) | exact HB.out)⟩
                · rw [if_neg JE] at H
                  have Ry:decide (vI < kD) = false:=decide_eq_false JE
                  clear JE
                  by_cases MB:(wrap64 (bQ + t164)) = (wrap64 (a1 + a2))
                  · rw [if_pos MB] at H
                    have ZE:((wrap64 (bQ + t164)) == (wrap64 (a1 + a2))) = true:=beq_iff_eq.mpr MB
                    have ZF:((wrap64 (bQ + t164)) != (wrap64 (a1 + a2))) = false:=bne_eq_false_iff_eq.mpr MB
                    (try (have ZG:(((bQ + t164)) == ((a1 + a2))) = true:=by have h_:((wrap64 (bQ + t164)) == (wrap64 (a1 + a2))) = true:=beq_iff_eq.mpr MB;rw [B.dP (by omega) (by omega)] at h_;rw [B.dP (by omega) (by omega)] at h_;exact h_))
                    (try (have ZH:(((bQ + t164)) != ((a1 + a2))) = false:=by have h_:((wrap64 (bQ + t164)) != (wrap64 (a1 + a2))) = false:=bne_eq_false_iff_eq.mpr MB;rw [B.dP (by omega) (by omega)] at h_;rw [B.dP (by omega) (by omega)] at h_;exact h_))
                    clear MB
                    by_cases ZI:0 ≤ bQ
                    · rw [if_pos ZI] at H
                      have af9:=eq_true ZI
                      have aga:decide (0 ≤ bQ) = true:=decide_eq_true ZI
                      clear ZI
                      by_cases c46:bQ ≤ (wrap64 (a1 + a2))
                      · rw [if_pos c46] at H
                        have agb:=eq_true c46
                        have agc:decide (bQ ≤ (wrap64 (a1 + a2))) = true:=decide_eq_true c46
                        by_cases c47:(wrap64 (a1 + a2)) ≤ (a0.size:Int)
                        · rw [if_pos c47] at H
                          have agd:=eq_true c47
                          have agf:decide ((wrap64 (a1 + a2)) ≤ (a0.size:Int)) = true:=decide_eq_true c47
                          by_cases ZJ:dG.size + (a0.extract (bQ:Int).toNat ((wrap64 (a1 + a2)):Int).toNat).size ≤ 9223372036854775807
                          · rw [if_pos ZJ] at H
                            have agh:=eq_true ZJ
                            have agi:decide (dG.size + (a0.extract (bQ:Int).toNat ((wrap64 (a1 + a2)):Int).toNat).size ≤ 9223372036854775807) = true:=decide_eq_true ZJ
                            try have agj:(9223372036854775807 < dG.size + (a0.extract (bQ:Int).toNat ((wrap64 (a1 + a2)):Int).toNat).size) = False:=eq_false (Nat.not_lt.2 ZJ)
                            by_cases c49:((dG ++ (a0.extract (bQ:Int).toNat ((wrap64 (a1 + a2)):Int).toNat)).size:Int) > 65535
                            · rw [if_pos c49] at H
                              have ZK:decide (65535 < ((dG ++ (a0.extract (bQ:Int).toNat ((wrap64 (a1 + a2)):Int).toNat)).size:Int)) = true:=decide_eq_true c49
                              have ZL:decide (65535 < (dG ++ (a0.extract (bQ:Int).toNat ((wrap64 (a1 + a2)):Int).toNat)).size) = true:=decide_eq_true (by omega)
                              (try (have ZM:decide (65535 < ((dG.size:Int) + ((a0.extract (bQ:Int).toNat ((wrap64 (a1 + a2)):Int).toNat).size:Int))) = true:=by have h_:decide (65535 < ((dG ++ (a0.extract (bQ:Int).toNat ((wrap64 (a1 + a2)):Int).toNat)).size:Int)) = true:=decide_eq_true c49;rw [show ((dG ++ (a0.extract (bQ:Int).toNat ((wrap64 (a1 + a2)):Int).toNat)).size:Int) = ((dG.size:Int) + ((a0.extract (bQ:Int).toNat ((wrap64 (a1 + a2)):Int).toNat).size:Int)) from by (simp only [ByteArray.size_append,Int.natCast_add];first | done | rfl)] at h_;(first | exact h_ | (simp only [Int.add_sub_cancel] at h_;exact h_))))
                              (try (have ZN:decide (65535 < ((dG.size:Int) + ((((wrap64 (a1 + a2)):Int).toNat - (bQ:Int).toNat:Nat):Int))) = true:=by have h_:decide (65535 < ((dG ++ (a0.extract (bQ:Int).toNat ((wrap64 (a1 + a2)):Int).toNat)).size:Int)) = true:=decide_eq_true c49;rw [show ((dG ++ (a0.extract (bQ:Int).toNat ((wrap64 (a1 + a2)):Int).toNat)).size:Int) = ((dG.size:Int) + ((a0.extract (bQ:Int).toNat ((wrap64 (a1 + a2)):Int).toNat).size:Int)) from by (simp only [ByteArray.size_append,Int.natCast_add];first | done | rfl)] at h_;rw [show ((a0.extract (bQ:Int).toNat ((wrap64 (a1 + a2)):Int).toNat).size:Int) = ((((wrap64 (a1 + a2)):Int).toNat - (bQ:Int).toNat:Nat):Int) from by (have h1_:(wrap64 (a1 + a2)) ≤ (a0.size:Int):=of_decide_eq_true (by assumption);rw [ByteArray.size_extract];omega)] at h_;exact h_))
                              (try (have ZO:decide (65535 < ((dG ++ (a0.extract (bQ:Int).toNat (((a1 + a2)):Int).toNat)).size:Int)) = true:=by have h_:decide (65535 < ((dG ++ (a0.extract (bQ:Int).toNat ((wrap64 (a1 + a2)):Int).toNat)).size:Int)) = true:=decide_eq_true c49;rw [B.dP (by omega) (by omega)] at h_;exact h_))
                              (try (have ZP:decide (65535 < (dG ++ (a0.extract (bQ:Int).toNat (((a1 + a2)):Int).toNat)).size) = true:=by have h_:decide (65535 < (dG ++ (a0.extract (bQ:Int).toNat ((wrap64 (a1 + a2)):Int).toNat)).size) = true:=decide_eq_true (by omega);rw [B.dP (by omega) (by omega)] at h_;exact h_))
                              (try (have ZR:decide (65535 < ((dG.size:Int) + ((a0.extract (bQ:Int).toNat (((a1 + a2)):Int).toNat).size:Int))) = true:=by have h_:decide (65535 < ((dG.size:Int) + ((a0.extract (bQ:Int).toNat ((wrap64 (a1 + a2)):Int).toNat).size:Int))) = true:=by have h_:decide (65535 < ((dG ++ (a0.extract (bQ:Int).toNat ((wrap64 (a1 + a2)):Int).toNat)).size:Int)) = true:=decide_eq_true c49;rw [show ((dG ++ (a0.extract (bQ:Int).toNat ((wrap64 (a1 + a2)):Int).toNat)).size:Int) = ((dG.size:Int) + ((a0.extract (bQ:Int).toNat ((wrap64 (a1 + a2)):Int).toNat).size:Int)) from by (simp only [ByteArray.size_append,Int.natCast_add];first | done | rfl)] at h_;(first | exact h_ | (simp only [Int.add_sub_cancel] at h_;exact h_));rw [B.dP (by omega) (by omega)] at h_;exact h_))
                              (try (have ZT:decide (65535 < ((dG.size:Int) + (((((a1 + a2)):Int).toNat - (bQ:Int).toNat:Nat):Int))) = true:=by have h_:decide (65535 < ((dG.size:Int) + ((((wrap64 (a1 + a2)):Int).toNat - (bQ:Int).toNat:Nat):Int))) = true:=by have h_:decide (65535 < ((dG ++ (a0.extract (bQ:Int).toNat ((wrap64 (a1 + a2)):Int).toNat)).size:Int)) = true:=decide_eq_true c49;rw [show ((dG ++ (a0.extract (bQ:Int).toNat ((wrap64 (a1 + a2)):Int).toNat)).size:Int) = ((dG.size:Int) + ((a0.extract (bQ:Int).toNat ((wrap64 (a1 + a2)):Int).toNat).size:Int)) from by (simp only [ByteArray.size_append,Int.natCast_add];first | done | rfl)] at h_;rw [show ((a0.extract (bQ:Int).toNat ((wrap64 (a1 + a2)):Int).toNat).size:Int) = ((((wrap64 (a1 + a2)):Int).toNat - (bQ:Int).toNat:Nat):Int) from by (have h1_:(wrap64 (a1 + a2)) ≤ (a0.size:Int):=of_decide_eq_true (by assumption);rw [ByteArray.size_extract];omega)] at h_;exact h_;rw [B.dP (by omega) (by omega)] at h_;exact h_))
                              clear c49
                              simp only [Option.some.injEq,Prod.mk.injEq] at H
                              obtain ⟨rfl,rfl⟩:=H
                              have acn:wr.cell? ⟨dM,0,none⟩ = some (.int .i64 t162):=(aM bT.out 0).trans rfl
                              have aco:wr.cell? ⟨dM,1,none⟩ = some (.int .i64 kD):=(aM bT.out 1).trans rfl
                              have acp:wr.cell? ⟨dM,2,none⟩ = some (.int .i64 t164):=(aM bT.out 2).trans rfl
                              have acr:=ay bT.out 0
                              have acs:=ay bT.out 1
                              have acu:=ay bT.out 2
                              go_wp2
                              go_ret2
                              exact ⟨by first | rfl | (simp [aJ,aK] <;> rfl) | (simp [*,aJ,aK] <;> rfl),by repeat (first | (with_reducible first | exact HB.out | apply ak | apply ah | apply au | refine aR ?_ kF.out) | exact HB.out)⟩
                            · rw [if_neg c49] at H
                              have ZK:decide (65535 < ((dG ++ (a0.extract (bQ:Int).toNat ((wrap64 (a1 + a2)):Int).toNat)).size:Int)) = false:=decide_eq_false c49
                              have ZL:decide (65535 < (dG ++ (a0.extract (bQ:Int).toNat ((wrap64 (a1 + a2)):Int).toNat)).size) = false:=decide_eq_false (by omega)
                              (try (have ZM:decide (65535 < ((dG.size:Int) + ((a0.extract (bQ:Int).toNat ((wrap64 (a1 + a2)):Int).toNat).size:Int))) = false:=by have h_:decide (65535 < ((dG ++ (a0.extract (bQ:Int).toNat ((wrap64 (a1 + a2)):Int).toNat)).size:Int)) = false:=decide_eq_false c49;rw [show ((dG ++ (a0.extract (bQ:Int).toNat ((wrap64 (a1 + a2)):Int).toNat)).size:Int) = ((dG.size:Int) + ((a0.extract (bQ:Int).toNat ((wrap64 (a1 + a2)):Int).toNat).size:Int)) from by (simp only [ByteArray.size_append,Int.natCast_add];first | done | rfl)] at h_;(first | exact h_ | (simp only [Int.add_sub_cancel] at h_;exact h_))))
                              (try (have ZN:decide (65535 < ((dG.size:Int) + ((((wrap64 (a1 + a2)):Int).toNat - (bQ:Int).toNat:Nat):Int))) = false:=by have h_:decide (65535 < ((dG ++ (a0.extract (bQ:Int).toNat ((wrap64 (a1 + a2)):Int).toNat)).size:Int)) = false:=decide_eq_false c49;rw [show ((dG ++ (a0.extract (bQ:Int).toNat ((wrap64 (a1 + a2)):Int).toNat)).size:Int) = ((dG.size:Int) + ((a0.extract (bQ:Int).toNat ((wrap64 (a1 + a2)):Int).toNat).size:Int)) from by (simp only [ByteArray.size_append,Int.natCast_add];first | done | rfl)] at h_;rw [show ((a0.extract (bQ:Int).toNat ((wrap64 (a1 + a2)):Int).toNat).size:Int) = ((((wrap64 (a1 + a2)):Int).toNat - (bQ:Int).toNat:Nat):Int) from by (have h1_:(wrap64 (a1 + a2)) ≤ (a0.size:Int):=of_decide_eq_true (by assumption);rw [ByteArray.size_extract];omega)] at h_;exact h_))
                              (try (have ZO:decide (65535 < ((dG ++ (a0.extract (bQ:Int).toNat (((a1 + a2)):Int).toNat)).size:Int)) = false:=by have h_:decide (65535 < ((dG ++ (a0.extract (bQ:Int).toNat ((wrap64 (a1 + a2)):Int).toNat)).size:Int)) = false:=decide_eq_false c49;rw [B.dP (by omega) (by omega)] at h_;exact h_))
                              (try (have ZP:decide (65535 < (dG ++ (a0.extract (bQ:Int).toNat (((a1 + a2)):Int).toNat)).size) = false:=by have h_:decide (65535 < (dG ++ (a0.extract (bQ:Int).toNat ((wrap64 (a1 + a2)):Int).toNat)).size) = false:=decide_eq_false (by omega);rw [B.dP (by omega) (by omega)] at h_;exact h_))
                              (try (have ZR:decide (65535 < ((dG.size:Int) + ((a0.extract (bQ:Int).toNat (((a1 + a2)):Int).toNat).size:Int))) = false:=by have h_:decide (65535 < ((dG.size:Int) + ((a0.extract (bQ:Int).toNat ((wrap64 (a1 + a2)):Int).toNat).size:Int))) = false:=by have h_:decide (65535 < ((dG ++ (a0.extract (bQ:Int).toNat ((wrap64 (a1 + a2)):Int).toNat)).size:Int)) = false:=decide_eq_false c49;rw [show ((dG ++ (a0.extract (bQ:Int).toNat ((wrap64 (a1 + a2)):Int).toNat)).size:Int) = ((dG.size:Int) + ((a0.extract (bQ:Int).toNat ((wrap64 (a1 + a2)):Int).toNat).size:Int)) from by (simp only [ByteArray.size_append,Int.natCast_add];first | done | rfl)] at h_;(first | exact h_ | (simp only [Int.add_sub_cancel] at h_;exact h_));rw [B.dP (by omega) (by omega)] at h_;exact h_))
                              (try (have ZT:decide (65535 < ((dG.size:Int) + (((((a1 + a2)):Int).toNat - (bQ:Int).toNat:Nat):Int))) = false:=by have h_:decide (65535 < ((dG.size:Int) + ((((wrap64 (a1 + a2)):Int).toNat - (bQ:Int).toNat:Nat):Int))) = false:=by have h_:decide (65535 < ((dG ++ (a0.extract (bQ:Int).toNat ((wrap64 (a1 + a2)):Int).toNat)).size:Int)) = false:=decide_eq_false c49;rw [show ((dG ++ (a0.extract (bQ:Int).toNat ((wrap64 (a1 + a2)):Int).toNat)).size:Int) = ((dG.size:Int) + ((a0.extract (bQ:Int).toNat ((wrap64 (a1 + a2)):Int).toNat).size:Int)) from by (simp only [ByteArray.size_append,Int.natCast_add];first | done | rfl)] at h_;rw [show ((a0.extract (bQ:Int).toNat ((wrap64 (a1 + a2)):Int).toNat).size:Int) = ((((wrap64 (a1 + a2)):Int).toNat - (bQ:Int).toNat:Nat):Int) from by (have h1_:(wrap64 (a1 + a2)) ≤ (a0.size:Int):=of_decide_eq_true (by assumption);rw [ByteArray.size_extract];omega)] at h_;exact h_;rw [B.dP (by omega) (by omega)] at h_;exact h_))
                              clear c49
                              simp only [Option.some.injEq,Prod.mk.injEq] at H
                              obtain ⟨rfl,rfl⟩:=H
                              have acv:wr.cell? ⟨dM,0,none⟩ = some (.int .i64 t162):=(aM bT.out 0).trans rfl
                              have acw:wr.cell? ⟨dM,1,none⟩ = some (.int .i64 kD):=(aM bT.out 1).trans rfl
                              have acy:wr.cell? ⟨dM,2,none⟩ = some (.int .i64 t164):=(aM bT.out 2).trans rfl
                              have acz:=ay bT.out 0
                              have acA:=ay bT.out 1
                              have acB:=ay bT.out 2
                              go_wp2
                              go_ret2
                              exact ⟨by first | rfl | (simp [aJ,aK] <;> rfl) | (simp [*,aJ,aK] <;> rfl),by repeat (first | (with_reducible first | exact HB.out | apply ak | apply ah | apply au | refine aR ?_ kF.out) | exact HB.out)⟩
                          · rw [if_neg ZJ] at H
                            exact absurd H (by simp)
                        · rw [if_neg c47] at H
                          exact absurd H (by simp)
                      · rw [if_neg c46] at H
                        exact absurd H (by simp)
                    · rw [if_neg ZI] at H
                      exact absurd H (by simp)
                  · rw [if_neg MB] at H
                    have ZE:((wrap64 (bQ + t164)) == (wrap64 (a1 + a2))) = false:=beq_eq_false_iff_ne.mpr MB
                    have ZF:((wrap64 (bQ + t164)) != (wrap64 (a1 + a2))) = true:=bne_iff_ne.mpr MB
                    (try (have ZG:(((bQ + t164)) == ((a1 + a2))) = false:=by have h_:((wrap64 (bQ + t164)) == (wrap64 (a1 + a2))) = false:=beq_eq_false_iff_ne.mpr MB;rw [B.dP (by omega) (by omega)] at h_;rw [B.dP (by omega) (by omega)] at h_;exact h_))
                    (try (have ZH:(((bQ + t164)) != ((a1 + a2))) = true:=by have h_:((wrap64 (bQ + t164)) != (wrap64 (a1 + a2))) = true:=bne_iff_ne.mpr MB;rw [B.dP (by omega) (by omega)] at h_;rw [B.dP (by omega) (by omega)] at h_;exact h_))
                    simp only [Option.some.injEq,Prod.mk.injEq] at H
                    obtain ⟨rfl,rfl⟩:=H
                    have acC:wr.cell? ⟨dM,0,none⟩ = some (.int .i64 t162):=(aM bT.out 0).trans rfl
                    have acD:wr.cell? ⟨dM,1,none⟩ = some (.int .i64 kD):=(aM bT.out 1).trans rfl
                    have acE:wr.cell? ⟨dM,2,none⟩ = some (.int .i64 t164):=(aM bT.out 2).trans rfl
                    have acF:=ay bT.out 0
                    have acG:=ay bT.out 1
                    have acH:=ay bT.out 2
                    go_wp2
                    go_ret2
                    exact ⟨by first | rfl | (simp [aJ,aK] <;> rfl) | (simp [*,aJ,aK] <;> rfl),by repeat (first | (with_reducible first | exact HB.out | apply ak | apply ah | apply au | refine aR ?_ kF.out) | exact HB.out)⟩
          · rw [if_neg c34] at H
            exact absurd H (by simp)
        · rw [if_neg KI] at H
          exact absurd H (by simp)
  · replace c6:=Bool.eq_false_iff.mpr c6
    subst c6
    have H1:(some ((⟨#[]⟩:ByteArray),2)) = some (r1,r2):=by rw [if_neg (show ¬ (false = true) by decide)] at H;exact H
    clear H
    have H:=H1
    clear H1
    simp only [Option.some.injEq,Prod.mk.injEq] at H
    obtain ⟨rfl,rfl⟩:=H
    go_enter Try.func104,Try.ntmps104
    go_wp2_with (first | ((with_reducible refine aQ (f:=99) rfl ?_);refine bP (some 23) rfl rfl Try.func99 (by kernel_rfl) rfl #[.string a0,.int .i64 a1,.int .i64 a2] rfl (by (try simp only [List.map_toArray,List.map_cons,List.map_nil]);first | done | rfl | (simp only [List.length_drop,List.length_take];rfl) | (simp only [ByteArray.size_append,Int.natCast_add];rfl) | (rw [B.dP] <;> first | rfl | omega | (simp only [decide_eq_false_iff_not,decide_eq_true_eq,Int.not_lt,Nat.not_lt,gt_iff_lt] at * <;> omega))) ?_;(with_reducible refine (bC.calls a0 a1 a2 t160 false _ A5.out).mono ?_);rintro e w' ⟨rfl,⟨nd,rfl⟩⟩;refine ⟨_,rfl,?_⟩))
    go_ret2
    exact ⟨by first | rfl | (simp [aJ,aK] <;> rfl) | (simp [*,aJ,aK] <;> rfl),by repeat (first | (with_reducible first | exact HB.out | apply ak | apply ah | apply au) | exact HB.out)⟩
def bR.f (k:Nat) (a0:Int) (a1:ByteArray):Option (Bool):=if (a1.size:Int) > 65535 then (some false) else ((aX.f k a1 0 (a1.size:Int) a0).bind fun Ec=>(if Ec.2 = 0 then (some (Ec.1.toList == a1.toList)) else (some false)))
set_option maxHeartbeats 8000000 in
set_option maxRecDepth 100000 in
theorem bR.calls (k:Nat) (a0:Int) (a1:ByteArray) (r:Bool) (w:World) (h:bR.f k a0 a1 = some r) :
    Calls Try.prog 83 #[.int .i64 a0,.string a1] w fun e w'=>e = .returned (.bool r) ∧ Below w.heap.size w w':=by
  have HB:=aj.mk (Below.refl w.heap.size w)
  have H:(if (a1.size:Int) > 65535 then (some false) else ((aX.f k a1 0 (a1.size:Int) a0).bind fun Ec=>(if Ec.2 = 0 then (some (Ec.1.toList == a1.toList)) else (some false)))) = some r:=h
  clear h
  by_cases c3:(a1.size:Int) > 65535
  · rw [if_pos c3] at H
    have qz:decide (65535 < (a1.size:Int)) = true:=decide_eq_true c3
    have BG:decide (65535 < a1.size) = true:=decide_eq_true (by omega)
    clear c3
    obtain rfl:=Option.some.inj H
    go_enter Try.func83,Try.ntmps83
    go_wp2
    go_ret
    exact ⟨by first | rfl | (simp [aJ,aK] <;> rfl) | (simp [*,aJ,aK] <;> rfl),by repeat (first | (with_reducible first | exact HB.out | apply ak | apply ah | apply au) | exact HB.out)⟩
  · rw [if_neg c3] at H
    have qz:decide (65535 < (a1.size:Int)) = false:=decide_eq_false c3
    have BG:decide (65535 < a1.size) = false:=decide_eq_false (by omega)
    clear c3
    replace H:=zbm H
    obtain ⟨⟨UN,t171⟩,DX,H⟩:=H
    replace H:(if t171 = 0 then (some (UN.toList == a1.toList)) else (some false)) = some r:=H
    have A4:=aj.mk DX
    clear DX
    by_cases c5:t171 = 0
    · rw [if_pos c5] at H
      have oP:(t171 == 0) = true:=beq_iff_eq.mpr c5
      have uS:(t171 != 0) = false:=bne_eq_false_iff_eq.mpr c5
      clear c5
      obtain rfl:=Option.some.inj H
      go_enter Try.func83,Try.ntmps83
      go_wp2_with (first | ((with_reducible refine aQ (f:=104) rfl ?_);refine bP (some 15) rfl rfl Try.func104 (by kernel_rfl) rfl #[.string a1,.int .i64 0,.int .i64 (a1.size:Int),.int .i64 a0] rfl (by (try simp only [List.map_toArray,List.map_cons,List.map_nil]);first | done | rfl | (simp only [List.length_drop,List.length_take];rfl) | (simp only [ByteArray.size_append,Int.natCast_add];rfl) | (rw [B.dP] <;> first | rfl | omega | (simp only [decide_eq_false_iff_not,decide_eq_true_eq,Int.not_lt,Nat.not_lt,gt_iff_lt] at * <;> omega))) ?_;(with_reducible refine (aX.calls k a1 0 (a1.size:Int) a0 UN t171 _ A4.out).mono ?_);rintro e w6 ⟨rfl,hb⟩;refine ⟨_,rfl,?_⟩;have dZ:=aj.mk (bE (by repeat (first | (with_reducible first | exact HB.out | apply ak | apply ah | apply au) | exact HB.out)) hb);clear HB;have HB:=dZ;clear dZ;(try clear hb);(try clear hb2);(try clear hk);(try clear hi)))
      go_ret
      exact ⟨by first | rfl | (simp [aJ,aK] <;> rfl) | (simp [*,aJ,aK] <;> rfl),by repeat (first | (with_reducible first | exact HB.out | apply ak | apply ah | apply au) | exact HB.out)⟩
    · rw [if_neg c5] at H
      have oP:(t171 == 0) = false:=beq_eq_false_iff_ne.mpr c5
      have uS:(t171 != 0) = true:=bne_iff_ne.mpr c5
      obtain rfl:=Option.some.inj H
      go_enter Try.func83,Try.ntmps83
      go_wp2_with (first | ((with_reducible refine aQ (f:=104) rfl ?_);refine bP (some 15) rfl rfl Try.func104 (by kernel_rfl) rfl #[.string a1,.int .i64 0,.int .i64 (a1.size:Int),.int .i64 a0] rfl (by (try simp only [List.map_toArray,List.map_cons,List.map_nil]);first | done | rfl | (simp only [List.length_drop,List.length_take];rfl) | (simp only [ByteArray.size_append,Int.natCast_add];rfl) | (rw [B.dP] <;> first | rfl | omega | (simp only [decide_eq_false_iff_not,decide_eq_true_eq,Int.not_lt,Nat.not_lt,gt_iff_lt] at * <;> omega))) ?_;(with_reducible refine (aX.calls k a1 0 (a1.size:Int) a0 UN t171 _ A4.out).mono ?_);rintro e w7 ⟨rfl,hb⟩;refine ⟨_,rfl,?_⟩;have dZ:=aj.mk (bE (by repeat (first | (with_reducible first | exact HB.out | apply ak | apply ah | apply au) | exact HB.out)) hb);clear HB;have HB:=dZ;clear dZ;(try clear hb);(try clear hb2);(try clear hk);(try clear hi)))
      go_ret
      exact ⟨by first | rfl | (simp [aJ,aK] <;> rfl) | (simp [*,aJ,aK] <;> rfl),by repeat (first | (with_reducible first | exact HB.out | apply ak | apply ah | apply au) | exact HB.out)⟩
def bg.l0 : Nat → ByteArray → List ByteArray → Int → Int → Int → Int → Int → Option (List ByteArray)
  | 0,_,_,_,_,_,_,_=>none
  | k + 1,x1,x5,x7,x8,Qb,Hy,Qc=>if x8 < Hy then ((aU.f k x1 x7).bind fun RB=>(if x5.length < 8796093022208 then (bg.l0 k x1 (x5 ++ [RB.1]) RB.2.1 (wrap64 (x8 + 1)) Qb Hy Qc) else (none))) else (some x5)
def bg.f (k:Nat) (a0:Int) (a1:ByteArray):Option (List ByteArray):=(bR.f k a0 a1).bind fun Jj=>(if Jj = true then ((aH.f k a0).bind fun kE=>(bg.l0 k a1 ([]:List ByteArray) kE.1 0 kE.1 kE.2.1 kE.2.2)) else (some ([]:List ByteArray)))
set_option maxHeartbeats 8000000 in
set_option maxRecDepth 100000 in
theorem bg.calls (k:Nat) (a0:Int) (a1:ByteArray) (r:List ByteArray) (w:World) (h:bg.f k a0 a1 = some r) :
    Calls Try.prog 105 #[.int .i64 a0,.string a1] w fun e w'=>∃ Rm:Value,e = .returned (Rm) ∧ Kd.R Kd.string 9 w' w.heap.size (fun _=>True) Rm r ∧ Below w.heap.size w w':=by
  have Mj:=Try.underlying142
  have HB:=aj.mk (Below.refl w.heap.size w)
  have H:((bR.f k a0 a1).bind fun Jj=>(if Jj = true then ((aH.f k a0).bind fun kE=>(bg.l0 k a1 ([]:List ByteArray) kE.1 0 kE.1 kE.2.1 kE.2.2)) else (some ([]:List ByteArray)))) = some r:=h
  clear h
  replace H:=zbm H
  obtain ⟨Jj,Rq,H⟩:=H
  replace H:(if Jj = true then ((aH.f k a0).bind fun kE=>(bg.l0 k a1 ([]:List ByteArray) kE.1 0 kE.1 kE.2.1 kE.2.2)) else (some ([]:List ByteArray))) = some r:=H
  have A3:=aj.mk Rq
  clear Rq
  by_cases c4:Jj = true
  · subst c4
    have H1:((aH.f k a0).bind fun kE=>(bg.l0 k a1 ([]:List ByteArray) kE.1 0 kE.1 kE.2.1 kE.2.2)) = some r:=by rw [if_pos rfl] at H;exact H
    clear H
    have H:=H1
    clear H1
    replace H:=zbm H
    obtain ⟨⟨t173,uT,t175⟩,Rz,H⟩:=H
    replace H:(bg.l0 k a1 ([]:List ByteArray) t173 0 t173 uT t175) = some r:=H
    have A5:=aj.mk Rz
    clear Rz
    have H':=aj.mk H
    clear H
    go_enter Try.func105,Try.ntmps105
    go_wp2_with (first | ((with_reducible refine aQ (f:=83) rfl ?_);refine bP (some 14) rfl rfl Try.func83 (by kernel_rfl) rfl #[.int .i64 a0,.string a1] rfl (by (try simp only [List.map_toArray,List.map_cons,List.map_nil]);first | done | rfl | (simp only [List.length_drop,List.length_take];rfl) | (simp only [ByteArray.size_append,Int.natCast_add];rfl) | (rw [B.dP] <;> first | rfl | omega | (simp only [decide_eq_false_iff_not,decide_eq_true_eq,Int.not_lt,Nat.not_lt,gt_iff_lt] at * <;> omega))) ?_;(with_reducible refine (bR.calls k a0 a1 true _ A3.out).mono ?_);rintro e w6 ⟨rfl,hb⟩;refine ⟨_,rfl,?_⟩;have dZ:=aj.mk (bE (by repeat (first | (with_reducible first | exact HB.out | apply ak | apply ah | apply au) | exact HB.out)) hb);clear HB;have HB:=dZ;clear dZ;(try clear hb);(try clear hb2);(try clear hk);(try clear hi)) | ((with_reducible refine aQ (f:=106) rfl ?_);refine bP (some 17) rfl rfl Try.func106 (by kernel_rfl) rfl #[.int .i64 a0] rfl (by (try simp only [List.map_toArray,List.map_cons,List.map_nil]);first | done | rfl | (simp only [List.length_drop,List.length_take];rfl) | (simp only [ByteArray.size_append,Int.natCast_add];rfl) | (rw [B.dP] <;> first | rfl | omega | (simp only [decide_eq_false_iff_not,decide_eq_true_eq,Int.not_lt,Nat.not_lt,gt_iff_lt] at * <;> omega))) ?_;(with_reducible refine (aH.calls k a0 t173 uT t175 _ A5.out).mono ?_);rintro e w7 ⟨rfl,hb⟩;refine ⟨_,rfl,?_⟩;have dZ:=aj.mk (bE (by repeat (first | (with_reducible first | exact HB.out | apply ak | apply ah | apply au) | exact HB.out)) hb);clear HB;have HB:=dZ;clear dZ;(try clear hb);(try clear hb2);(try clear hk);(try clear hi)) | ((with_reducible refine gH (N:=6) rfl ?_);refine fP ?hg (N:=6) ?hd (cs:=#[.int .i64 0,.int .i64 0,.int .i64 0]) (t:=142) ?hr ?_;(case hd=>rfl);(case hg=>rfl);(case hr=>first | (go_simp;done) | (go_simp;rfl));intro nG hg w8 gW hb;have dZ:=aj.mk (bE (by repeat (first | (with_reducible first | exact HB.out | apply ak | apply ah | apply au) | exact HB.out)) hb);have gZ:=aj.mk (gW);have jc:=aj.mk ((by rw [hg];exact (bL (by repeat (first | (with_reducible first | exact HB.out | apply ak | apply ah | apply au) | exact HB.out))):w.heap.size ≤ nG));have jG:=aj.mk ((by rw [hg];exact (bL (by repeat (first | (with_reducible first | exact HB.out | apply ak | apply ah | apply au) | exact HB.out))):w.heap.size ≤ nG));clear HB;have HB:=dZ;have iV:=gZ;have agk:=jc;have Ed:=jG;clear dZ gZ jc jG;clear hb gW hg;have Mk:w8.cell? ⟨nG,0,none⟩ = some (.int .i64 0):=(aM iV.out 0).trans rfl;have Ml:w8.cell? ⟨nG,1,none⟩ = some (.int .i64 0):=(aM iV.out 1).trans rfl;have Mr:w8.cell? ⟨nG,2,none⟩ = some (.int .i64 0):=(aM iV.out 2).trans rfl;have Ms:=ay iV.out 0;have Mt:=ay iV.out 1;have Mv:=ay iV.out 2))
    go_loopg [5,7,8] k (fun kq v5 v7 v8 w'=>∃ (Ee:List ByteArray) (dK:Int) (gI:Int),v7 = .int .i64 dK ∧ v8 = .int .i64 gI ∧ aj (bg.l0 kq a1 Ee dK gI t173 uT t175 = some r) ∧ aj (kq ≤ k) ∧ aj (Kd.R Kd.string 9 w' w.heap.size (fun _=>True) v5 Ee) ∧ aj (w'.heap[nG]? = some (.cells #[.int .i64 t173,.int .i64 uT,.int .i64 t175] 142 (0,0))) ∧ aj (Below w.heap.size w w'))
    case atStart=>exact ⟨(([]:List ByteArray)),(t173),(0),(by first | rfl | (simp;done) | (simp [*];done) | (simp [B.aV];done) | (simp [B.aW];done)),(by first | rfl | (simp;done) | (simp [*];done) | (simp [B.aV];done) | (simp [B.aW];done)),H',⟨Nat.le_refl _⟩,⟨by first | exact Kd.jB _ _ _ _ _ | exact Kd.kT _ _ _ _ _ | exact Kd.kU _ _ _ _ _ | exact Kd.kR _ _ _ _ _ | exact Kd.kS _ _ _ _ _⟩,⟨by (with_reducible repeat (first | refine aG ?_ _ | refine aI ?_ | refine aA ?_ _));refine bU (cs:=#[.int .i64 t173,.int .i64 uT,.int .i64 0]) ?_ 2 _ rfl;(with_reducible repeat (first | refine aG ?_ _ | refine aI ?_ | refine aA ?_ _));refine bU (cs:=#[.int .i64 t173,.int .i64 0,.int .i64 0]) ?_ 1 _ rfl;(with_reducible repeat (first | refine aG ?_ _ | refine aI ?_ | refine aA ?_ _));refine bU (cs:=#[.int .i64 0,.int .i64 0,.int .i64 0]) ?_ 0 _ rfl;(with_reducible repeat (first | refine aG ?_ _ | refine aI ?_ | refine aA ?_ _));exact iV.out⟩,⟨by repeat (first | (with_reducible first | exact HB.out | apply ak | apply ah | apply au | refine aR ?_ Ed.out) | exact HB.out)⟩⟩
    case round =>
      clear H'
      try clear c1
      try clear p2
      try clear c4
      try clear c8
      try clear Mk
      try clear Ml
      try clear Mr
      try clear Ms
      try clear Mt
      try clear Mv
      obtain ⟨Ee,dK,gI,rfl,rfl,HA,tK,uU,iV,HB⟩:=hrel
      cases gk with
      | zero=>exact absurd HA.out (by simp [bg.l0])
      | succ k1 =>
        have H:=HA.out
        clear HA
        simp only [bg.l0] at H
        by_cases c10:gI < uT
        · rw [if_pos c10] at H
          have qM:decide (gI < uT) = true:=decide_eq_true c10
          clear c10
          replace H:=zbm H
          obtain ⟨⟨MC,Qd,aei⟩,ZU,H⟩:=H
          replace H:(if Ee.length < 8796093022208 then (bg.l0 k1 a1 (Ee ++ [MC]) Qd (wrap64 (gI + 1)) t173 uT t175) else (none)) = some r:=H
          have A11:=aj.mk ZU
          clear ZU
          by_cases c12:Ee.length < 8796093022208
          · rw [if_pos c12] at H
            have ZV:=aj.mk c12
            clear c12
            obtain ⟨ZW,Ef⟩:∃ y_:List ByteArray,y_ = (Ee ++ [MC]):=⟨_,rfl⟩
            replace H:(bg.l0 k1 a1 ZW Qd (wrap64 (gI + 1)) t173 uT t175) = some r:=by first | (rw [Ef];with_reducible exact H) | (have Fv:=(Option.bind_some _ _).symm.trans H;rw [Ef];with_reducible exact Fv) | (have Fv:=(Option.bind_some _ _).symm.trans H;with_reducible exact Fv) | with_reducible exact H | (rw [Ef];exact H) | exact H
            have ZX:=aj.mk Ef
            clear Ef
            have H':=aj.mk H
            clear H
            have BL:wr.cell? ⟨nG,0,none⟩ = some (.int .i64 t173):=(aM iV.out 0).trans rfl
            have BM:wr.cell? ⟨nG,1,none⟩ = some (.int .i64 uT):=(aM iV.out 1).trans rfl
            have BN:wr.cell? ⟨nG,2,none⟩ = some (.int .i64 t175):=(aM iV.out 2).trans rfl
            have BO:=ay iV.out 0
            have BP:=ay iV.out 1
            have BQ:=ay iV.out 2
            go_wp2_with (first | ((with_reducible refine aQ (f:=118) rfl ?_);refine bP (some 29) rfl rfl Try.func118 (by kernel_rfl) rfl #[.string a1,.int .i64 dK] rfl (by (try simp only [List.map_toArray,List.map_cons,List.map_nil]);first | done | rfl | (simp only [List.length_drop,List.length_take];rfl) | (simp only [ByteArray.size_append,Int.natCast_add];rfl) | (rw [B.dP] <;> first | rfl | omega | (simp only [decide_eq_false_iff_not,decide_eq_true_eq,Int.not_lt,Nat.not_lt,gt_iff_lt] at * <;> omega))) ?_;(with_reducible refine (aU.calls k1 a1 dK MC Qd aei _ A11.out).mono ?_);rintro e w' ⟨rfl,⟨nd,rfl⟩⟩;refine ⟨_,rfl,?_⟩) | ((with_reducible refine nP (b:=.append) (xs:=#[.tmp 33,.tmp 35]) rfl ?_);at_builtin;refine Kd.xR Kd.string (w0:=w) w.heap.size rfl (.tmp 33) (.tmp 35) 33 9 (.string ⟨#[]⟩) 16 rfl Try.underlying33 GJ rfl (by decide) (by omega) u5 Ee MC [.string MC] (fun _=>True) (fun _=>False) rfl rfl ?aP (fun _ hk=>hk.elim) ?aF ?aO ?aB ?aS ?aL ?_;(case aP=>exact rfl);(case aB=>exact (by repeat (first | (with_reducible first | exact HB.out | apply ak | apply ah | apply au | refine aR ?_ Ed.out) | exact HB.out)));(case aF=>exact (fun _ _=>trivial));(case aO=>exact (by (with_reducible repeat (first | apply Kd.eX | apply Kd.fH | apply Kd.fQ));exact uU.out));(case aS=>exact (bL (by repeat (first | (with_reducible first | exact HB.out | apply ak | apply ah | apply au | refine aR ?_ Ed.out) | exact HB.out))));(case aL=>have:=ZV.out;omega);intro agG w14 ho hb hg hat;rw [← ZX.out] at ho;have dZ:=aj.mk (pU (g:=nG) (o:=.cells #[.int .i64 t173,.int .i64 uT,.int .i64 t175] 142 (0,0)) (by (with_reducible repeat (first | refine aG ?_ _ | refine aI ?_ | refine aA ?_ _));exact iV.out) hg (Kd.OE uU.out iV.out (by decide)));have gZ:=aj.mk (hb);have jc:=aj.mk (ho);clear iV;clear HB;clear uU;have iV:=dZ;have HB:=gZ;have ZY:=jc;clear dZ gZ jc;clear ho hb hg hat))
            go_roundg k1
            case measure=>have:=tK.out;omega
            case rel=>exact ⟨(ZW),(Qd),(wrap64 (gI + 1)),(by first | rfl | (simp;done) | (simp [*];done) | (simp [B.aV];done) | (simp [B.aW];done)),(by first | rfl | (simp;done) | (simp [*];done) | (simp [B.aV];done) | (simp [B.aW];done)),H',⟨by have:=tK.out;omega⟩,⟨by (with_reducible repeat (first | apply Kd.eX | apply Kd.fH | apply Kd.fQ));exact ZY.out⟩,⟨by (with_reducible repeat (first | refine aG ?_ _ | refine aI ?_ | refine aA ?_ _));exact iV.out⟩,⟨by repeat (first | (with_reducible first | exact HB.out | apply ak | apply ah | apply au | refine aR ?_ Ed.out) | exact HB.out)⟩⟩
          · rw [if_neg c12] at H
            exact absurd H (by simp)
        · rw [if_neg c10] at H
          have qM:decide (gI < uT) = false:=decide_eq_false c10
          clear c10
          obtain rfl:=Option.some.inj H
          have BR:wr.cell? ⟨nG,0,none⟩ = some (.int .i64 t173):=(aM iV.out 0).trans rfl
          have BS:wr.cell? ⟨nG,1,none⟩ = some (.int .i64 uT):=(aM iV.out 1).trans rfl
          have BU:wr.cell? ⟨nG,2,none⟩ = some (.int .i64 t175):=(aM iV.out 2).trans rfl
          have BX:=ay iV.out 0
          have BZ:=ay iV.out 1
          have Ca:=ay iV.out 2
          go_wp2
          go_ret
          exact ⟨_,by first | rfl | (simp [aJ,aK] <;> rfl) | (simp [*,aJ,aK] <;> rfl),by (with_reducible repeat (first | apply Kd.eX | apply Kd.fH | apply Kd.fQ));exact uU.out,by repeat (first | (with_reducible first | exact HB.out | apply ak | apply ah | apply au | refine aR ?_ Ed.out) | exact HB.out)⟩
  · replace c4:=Bool.eq_false_iff.mpr c4
    subst c4
    have H1:(some ([]:List ByteArray)) = some r:=by rw [if_neg (show ¬ (false = true) by decide)] at H;exact H
    clear H
    have H:=H1
    clear H1
    obtain rfl:=Option.some.inj H
    go_enter Try.func105,Try.ntmps105
    go_wp2_with (first | ((with_reducible refine aQ (f:=83) rfl ?_);refine bP (some 14) rfl rfl Try.func83 (by kernel_rfl) rfl #[.int .i64 a0,.string a1] rfl (by (try simp only [List.map_toArray,List.map_cons,List.map_nil]);first | done | rfl | (simp only [List.length_drop,List.length_take];rfl) | (simp only [ByteArray.size_append,Int.natCast_add];rfl) | (rw [B.dP] <;> first | rfl | omega | (simp only [decide_eq_false_iff_not,decide_eq_true_eq,Int.not_lt,Nat.not_lt,gt_iff_lt] at * <;> omega))) ?_;(with_reducible refine (bR.calls k a0 a1 false _ A3.out).mono ?_);rintro e w16 ⟨rfl,hb⟩;refine ⟨_,rfl,?_⟩;have dZ:=aj.mk (bE (by repeat (first | (with_reducible first | exact HB.out | apply ak | apply ah | apply au) | exact HB.out)) hb);clear HB;have HB:=dZ;clear dZ;(try clear hb);(try clear hb2);(try clear hk);(try clear hi)))
    go_ret
    exact ⟨_,by first | rfl | (simp [aJ,aK] <;> rfl) | (simp [*,aJ,aK] <;> rfl),by first | exact Kd.jB _ _ _ _ _ | exact Kd.kT _ _ _ _ _ | exact Kd.kU _ _ _ _ _ | exact Kd.kR _ _ _ _ _ | exact Kd.kS _ _ _ _ _,by repeat (first | (with_reducible first | exact HB.out | apply ak | apply ah | apply au) | exact HB.out)⟩
def bG.l0 : Nat → ByteArray → List ByteArray → ByteArray → Int → Int → Option (ByteArray)
  | 0,_,_,_,_,_=>none
  | k + 1,x1,x5,x7,x8,x9=>if x9 < (x5.length:Int) then (if 0 ≤ x9 then ((fA.f k (oJ ByteArray.empty x5 x9)).bind fun zn=>(if x7.size + zn.size ≤ 9223372036854775807 then (bG.l0 k x1 x5 (x7 ++ zn) (wrap64 (x8 + ((oJ ByteArray.empty x5 x9).size:Int))) (wrap64 (x9 + 1))) else (none))) else (none)) else (if 0 ≤ x8 then (if x8 ≤ (x1.size:Int) then (if x7.size + (x1.extract (x8:Int).toNat x1.size).size ≤ 9223372036854775807 then (some (x7 ++ (x1.extract (x8:Int).toNat x1.size))) else (none)) else (none)) else (none))
def bG.f (k:Nat) (a0:Int) (a1:ByteArray):Option (ByteArray):=(bR.f k a0 a1).bind fun t183=>(if t183 = true then ((bg.f k a0 a1).bind fun l9=>((aH.f k a0).bind fun iZ=>(if 0 ≤ iZ.1 then (if iZ.1 ≤ (a1.size:Int) then (bG.l0 k a1 l9 (a1.extract 0 (iZ.1:Int).toNat) iZ.1 0) else (none)) else (none)))) else (some (⟨#[]⟩:ByteArray)))
set_option maxHeartbeats 8000000 in
set_option maxRecDepth 100000 in
theorem bG.calls (k:Nat) (a0:Int) (a1:ByteArray) (r:ByteArray) (w:World) (h:bG.f k a0 a1 = some r) :
    Calls Try.prog 84 #[.int .i64 a0,.string a1] w fun e w'=>e = .returned (.string r) ∧ Below w.heap.size w w':=by
  have Mj:=Try.underlying142
  have HB:=aj.mk (Below.refl w.heap.size w)
  have H:((bR.f k a0 a1).bind fun t183=>(if t183 = true then ((bg.f k a0 a1).bind fun l9=>((aH.f k a0).bind fun iZ=>(if 0 ≤ iZ.1 then (if iZ.1 ≤ (a1.size:Int) then (bG.l0 k a1 l9 (a1.extract 0 (iZ.1:Int).toNat) iZ.1 0) else (none)) else (none)))) else (some (⟨#[]⟩:ByteArray)))) = some r:=h
  clear h
  replace H:=zbm H
  obtain ⟨t183,Rq,H⟩:=H
  replace H:(if t183 = true then ((bg.f k a0 a1).bind fun l9=>((aH.f k a0).bind fun iZ=>(if 0 ≤ iZ.1 then (if iZ.1 ≤ (a1.size:Int) then (bG.l0 k a1 l9 (a1.extract 0 (iZ.1:Int).toNat) iZ.1 0) else (none)) else (none)))) else (some (⟨#[]⟩:ByteArray))) = some r:=H
  have A3:=aj.mk Rq
  clear Rq
  by_cases c4:t183 = true
  · subst c4
    have H1:((bg.f k a0 a1).bind fun l9=>((aH.f k a0).bind fun iZ=>(if 0 ≤ iZ.1 then (if iZ.1 ≤ (a1.size:Int) then (bG.l0 k a1 l9 (a1.extract 0 (iZ.1:Int).toNat) iZ.1 0) else (none)) else (none)))) = some r:=by rw [if_pos rfl] at H;exact H
    clear H
    have H:=H1
    clear H1
    replace H:=zbm H
    obtain ⟨l9,Rz,H⟩:=H
    replace H:((aH.f k a0).bind fun iZ=>(if 0 ≤ iZ.1 then (if iZ.1 ≤ (a1.size:Int) then (bG.l0 k a1 l9 (a1.extract 0 (iZ.1:Int).toNat) iZ.1 0) else (none)) else (none))) = some r:=H
    have A5:=aj.mk Rz
    clear Rz
    replace H:=zbm H
    obtain ⟨⟨qC,ME,Qe⟩,A60,H⟩:=H
    replace H:(if 0 ≤ qC then (if qC ≤ (a1.size:Int) then (bG.l0 k a1 l9 (a1.extract 0 (qC:Int).toNat) qC 0) else (none)) else (none)) = some r:=H
    have A6:=aj.mk A60
    clear A60
    by_cases c7:0 ≤ qC
    · rw [if_pos c7] at H
      have tX:=eq_true c7
      have Jb:decide (0 ≤ qC) = true:=decide_eq_true c7
      clear c7
      by_cases c8:qC ≤ (a1.size:Int)
      · rw [if_pos c8] at H
        have rz:=eq_true c8
        have rA:decide (qC ≤ (a1.size:Int)) = true:=decide_eq_true c8
        clear c8
        have H':=aj.mk H
        clear H
        go_enter Try.func84,Try.ntmps84
        go_wp2_with (first | ((with_reducible refine aQ (f:=83) rfl ?_);refine bP (some 12) rfl rfl Try.func83 (by kernel_rfl) rfl #[.int .i64 a0,.string a1] rfl (by (try simp only [List.map_toArray,List.map_cons,List.map_nil]);first | done | rfl | (simp only [List.length_drop,List.length_take];rfl) | (simp only [ByteArray.size_append,Int.natCast_add];rfl) | (rw [B.dP] <;> first | rfl | omega | (simp only [decide_eq_false_iff_not,decide_eq_true_eq,Int.not_lt,Nat.not_lt,gt_iff_lt] at * <;> omega))) ?_;(with_reducible refine (bR.calls k a0 a1 true _ A3.out).mono ?_);rintro e w9 ⟨rfl,hb⟩;refine ⟨_,rfl,?_⟩;have dZ:=aj.mk (bE (by repeat (first | (with_reducible first | exact HB.out | apply ak | apply ah | apply au) | exact HB.out)) hb);clear HB;have HB:=dZ;clear dZ;(try clear hb);(try clear hb2);(try clear hk);(try clear hi)) | ((with_reducible refine aQ (f:=105) rfl ?_);refine bP (some 16) rfl rfl Try.func105 (by kernel_rfl) rfl #[.int .i64 a0,.string a1] rfl (by (try simp only [List.map_toArray,List.map_cons,List.map_nil]);first | done | rfl | (simp only [List.length_drop,List.length_take];rfl) | (simp only [ByteArray.size_append,Int.natCast_add];rfl) | (rw [B.dP] <;> first | rfl | omega | (simp only [decide_eq_false_iff_not,decide_eq_true_eq,Int.not_lt,Nat.not_lt,gt_iff_lt] at * <;> omega))) ?_;(with_reducible refine (bg.calls k a0 a1 l9 _ A5.out).mono ?_);rintro e w10 ⟨aej,rfl,ho0,hb⟩;refine ⟨_,rfl,?_⟩;have dZ:=aj.mk (Kd.sZ ho0 (bL (by repeat (first | (with_reducible first | exact HB.out | apply ak | apply ah | apply au) | exact HB.out))));have gZ:=aj.mk (bE (by repeat (first | (with_reducible first | exact HB.out | apply ak | apply ah | apply au) | exact HB.out)) hb);clear HB;have yH:=dZ;have HB:=gZ;clear dZ gZ;(try clear hb);(try clear hb2);(try clear hk);(try clear hi);(try clear ho0)) | ((with_reducible refine aQ (f:=106) rfl ?_);refine bP (some 18) rfl rfl Try.func106 (by kernel_rfl) rfl #[.int .i64 a0] rfl (by (try simp only [List.map_toArray,List.map_cons,List.map_nil]);first | done | rfl | (simp only [List.length_drop,List.length_take];rfl) | (simp only [ByteArray.size_append,Int.natCast_add];rfl) | (rw [B.dP] <;> first | rfl | omega | (simp only [decide_eq_false_iff_not,decide_eq_true_eq,Int.not_lt,Nat.not_lt,gt_iff_lt] at * <;> omega))) ?_;(with_reducible refine (aH.calls k a0 qC ME Qe _ A6.out).mono ?_);rintro e UH ⟨rfl,hb⟩;refine ⟨_,rfl,?_⟩;have dZ:=aj.mk (Kd.j3 (by (with_reducible repeat (first | apply Kd.eX | apply Kd.fH | apply Kd.fQ));exact yH.out) hb);have gZ:=aj.mk (bE (by repeat (first | (with_reducible first | exact HB.out | apply ak | apply ah | apply au) | exact HB.out)) hb);clear yH;clear HB;have yH:=dZ;have HB:=gZ;clear dZ gZ;(try clear hb);(try clear hb2);(try clear hk);(try clear hi)) | ((with_reducible refine gH (N:=6) rfl ?_);refine fP ?hg (N:=6) ?hd (cs:=#[.int .i64 0,.int .i64 0,.int .i64 0]) (t:=142) ?hr ?_;(case hd=>rfl);(case hg=>rfl);(case hr=>first | (go_simp;done) | (go_simp;rfl));intro qO hg w12 gW hb;have dZ:=aj.mk (Kd.j3 (by (with_reducible repeat (first | apply Kd.eX | apply Kd.fH | apply Kd.fQ));exact yH.out) hb);have gZ:=aj.mk (bE (by repeat (first | (with_reducible first | exact HB.out | apply ak | apply ah | apply au) | exact HB.out)) hb);have jc:=aj.mk (gW);have jG:=aj.mk ((by rw [hg];exact (bL (by repeat (first | (with_reducible first | exact HB.out | apply ak | apply ah | apply au) | exact HB.out))):w.heap.size ≤ qO));have qB:=aj.mk ((by rw [hg];exact (bL (by repeat (first | (with_reducible first | exact HB.out | apply ak | apply ah | apply au) | exact HB.out))):w.heap.size ≤ qO));clear yH;clear HB;have yH:=dZ;have HB:=gZ;have nH:=jc;have agl:=jG;have Hz:=qB;clear dZ gZ jc jG qB;clear hb gW hg;have BL:w12.cell? ⟨qO,0,none⟩ = some (.int .i64 0):=(aM nH.out 0).trans rfl;have BM:w12.cell? ⟨qO,1,none⟩ = some (.int .i64 0):=(aM nH.out 1).trans rfl;have BN:w12.cell? ⟨qO,2,none⟩ = some (.int .i64 0):=(aM nH.out 2).trans rfl;have BO:=ay nH.out 0;have BP:=ay nH.out 1;have BQ:=ay nH.out 2))
        go_loopg [7,8,9] k (fun kq v7 v8 v9 w'=>∃ (dK:ByteArray) (gI:Int) (iI:Int),v7 = .string dK ∧ v8 = .int .i64 gI ∧ v9 = .int .i64 iI ∧ aj (bG.l0 kq a1 l9 dK gI iI = some r) ∧ aj (kq ≤ k) ∧ aj (Kd.R Kd.string 9 w' w.heap.size (fun _=>True) aej l9) ∧ aj (w'.heap[qO]? = some (.cells #[.int .i64 qC,.int .i64 ME,.int .i64 Qe] 142 (0,0))) ∧ aj (Below w.heap.size w w'))
        case atStart=>exact ⟨(a1.extract 0 (qC:Int).toNat),(qC),(0),(by first | rfl | (simp;done) | (simp [*];done) | (simp [B.aV];done) | (simp [B.aW];done)),(by first | rfl | (simp;done) | (simp [*];done) | (simp [B.aV];done) | (simp [B.aW];done)),(by first | rfl | (simp;done) | (simp [*];done) | (simp [B.aV];done) | (simp [B.aW];done)),H',⟨Nat.le_refl _⟩,⟨by (with_reducible repeat (first | apply Kd.eX | apply Kd.fH | apply Kd.fQ));exact Kd.oL (Kd.tq (p:=⟨qO,2,none⟩) (Kd.tq (p:=⟨qO,1,none⟩) (Kd.tq (p:=⟨qO,0,none⟩) (Kd.tu yH.out nH.out (by decide)) (fun _ hk=>hk.2) (.int .i64 qC)) (fun _ hk=>hk.2) (.int .i64 ME)) (fun _ hk=>hk.2) (.int .i64 Qe)) (fun _ hk=>trivial)⟩,⟨by (with_reducible repeat (first | refine aG ?_ _ | refine aI ?_ | refine aA ?_ _));refine bU (cs:=#[.int .i64 qC,.int .i64 ME,.int .i64 0]) ?_ 2 _ rfl;(with_reducible repeat (first | refine aG ?_ _ | refine aI ?_ | refine aA ?_ _));refine bU (cs:=#[.int .i64 qC,.int .i64 0,.int .i64 0]) ?_ 1 _ rfl;(with_reducible repeat (first | refine aG ?_ _ | refine aI ?_ | refine aA ?_ _));refine bU (cs:=#[.int .i64 0,.int .i64 0,.int .i64 0]) ?_ 0 _ rfl;(with_reducible repeat (first | refine aG ?_ _ | refine aI ?_ | refine aA ?_ _));exact nH.out⟩,⟨by repeat (first | (with_reducible first | exact HB.out | apply ak | apply ah | apply au | refine aR ?_ Hz.out) | exact HB.out)⟩⟩
        case round =>
          clear H'
          try clear c1
          try clear p2
          try clear c4
          try clear c7
          try clear tX
          try clear Jb
          try clear c8
          try clear rz
          try clear rA
          try clear c10
          try clear BL
          try clear BM
          try clear BN
          try clear BO
          try clear BP
          try clear BQ
          obtain ⟨dK,gI,iI,rfl,rfl,rfl,HA,tK,uU,nH,HB⟩:=hrel
          cases gk with
          | zero=>exact absurd HA.out (by simp [bG.l0])
          | succ k1 =>
            have H:=HA.out
            clear HA
            simp only [bG.l0] at H
            by_cases c14:iI < (l9.length:Int)
            · rw [if_pos c14] at H
              have zZ:decide (iI < (l9.length:Int)) = true:=decide_eq_true c14
              clear c14
              by_cases c15:0 ≤ iI
              · rw [if_pos c15] at H
                have Yz:decide (0 ≤ iI) = true:=decide_eq_true c15
                clear c15
                replace H:=zbm H
                obtain ⟨zn,Z0,H⟩:=H
                replace H:(if dK.size + zn.size ≤ 9223372036854775807 then (bG.l0 k1 a1 l9 (dK ++ zn) (wrap64 (gI + ((oJ ByteArray.empty l9 iI).size:Int))) (wrap64 (iI + 1))) else (none)) = some r:=H
                have A16:=aj.mk Z0
                clear Z0
                by_cases c17:dK.size + zn.size ≤ 9223372036854775807
                · rw [if_pos c17] at H
                  have Rw:=eq_true c17
                  have agm:decide (dK.size + zn.size ≤ 9223372036854775807) = true:=decide_eq_true c17
                  try have agn:(9223372036854775807 < dK.size + zn.size) = False:=eq_false (Nat.not_lt.2 c17)
                  have H':=aj.mk H
                  clear H
                  obtain ⟨agH,agI,aek⟩:=Kd.wB uU.out
                  subst aek
                  have UO:0 ≤ (iI:Int):=of_decide_eq_true (by first | (with_reducible assumption) | assumption)
                  have UQ:iI < (l9.length:Int):=of_decide_eq_true (by first | (with_reducible assumption) | assumption)
                  obtain ⟨Z4,ael,acI⟩:=Kd.zR (Kd.oM uU.out).2.2 iI UO UQ
                  cases ael
                  replace UO:=eq_true UO
                  replace UQ:=eq_true UQ
                  go_wp2_with (first | ((with_reducible refine aQ (f:=101) rfl ?_);refine bP (some 36) rfl rfl Try.func101 (by kernel_rfl) rfl #[.string (oJ ByteArray.empty l9 iI)] rfl (by (try simp only [List.map_toArray,List.map_cons,List.map_nil]);first | done | rfl | (simp only [List.length_drop,List.length_take];rfl) | (simp only [ByteArray.size_append,Int.natCast_add];rfl) | (rw [B.dP] <;> first | rfl | omega | (simp only [decide_eq_false_iff_not,decide_eq_true_eq,Int.not_lt,Nat.not_lt,gt_iff_lt] at * <;> omega))) ?_;(with_reducible refine (fA.calls k1 (oJ ByteArray.empty l9 iI) zn _ A16.out).mono ?_);rintro e w19 ⟨rfl,hb⟩;refine ⟨_,rfl,?_⟩;have dZ:=aj.mk (Kd.j3 (by (with_reducible repeat (first | apply Kd.eX | apply Kd.fH | apply Kd.fQ));exact uU.out) hb);have gZ:=aj.mk (dN (g:=qO) (o:=.cells #[.int .i64 qC,.int .i64 ME,.int .i64 Qe] 142 (0,0)) (by (with_reducible repeat (first | refine aG ?_ _ | refine aI ?_ | refine aA ?_ _));exact nH.out) hb);have jc:=aj.mk (bE (by repeat (first | (with_reducible first | exact HB.out | apply ak | apply ah | apply au | refine aR ?_ Hz.out) | exact HB.out)) hb);clear uU;clear nH;clear HB;have uU:=dZ;have nH:=gZ;have HB:=jc;clear dZ gZ jc;(try clear hb);(try clear hb2);(try clear hk);(try clear hi);have UR:0 ≤ (iI:Int):=of_decide_eq_true (by first | (with_reducible assumption) | assumption);have UU:iI < (l9.length:Int):=of_decide_eq_true (by first | (with_reducible assumption) | assumption);obtain ⟨Z5,aem,acJ⟩:=Kd.zR (Kd.oM uU.out).2.2 iI UR UU;obtain rfl:Z4 = Z5:=(by injection aem);replace UR:=eq_true UR;replace UU:=eq_true UU))
                  go_roundg k1
                  case measure=>have:=tK.out;omega
                  case rel=>exact ⟨(dK ++ zn),(wrap64 (gI + ((oJ ByteArray.empty l9 iI).size:Int))),(wrap64 (iI + 1)),(by first | rfl | (simp;done) | (simp [*];done) | (simp [B.aV];done) | (simp [B.aW];done)),(by first | rfl | (simp;done) | (simp [*];done) | (simp [B.aV];done) | (simp [B.aW];done)),(by first | rfl | (simp;done) | (simp [*];done) | (simp [B.aV];done) | (simp [B.aW];done)),H',⟨by have:=tK.out;omega⟩,⟨by (with_reducible repeat (first | apply Kd.eX | apply Kd.fH | apply Kd.fQ));exact uU.out⟩,⟨by (with_reducible repeat (first | refine aG ?_ _ | refine aI ?_ | refine aA ?_ _));exact nH.out⟩,⟨by repeat (first | (with_reducible first | exact HB.out | apply ak | apply ah | apply au | refine aR ?_ Hz.out) | exact HB.out)⟩⟩
                · rw [if_neg c17] at H
                  exact absurd H (by simp)
              · rw [if_neg c15] at H
                exact absurd H (by simp)
            · rw [if_neg c14] at H
              have zZ:decide (iI < (l9.length:Int)) = false:=decide_eq_false c14
              clear c14
              by_cases c20:0 ≤ gI
              · rw [if_pos c20] at H
                have Me:=eq_true c20
                have Y0:decide (0 ≤ gI) = true:=decide_eq_true c20
                clear c20
                by_cases c21:gI ≤ (a1.size:Int)
                · rw [if_pos c21] at H
                  have Ru:=eq_true c21
                  have Rv:decide (gI ≤ (a1.size:Int)) = true:=decide_eq_true c21
                  clear c21
                  by_cases Er:dK.size + (a1.extract (gI:Int).toNat a1.size).size ≤ 9223372036854775807
                  · rw [if_pos Er] at H
                    have Mw:=eq_true Er
                    have Mx:decide (dK.size + (a1.extract (gI:Int).toNat a1.size).size ≤ 9223372036854775807) = true:=decide_eq_true Er
                    try have agp:(9223372036854775807 < dK.size + (a1.extract (gI:Int).toNat a1.size).size) = False:=eq_false (Nat.not_lt.2 Er)
                    obtain rfl:=Option.some.inj H
                    obtain ⟨agJ,agK,aen⟩:=Kd.wB uU.out
                    subst aen
                    go_wp2
                    go_ret
                    exact ⟨by first | rfl | (simp [aJ,aK] <;> rfl) | (simp [*,aJ,aK] <;> rfl),by repeat (first | (with_reducible first | exact HB.out | apply ak | apply ah | apply au | refine aR ?_ Hz.out) | exact HB.out)⟩
                  · rw [if_neg Er] at H
                    exact absurd H (by simp)
                · rw [if_neg c21] at H
                  exact absurd H (by simp)
              · rw [if_neg c20] at H
                exact absurd H (by simp)
      · rw [if_neg c8] at H
        exact absurd H (by simp)
    · rw [if_neg c7] at H
      exact absurd H (by simp)
  · replace c4:=Bool.eq_false_iff.mpr c4
    subst c4
    have H1:(some (⟨#[]⟩:ByteArray)) = some r:=by rw [if_neg (show ¬ (false = true) by decide)] at H;exact H
    clear H
    have H:=H1
    clear H1
    obtain rfl:=Option.some.inj H
    go_enter Try.func84,Try.ntmps84
    go_wp2_with (first | ((with_reducible refine aQ (f:=83) rfl ?_);refine bP (some 12) rfl rfl Try.func83 (by kernel_rfl) rfl #[.int .i64 a0,.string a1] rfl (by (try simp only [List.map_toArray,List.map_cons,List.map_nil]);first | done | rfl | (simp only [List.length_drop,List.length_take];rfl) | (simp only [ByteArray.size_append,Int.natCast_add];rfl) | (rw [B.dP] <;> first | rfl | omega | (simp only [decide_eq_false_iff_not,decide_eq_true_eq,Int.not_lt,Nat.not_lt,gt_iff_lt] at * <;> omega))) ?_;(with_reducible refine (bR.calls k a0 a1 false _ A3.out).mono ?_);rintro e w24 ⟨rfl,hb⟩;refine ⟨_,rfl,?_⟩;have dZ:=aj.mk (bE (by repeat (first | (with_reducible first | exact HB.out | apply ak | apply ah | apply au) | exact HB.out)) hb);clear HB;have HB:=dZ;clear dZ;(try clear hb);(try clear hb2);(try clear hk);(try clear hi)))
    go_ret
    exact ⟨by first | rfl | (simp [aJ,aK] <;> rfl) | (simp [*,aJ,aK] <;> rfl),by repeat (first | (with_reducible first | exact HB.out | apply ak | apply ah | apply au) | exact HB.out)⟩
end Go.Proofs.Ytdkkgecdhapfhaa.ZQ
namespace Go.Proofs.Ytdkkgecdhapfhaa.ZQ
open Go.RowKit Go.Proofs.YtdkkgecdhapfhaaW.bD Go.Proofs.YtdkkgecdhapfhaaW.dW Go.Proofs.YtdkkgecdhapfhaaW.eG Go.Proofs.Ytdkkgecdhapfhaa.B
def vJ (msg:ByteArray) (i:Int):ByteArray × Int × Int:=(bF.f (rounds i) msg i).getD (⟨#[]⟩,0,0)
theorem RD (msg:ByteArray) (i:Int) (hm:msg.size ≤ 100000):bF.f (rounds i) msg i = some (vJ msg i):=by
  obtain ⟨R,h1,_⟩:=Aa (rounds i) msg i hm (Nat.le_refl _)
  unfold vJ;rw [h1];rfl
theorem RF (k:Nat) (msg:ByteArray) (i:Int) (hm:msg.size ≤ 100000) (hk:rounds i ≤ k):bF.f k msg i = some (vJ msg i):=D7 hk (RD msg i hm)
theorem uV (k:Nat) (msg:ByteArray) (i:Int) (hm:msg.size ≤ 100000) (hk:rounds i ≤ k):aU.f k msg i = some (vJ msg i):=by
  obtain ⟨R,h1,h2⟩:=Aa k msg i hm hk
  rw [RF k msg i hm hk] at h1
  rw [h2,h1]
theorem uf (msg:ByteArray) (i:Int) (hm:msg.size ≤ 100000) :
    ((vJ msg i).2.2 = 0 ∧ jC (vJ msg i).1 = true ∧ 0 ≤ i ∧ i < (vJ msg i).2.1 ∧ (vJ msg i).2.1 ≤ (msg.size:Int)) ∨ (((vJ msg i).2.2 = 2 ∨ (vJ msg i).2.2 = 3) ∧ (vJ msg i).1 = ⟨#[]⟩ ∧ (vJ msg i).2.1 = 0):=FB hm (RD msg i hm)
def Eh (msg:ByteArray) (e:Int):Nat → Int → List ByteArray → Option (List ByteArray × Int)
  | 0,i,l=>some (l,i)
  | n + 1,i,l=>if (vJ msg i).2.2 = 0 then (if (vJ msg i).2.1 > e then none else Eh msg e n (vJ msg i).2.1 (l ++ [(vJ msg i).1])) else none
theorem qh (msg:ByteArray) (e:Int) (hm:msg.size ≤ 100000):∀ (n:Nat) (i:Int) (l:List ByteArray) (R:List ByteArray × Int),Eh msg e n i l = some R → i ≤ e → i ≤ R.2 ∧ R.2 ≤ e ∧ R.1.length = l.length + n ∧ (∃ l',R.1 = l ++ l' ∧ ∀ x ∈ l',jC x = true)
  | 0,i,l,R,h,hi=>by cases h;exact ⟨Int.le_refl _,hi,rfl,[],by simp,by simp⟩
  | n + 1,i,l,R,h,hi=>by
    rw [Eh] at h
    by_cases h0:(vJ msg i).2.2 = 0
    · rw [if_pos h0] at h
      by_cases h1:(vJ msg i).2.1 > e
      · rw [if_pos h1] at h;cases h
      · rw [if_neg h1] at h
        obtain ⟨a1,a2,a3,l',a4,a5⟩:=qh msg e hm n _ _ R h (by omega)
        rcases uf msg i hm with ⟨_,b2,_,b4,_⟩ | ⟨b1,_⟩
        · refine ⟨by omega,a2,by rw [a3,List.length_append,List.length_singleton];omega,(vJ msg i).1 :: l',by rw [a4];simp,?_⟩
          intro x hx
          rcases List.mem_cons.mp hx with rfl | hx
          · exact b2
          · exact a5 x hx
        · omega
    · rw [if_neg h0] at h;cases h
def K0 : Nat:=101000
theorem qj {msg:ByteArray} {i:Int} {k:Nat} (hm:msg.size ≤ 100000) (hi:i ≤ (msg.size:Int)) (hk:K0 ≤ k):rounds i ≤ k:=by unfold rounds;unfold K0 at hk;omega
theorem Cb (msg:ByteArray) (e s0 s1 s2:Int) (a b:ByteArray) (hm:msg.size ≤ 100000) (he:e ≤ (msg.size:Int)) (h2:0 ≤ s2 ∧ s2 ≤ 1000) (c:Int) (hc:c ≤ 100):∀ (n k:Nat) (i x:Int) (l:List ByteArray),K0 + n ≤ k → x + n = c → 0 ≤ x → 0 ≤ i → i ≤ e → l.length + n ≤ 1000 →
    bV.l0 (k + 1) msg i e c x s0 s1 s2 a b l = (match Eh msg e n i l with
      | some R=>some (a,msg.extract R.2.toNat e.toNat,R.1,(((msg.extract R.2.toNat e.toNat).size:Int) == s2))
      | none=>some (⟨#[]⟩,⟨#[]⟩,[],false))
  | 0,k,i,x,l,hk,hx,hx0,hi,hie,hl=>by
    rw [bV.l0,if_neg (by omega),if_pos hi,if_pos hie,if_pos he,Eh]
  | n + 1,k,i,x,l,hk,hx,hx0,hi,hie,hl=>by
    obtain ⟨k,rfl⟩:∃ m,k = m + 1:=⟨k - 1,by omega⟩
    rw [bV.l0,if_pos (by omega),RF (k + 1) msg i hm (qj hm (by omega) (by omega)),Eh]
    simp only [Option.bind_some]
    by_cases h0:(vJ msg i).2.2 = 0
    · rw [if_pos h0,if_pos h0]
      by_cases h1:(vJ msg i).2.1 > e
      · rw [if_pos h1,if_pos h1]
      · rcases uf msg i hm with ⟨_,_,_,b4,_⟩ | ⟨b1,_⟩
        · rw [if_neg h1,if_neg h1,if_pos (by omega),dP (by omega) (by omega)]
          exact Cb msg e s0 s1 s2 a b hm he h2 c hc n k _ (x + 1) _ (by omega) (by omega) (by omega) (by omega) (by omega) (by rw [List.length_append,List.length_singleton];omega)
        · omega
    · rw [if_neg h0,if_neg h0]
def MF (s:ByteArray):Nat → Int → Bool
  | 0,_=>false
  | k + 1,i=>if i < (s.size:Int) then MF s k (i + 1 + bt s i) else decide (i = s.size)
def FH (s:ByteArray):Bool:=decide (0 < s.size) && MF s (s.size + 1) 0
theorem UW (s:ByteArray) {k:Nat} {i:Int} (h:(s.size:Int) < i):MF s k i = false:=by
  cases k with
  | zero=>rfl
  | succ k=>rw [MF,if_neg (by omega)];simp;omega
theorem MG (s:ByteArray) (hs:s.size ≤ 100000) (d:Nat):∀ (k m:Nat) (i:Int),0 ≤ i → i ≤ (s.size:Int) → s.size - i.toNat ≤ d → d + 1 ≤ k → d + 1 ≤ m → dL.l0 k (s.extract i.toNat s.size) = some (MF s m i):=by
  induction d with
  | zero =>
    intro k m i h0 h1 h2 hk hm
    obtain ⟨k,rfl⟩:∃ j,k = j + 1:=⟨k - 1,by omega⟩
    obtain ⟨m,rfl⟩:∃ j,m = j + 1:=⟨m - 1,by omega⟩
    rw [dL.l0,if_pos (toList_nil.mpr (by rw [ByteArray.size_extract];omega)),MF,if_neg (by omega),decide_eq_true (by omega)]
  | succ d ih =>
    intro k m i h0 h1 h2 hk hm
    obtain ⟨k,rfl⟩:∃ j,k = j + 1:=⟨k - 1,by omega⟩
    obtain ⟨m,rfl⟩:∃ j,m = j + 1:=⟨m - 1,by omega⟩
    have hz:(s.extract i.toNat s.size).size = s.size - i.toNat:=by rw [ByteArray.size_extract];omega
    by_cases hi:i < (s.size:Int)
    · have hb:bt (s.extract i.toNat s.size) 0 = bt s i:=by
        rw [lZ (by omega) (by omega)];congr 1;omega
      have hr:=gu s i
      rw [dL.l0,if_neg (by rw [toList_nil];omega),if_pos (by omega),hb,dP (n:=bt s i) (by omega) (by omega),dP (n:=1 + bt s i) (by omega) (by omega),MF,if_pos hi]
      by_cases h3:1 + bt s i > ((s.extract i.toNat s.size).size:Int)
      · rw [if_pos h3,UW s (by omega)]
      · rw [if_neg h3,if_pos (by omega),if_pos (by omega)]
        have e:(s.extract i.toNat s.size).extract (1 + bt s i).toNat (s.extract i.toNat s.size).size = s.extract (i + 1 + bt s i).toNat s.size:=by
          rw [ByteArray.extract_extract,hz]
          congr 1 <;> omega
        rw [e]
        exact ih k m _ (by omega) (by omega) (by omega) (by omega) (by omega)
    · rw [dL.l0,if_pos (toList_nil.mpr (by omega)),MF,if_neg hi,decide_eq_true (by omega)]
theorem MH (k:Nat) (hk:K0 ≤ k) (s:ByteArray) (hs:s.size ≤ 100000):dL.f k s = some (FH s):=by
  unfold dL.f FH
  by_cases h:s.toList = ([]:List UInt8)
  · rw [if_pos h];rw [toList_nil] at h;rw [h];rfl
  · rw [if_neg h]
    rw [toList_nil] at h
    unfold K0 at hk
    have:=MG s hs s.size k (s.size + 1) 0 (by omega) (by omega) (by omega) (by omega) (by omega)
    rw [show (0:Int).toNat = 0 from rfl,ByteArray.extract_zero_size] at this
    rw [this,decide_eq_true (by omega),Bool.true_and]
theorem Cc (s:ByteArray) (hs:s.size ≤ 100000) (d:Nat):∀ (k m:Nat) (i:Int),0 ≤ i → (i:Int) ≤ s.size + 300 → 0 < i ∨ 0 < s.size → s.size - i.toNat ≤ d → d + 1 ≤ k → d + 1 ≤ m → bn.l0 k s i = some (MF s m i):=by
  induction d with
  | zero =>
    intro k m i h0 h1 hp h2 hk hm
    obtain ⟨k,rfl⟩:∃ j,k = j + 1:=⟨k - 1,by omega⟩
    obtain ⟨m,rfl⟩:∃ j,m = j + 1:=⟨m - 1,by omega⟩
    have hlt:¬ i < (s.size:Int):=by omega
    rw [bn.l0,if_neg hlt,MF,if_neg hlt]
    by_cases h:i = (s.size:Int)
    · rw [if_pos h,decide_eq_true (by omega),decide_eq_true h]
    · rw [if_neg h,decide_eq_false h]
  | succ d ih =>
    intro k m i h0 h1 hp h2 hk hm
    obtain ⟨k,rfl⟩:∃ j,k = j + 1:=⟨k - 1,by omega⟩
    obtain ⟨m,rfl⟩:∃ j,m = j + 1:=⟨m - 1,by omega⟩
    have hr:=gu s i
    rw [bn.l0,MF]
    by_cases hi:i < (s.size:Int)
    · rw [if_pos hi,if_pos hi,if_pos h0,dP (n:=bt s i) (by omega) (by omega),dP (n:=i + 1) (by omega) (by omega),dP (by omega) (by omega)]
      exact ih k m _ (by omega) (by omega) (by omega) (by omega) (by omega) (by omega)
    · rw [if_neg hi,if_neg hi]
      by_cases h:i = (s.size:Int)
      · rw [if_pos h,decide_eq_true (by omega),decide_eq_true h]
      · rw [if_neg h,decide_eq_false h]
theorem Ce (k:Nat) (hk:K0 ≤ k) (s:ByteArray) (hs:s.size ≤ 100000):bn.f k s = some (FH s):=by
  unfold bn.f FH
  unfold K0 at hk
  by_cases h:0 < s.size
  · rw [Cc s hs s.size k (s.size + 1) 0 (by omega) (by omega) (by omega) (by omega) (by omega) (by omega),decide_eq_true h,Bool.true_and]
  · obtain ⟨k,rfl⟩:∃ j,k = j + 1:=⟨k - 1,by omega⟩
    rw [bn.l0,if_neg (by omega),if_pos (by omega),decide_eq_false h];rfl
end Go.Proofs.Ytdkkgecdhapfhaa.ZQ
namespace Go.Proofs.Ytdkkgecdhapfhaa.ZQ
open Go.RowKit Go.Proofs.YtdkkgecdhapfhaaW.bD Go.Proofs.YtdkkgecdhapfhaaW.dW Go.Proofs.YtdkkgecdhapfhaaW.eG Go.Proofs.Ytdkkgecdhapfhaa.B
theorem FI (l m:List ByteArray):strings_Join.cat (l ++ m) = strings_Join.cat l ++ strings_Join.cat m:=by
  induction l with
  | nil=>exact (empty_append _).symm
  | cons x l ih=>rw [List.cons_append,strings_Join.cat,ih,strings_Join.cat,ByteArray.append_assoc]
theorem Qf (x:ByteArray):strings_Join.cat [x] = x:=append_empty x
theorem oW {n:ByteArray} (h:jC n = true):n.size ≤ 255:=by
  obtain ⟨l,_,_,hz⟩:=GD.mp h;exact hz
theorem ug : ∀ {l:List ByteArray},(∀ x ∈ l,jC x = true) → (strings_Join.cat l).size ≤ 255 * l.length
  | [],_=>Nat.zero_le _
  | x :: l,h=>by
    have h1:=oW (h x (by simp))
    have h2:=ug (l:=l) (fun y hy=>h y (by simp [hy]))
    rw [strings_Join.cat,ByteArray.size_append,List.length_cons]
    omega
def yI (d:ByteArray):ByteArray × Int:=if (d.size:Int) > 65535 then (⟨#[]⟩,4) else (d,0)
theorem uW (d:ByteArray):(if (d.size:Int) > 65535 then some ((⟨#[]⟩:ByteArray),(4:Int)) else some (d,0)) = some (yI d):=by
  unfold yI;split <;> rfl
def Jk (msg:ByteArray) (i size:Int) (s:Int × Int × Int):ByteArray × Int :=
  if s.1 ≤ size then (match Eh msg (i + size) s.2.1.toNat (i + s.1) [] with
    | some R=>if R.2 + s.2.2 = i + size then yI (msg.extract i.toNat (i + s.1).toNat ++ strings_Join.cat R.1 ++ msg.extract R.2.toNat (i + size).toNat) else (⟨#[]⟩,4)
    | none=>(⟨#[]⟩,4)) else (⟨#[]⟩,4)
def zo (msg:ByteArray) (i size kind:Int):ByteArray × Int :=
  if gV msg i size then (match aD.yF kind with
    | some s=>Jk msg i size s
    | none=>if kind = 16 then (if FH (msg.extract i.toNat (i + size).toNat) = true then yI (msg.extract i.toNat (i + size).toNat) else (⟨#[]⟩,4)) else yI (msg.extract i.toNat (i + size).toNat))
  else (⟨#[]⟩,2)
theorem kL {kind:Int} {s:Int × Int × Int} (h:aD.yF kind = some s):0 ≤ s.1 ∧ s.1 ≤ 16 ∧ 0 ≤ s.2.1 ∧ s.2.1 ≤ 2 ∧ 0 ≤ s.2.2 ∧ s.2.2 ≤ 20 ∧ kind ≠ 16 ∧ (s.1 = 0 → s.2.1 = 0 → False):=by
  unfold aD.yF at h
  repeat' split at h
  all_goals (first | (cases h;subst_vars;decide) | cases h)
theorem UY (k:Nat) (hk:K0 ≤ k) (kind:Int) (hkind:kind ≠ 16) (d:ByteArray):aD.fin k kind d true = some (yI d):=by
  unfold aD.fin
  rw [if_pos rfl,if_neg hkind,uW]
theorem uX (k:Nat) (kind:Int) (d:ByteArray):aD.fin k kind d false = some (⟨#[]⟩,4):=by
  unfold aD.fin;rw [if_neg Bool.false_ne_true]
theorem Af (msg:ByteArray) (i size kind:Int) (k:Nat) (hk:K0 ≤ k) (hm:msg.size ≤ 100000) (f:ByteArray → Option Bool) (hf:∀ s,s.size ≤ 100000 → f s = some (FH s)) (t:ByteArray) (ht:t.size ≤ 100000) :
    (if kind = 16 then ((f t).bind fun b=>if b = true then (if (t.size:Int) > 65535 then some ((⟨#[]⟩:ByteArray),(4:Int)) else some (t,0)) else some (⟨#[]⟩,4)) else (if (t.size:Int) > 65535 then some (⟨#[]⟩,4) else some (t,0))) =
      some (if kind = 16 then (if FH t = true then yI t else (⟨#[]⟩,4)) else yI t):=by
  rw [hf t ht,uW]
  simp only [Option.bind_some]
  split
  · split <;> rfl
  · rfl
theorem Jl (k:Nat) (hk:K0 + 10 ≤ k) (msg:ByteArray) (i size kind:Int) (hm:msg.size ≤ 100000) (ht:gV msg i size) (s:Int × Int × Int) (hs:aD.yF kind = some s):aD.g k msg i size kind s = some (Jk msg i size s):=by
  obtain ⟨h0,h1,h2⟩:=ht
  obtain ⟨a1,a2,a3,a4,a5,a6,a7,a8⟩:=kL hs
  obtain ⟨s0,s1,s2⟩:=s
  simp only at a1 a2 a3 a4 a5 a6 a8
  have e1:wrap64 (i + size) = i + size:=dP (by omega) (by omega)
  have e2:wrap64 (i + size - i) = size:=by rw [dP (by omega) (by omega)];omega
  have e3:wrap64 (i + s0) = i + s0:=dP (by omega) (by omega)
  unfold aD.g bV.f Jk
  simp only [e1,e2,e3]
  by_cases c:s0 ≤ size
  · rw [if_pos c,if_pos c,if_pos h0,if_pos (by omega),if_pos (by omega)]
    obtain ⟨k,rfl⟩:∃ j,k = j + 1:=⟨k - 1,by omega⟩
    rw [Cb msg (i + size) s0 s1 s2 _ _ hm h2 ⟨a5,by omega⟩ s1 (by omega) s1.toNat k (i + s0) 0 [] (by omega) (by omega) (Int.le_refl _) (by omega) (by omega) (by simp only [List.length_nil];omega)]
    have hz:(msg.extract i.toNat (i + s0).toNat).size ≤ 16:=by rw [ByteArray.size_extract];omega
    cases hr:Eh msg (i + size) s1.toNat (i + s0) [] with
    | none =>
      simp only [Option.bind_some]
      rw [if_pos (by decide),if_pos (by decide),uX]
    | some R =>
      obtain ⟨b1,b2,b3,l',b4,b5⟩:=qh msg _ hm _ _ _ R hr (by omega)
      have hcz:=ug b5
      rw [List.nil_append] at b4
      rw [← b4] at hcz
      rw [List.length_nil,Nat.zero_add] at b3
      have hbz:(msg.extract R.2.toNat (i + size).toNat).size = (i + size - R.2).toNat:=by rw [ByteArray.size_extract];omega
      simp only [Option.bind_some]
      rw [if_pos (by omega),if_pos (by omega)]
      by_cases d:R.2 + s2 = i + size
      · rw [if_pos d,show (((msg.extract R.2.toNat (i + size).toNat).size:Int) == s2) = true from beq_iff_eq.mpr (by omega),UY k.succ (by omega) kind a7]
      · rw [if_neg d,show (((msg.extract R.2.toNat (i + size).toNat).size:Int) == s2) = false from beq_eq_false_iff_ne.mpr (by omega),uX]
  · rw [if_neg c,if_neg c]
    simp only [Option.bind_some]
    rw [if_pos (by decide),if_pos (by decide),uX]
theorem UZ (k:Nat) (hk:K0 + 10 ≤ k) (msg:ByteArray) (i size kind:Int) (hm:msg.size ≤ 100000):aD.f k msg i size kind = some (zo msg i size kind):=by
  unfold aD.f zo
  rw [tV msg i size (by omega)]
  simp only [Option.bind_some]
  by_cases ht:gV msg i size
  · rw [if_pos ht,if_pos ht]
    simp only [if_true]
    cases hs:aD.yF kind with
    | some s=>exact Jl k hk msg i size kind hm ht s hs
    | none =>
      have hz:(msg.extract i.toNat (i + size).toNat).size ≤ 100000:=by rw [ByteArray.size_extract];omega
      have:=Af msg i size kind k (by omega) hm (dL.f k) (fun s h=>MH k (by omega) s h) _ hz
      unfold aD.fin
      rw [if_pos rfl]
      exact this
  · rw [if_neg ht,if_neg ht];rfl
theorem nT (k:Nat) (hk:1 ≤ k) (kind:Int):aH.f k kind = some ((aD.yF kind).getD (0,0,0)):=by
  obtain ⟨k,rfl⟩:∃ j,k = j + 1:=⟨k - 1,by omega⟩
  unfold aH.f aD.yF
  simp only [aH.j0]
  by_cases h1:kind = 1
  · subst h1;rfl
  by_cases h2:kind = 28
  · subst h2;rfl
  by_cases h3:kind = 2
  · subst h3;rfl
  by_cases h4:kind = 5
  · subst h4;rfl
  by_cases h5:kind = 12
  · subst h5;rfl
  by_cases h6:kind = 6
  · subst h6;rfl
  by_cases h7:kind = 15
  · subst h7;rfl
  by_cases h8:kind = 33
  · subst h8;rfl
  simp [h1,h2,h3,h4,h5,h6,h7,h8]
theorem Ei (msg:ByteArray) (i size s0 s1 s2:Int) (hm:msg.size ≤ 100000) (ht:gV msg i size) (h2:0 ≤ s2 ∧ s2 ≤ 1000) (hs:s1 ≤ 100):∀ (n k:Nat) (j x:Int) (out:ByteArray),K0 + n ≤ k → x + n = s1 → 0 ≤ x → i + size < j → j ≤ (msg.size:Int) → out.size + 300 * n ≤ 1000000 →
    aX.l0 (k + 1) msg i size out j x s0 s1 s2 = some (⟨#[]⟩,4)
  | 0,k,j,x,out,hk,hx,hx0,hj,hjm,ho=>by
    obtain ⟨t0,t1,t2⟩:=ht
    rw [aX.l0,if_neg (by omega),dP (n:=j + s2) (by omega) (by omega),dP (n:=i + size) (by omega) (by omega),if_neg (by omega)]
  | n + 1,k,j,x,out,hk,hx,hx0,hj,hjm,ho=>by
    obtain ⟨k,rfl⟩:∃ m,k = m + 1:=⟨k - 1,by omega⟩
    rw [aX.l0,if_pos (by omega),uV (k + 1) msg j hm (qj hm (by omega) (by omega))]
    simp only [Option.bind_some]
    rcases uf msg j hm with ⟨b1,b2,_,b4,b5⟩ | ⟨b1,_⟩
    · have hz:=oW b2
      rw [if_pos b1,if_pos (by omega),dP (n:=x + 1) (by omega) (by omega)]
      exact Ei msg i size s0 s1 s2 hm ht h2 hs n k _ _ _ (by omega) (by omega) (by omega) (by omega) b5 (by rw [ByteArray.size_append];omega)
    · rw [if_neg (by omega)]
theorem MI (msg:ByteArray) (i size s0 s1 s2:Int) (a:ByteArray) (hm:msg.size ≤ 100000) (ht:gV msg i size) (h2:0 ≤ s2 ∧ s2 ≤ 1000) (hs:s1 ≤ 100):∀ (n k:Nat) (j x:Int) (l:List ByteArray),K0 + n ≤ k → x + n = s1 → 0 ≤ x → 0 ≤ j → j ≤ i + size → (a ++ strings_Join.cat l).size + 300 * n ≤ 800000 →
    aX.l0 (k + 1) msg i size (a ++ strings_Join.cat l) j x s0 s1 s2 = some (match Eh msg (i + size) n j l with
      | some R=>if R.2 + s2 = i + size then yI (a ++ strings_Join.cat R.1 ++ msg.extract R.2.toNat (i + size).toNat) else (⟨#[]⟩,4)
      | none=>(⟨#[]⟩,4))
  | 0,k,j,x,l,hk,hx,hx0,hj0,hj,ho=>by
    obtain ⟨t0,t1,t2⟩:=ht
    rw [aX.l0,if_neg (by omega),dP (n:=j + s2) (by omega) (by omega),dP (n:=i + size) (by omega) (by omega),Eh]
    simp only
    by_cases c:j + s2 = i + size
    · have hz:(msg.extract j.toNat (i + size).toNat).size ≤ 100000:=by rw [ByteArray.size_extract];omega
      rw [if_pos c,if_pos c,if_pos hj0,if_pos hj,if_pos t2,if_pos (by omega),uW]
    · rw [if_neg c,if_neg c]
  | n + 1,k,j,x,l,hk,hx,hx0,hj0,hj,ho=>by
    have ht0:=ht
    obtain ⟨t0,t1,t2⟩:=ht
    obtain ⟨k,rfl⟩:∃ m,k = m + 1:=⟨k - 1,by omega⟩
    rw [aX.l0,if_pos (by omega),uV (k + 1) msg j hm (qj hm (by omega) (by omega)),Eh]
    simp only [Option.bind_some]
    rcases uf msg j hm with ⟨b1,b2,_,b4,b5⟩ | ⟨b1,_⟩
    · have hz:=oW b2
      rw [if_pos b1,if_pos b1,if_pos (by omega),dP (n:=x + 1) (by omega) (by omega)]
      by_cases c:(vJ msg j).2.1 > i + size
      · rw [if_pos c]
        exact Ei msg i size s0 s1 s2 hm ht0 h2 hs n k _ _ _ (by omega) (by omega) (by omega) (by omega) b5 (by rw [ByteArray.size_append];omega)
      · rw [if_neg c]
        have e:a ++ strings_Join.cat l ++ (vJ msg j).1 = a ++ strings_Join.cat (l ++ [(vJ msg j).1]):=by rw [FI,Qf,ByteArray.append_assoc]
        rw [e]
        exact MI msg i size s0 s1 s2 a hm ht0 h2 hs n k _ _ _ (by omega) (by omega) (by omega) (by omega) (by omega) (by rw [← e,ByteArray.size_append];omega)
    · rw [if_neg (by omega),if_neg (by omega)]
theorem FJ (k:Nat) (hk:K0 + 10 ≤ k) (msg:ByteArray) (i size kind:Int) (hm:msg.size ≤ 100000):aX.f k msg i size kind = some (zo msg i size kind):=by
  unfold aX.f zo
  rw [oQ msg i size (by omega),nT k (by omega)]
  simp only [Option.bind_some]
  by_cases ht:gV msg i size
  · rw [if_pos ht,if_pos ht]
    simp only [if_true]
    obtain ⟨t0,t1,t2⟩:=ht
    have hz:(msg.extract i.toNat (i + size).toNat).size = size.toNat:=by rw [ByteArray.size_extract];omega
    cases hs:aD.yF kind with
    | none =>
      simp only [Option.getD_none]
      rw [if_pos (by decide)]
      exact Af msg i size kind k (by omega) hm (bn.f k) (fun s h=>Ce k (by omega) s h) _ (by omega)
    | some s =>
      obtain ⟨a1,a2,a3,a4,a5,a6,a7,a8⟩:=kL hs
      obtain ⟨s0,s1,s2⟩:=s
      simp only at a1 a2 a3 a4 a5 a6 a8
      simp only [Option.getD_some]
      have main:(if s0 > size then some ((⟨#[]⟩:ByteArray),(4:Int)) else (if 0 ≤ s0 then (if s0 ≤ ((msg.extract i.toNat (i + size).toNat).size:Int) then (aX.l0 k msg i size ((msg.extract i.toNat (i + size).toNat).extract 0 (s0:Int).toNat) (wrap64 (i + s0)) 0 s0 s1 s2) else none) else none)) = some (Jk msg i size (s0,s1,s2)):=by
        unfold Jk
        simp only
        by_cases c:s0 > size
        · rw [if_pos c,if_neg (by omega)]
        · rw [if_neg c,if_pos a1,if_pos (by omega),if_pos (by omega),dP (by omega) (by omega)]
          obtain ⟨k,rfl⟩:∃ j,k = j + 1:=⟨k - 1,by omega⟩
          have e:(msg.extract i.toNat (i + size).toNat).extract 0 s0.toNat = msg.extract i.toNat (i + s0).toNat:=by
            rw [ByteArray.extract_extract];congr 1 <;> omega
          have hz2:(msg.extract i.toNat (i + s0).toNat).size ≤ 16:=by rw [ByteArray.size_extract];omega
          have h:=MI msg i size s0 s1 s2 (msg.extract i.toNat (i + s0).toNat) hm ⟨t0,t1,t2⟩ ⟨a5,by omega⟩ (by omega) s1.toNat k (i + s0) 0 [] (by omega) (by omega) (Int.le_refl _) (by omega) (by omega) (by simp only [strings_Join.cat,append_empty];omega)
          simp only [strings_Join.cat,append_empty] at h
          rw [e,h]
      have hne:¬ ((s0 == 0 && (s1 == 0 && (s2 == 0))) = true):=by
        intro h
        simp only [Bool.and_eq_true,beq_iff_eq] at h
        exact a8 h.1 h.2.1
      rw [if_neg hne]
      exact main
  · rw [if_neg ht,if_neg ht];rfl
end Go.Proofs.Ytdkkgecdhapfhaa.ZQ
namespace Go.Proofs.Ytdkkgecdhapfhaa.ZQ
open Go.RowKit Go.Proofs.YtdkkgecdhapfhaaW.bD Go.Proofs.YtdkkgecdhapfhaaW.dW Go.Proofs.YtdkkgecdhapfhaaW.eG Go.Proofs.Ytdkkgecdhapfhaa.B
def wh (kind:Int) (d:ByteArray):Bool:=decide (d.size ≤ 65535) && (decide ((zo d 0 d.size kind).2 = 0) && decide ((zo d 0 d.size kind).1 = d))
theorem uh {kind:Int} {d:ByteArray}:wh kind d = true ↔ d.size ≤ 65535 ∧ zo d 0 d.size kind = (d,0):=by
  unfold wh
  simp only [Bool.and_eq_true,decide_eq_true_eq]
  constructor
  · rintro ⟨h1,h2,h3⟩;exact ⟨h1,Prod.ext h3 h2⟩
  · rintro ⟨h1,h2⟩;rw [h2];exact ⟨h1,rfl,rfl⟩
theorem Ag (k:Nat) (hk:K0 + 10 ≤ k) (kind:Int) (d:ByteArray):iP.f k kind d = some (wh kind d):=by
  unfold iP.f wh
  by_cases h:(d.size:Int) > 65535
  · rw [if_pos h,decide_eq_false (by omega)];rfl
  · rw [if_neg h,UZ k hk d 0 _ kind (by omega),decide_eq_true (by omega),Bool.true_and]
    simp only [Option.bind_some]
    by_cases h0:(zo d 0 d.size kind).2 = 0
    · rw [if_pos h0,decide_eq_true h0,yw,Bool.true_and]
    · rw [if_neg h0,decide_eq_false h0,Bool.false_and]
theorem mU (k:Nat) (hk:K0 + 10 ≤ k) (kind:Int) (d:ByteArray):bR.f k kind d = some (wh kind d):=by
  unfold bR.f wh
  by_cases h:(d.size:Int) > 65535
  · rw [if_pos h,decide_eq_false (by omega)];rfl
  · rw [if_neg h,FJ k hk d 0 _ kind (by omega),decide_eq_true (by omega),Bool.true_and]
    simp only [Option.bind_some]
    by_cases h0:(zo d 0 d.size kind).2 = 0
    · rw [if_pos h0,decide_eq_true h0,yw,Bool.true_and]
    · rw [if_neg h0,decide_eq_false h0,Bool.false_and]
theorem FL (d:ByteArray):gV d 0 d.size:=⟨Int.le_refl _,by omega,by omega⟩
theorem Jm {x d:ByteArray} (h:yI x = (d,0)):x = d ∧ x.size ≤ 65535:=by
  unfold yI at h
  split at h
  · have:=congrArg Prod.snd h;cases this
  · exact ⟨congrArg Prod.fst h,by omega⟩
theorem oZ {kind:Int} {d:ByteArray} {s:Int × Int × Int} (h:wh kind d = true) (hs:aD.yF kind = some s) :
    ∃ R,s.1 ≤ (d.size:Int) ∧ Eh d d.size s.2.1.toNat s.1 [] = some R ∧ R.2 + s.2.2 = d.size ∧ d = d.extract 0 s.1.toNat ++ strings_Join.cat R.1 ++ d.extract R.2.toNat d.size ∧ s.1 ≤ R.2 ∧ R.2 ≤ (d.size:Int) ∧ R.1.length = s.2.1.toNat ∧ (∀ x ∈ R.1,jC x = true) ∧ R.2 = s.1 + (strings_Join.cat R.1).size:=by
  obtain ⟨h0,h1⟩:=uh.mp h
  unfold zo Jk at h1
  rw [if_pos (FL d),hs] at h1
  simp only [Int.zero_add,Int.toNat_natCast] at h1
  obtain ⟨a1,a2,a3,a4,a5,a6,a7,a8⟩:=kL hs
  by_cases c:s.1 ≤ (d.size:Int)
  · rw [if_pos c] at h1
    cases hr:Eh d d.size s.2.1.toNat s.1 [] with
    | none=>rw [hr] at h1;have:=congrArg Prod.snd h1;cases this
    | some R =>
      rw [hr] at h1
      simp only at h1
      by_cases e:R.2 + s.2.2 = d.size
      · rw [if_pos e] at h1
        obtain ⟨h2,_⟩:=Jm h1
        obtain ⟨b1,b2,b3,l',b4,b5⟩:=qh d _ (by omega) _ _ _ R hr c
        rw [List.nil_append] at b4
        rw [← b4] at b5
        have hz:=congrArg ByteArray.size h2
        simp only [ByteArray.size_append,ByteArray.size_extract] at hz
        refine ⟨R,c,rfl,e,h2.symm,b1,b2,by rw [b3];simp,b5,?_⟩
        simp only [show (0:Int).toNat = 0 from rfl] at hz
        omega
      · rw [if_neg e] at h1;have:=congrArg Prod.snd h1;cases this
  · rw [if_neg c] at h1;have:=congrArg Prod.snd h1;cases this
def prt (kind:Int) (d:ByteArray):ByteArray × ByteArray × List ByteArray × Bool :=
  if wh kind d = true then (match aD.yF kind with
    | some s=>(match Eh d d.size s.2.1.toNat s.1 [] with
      | some R=>(d.extract 0 s.1.toNat,d.extract R.2.toNat d.size,R.1,true)
      | none=>(⟨#[]⟩,⟨#[]⟩,[],false))
    | none=>(d,⟨#[]⟩,[],true)) else (⟨#[]⟩,⟨#[]⟩,[],false)
theorem uY : (⟨#[]⟩:ByteArray).size = 0:=rfl
theorem vU (k:Nat) (hk:K0 + 20 ≤ k) (d:ByteArray) (hd:d.size ≤ 65535) (s0 s1 s2:Int) (a1:0 ≤ s0) (a3:0 ≤ s1) (a4:s1 ≤ 2) (a5:0 ≤ s2) (a6:s2 ≤ 20) (R:List ByteArray × Int) (c1:s0 ≤ (d.size:Int)) (c2:Eh d d.size s1.toNat s0 [] = some R) (c3:R.2 + s2 = d.size) :
    bV.f k d 0 (d.size:Int) s0 s1 s2 = some (d.extract 0 s0.toNat,d.extract R.2.toNat d.size,R.1,true):=by
  unfold bV.f
  have e2:wrap64 ((d.size:Int) - 0) = d.size:=by rw [dP (by omega) (by omega)];omega
  have e3:wrap64 (0 + s0) = s0:=by rw [dP (by omega) (by omega)];omega
  obtain ⟨b1,b2,_⟩:=qh d _ (by omega) _ _ _ R c2 c1
  have hz:((d.extract R.2.toNat d.size).size:Int) = s2:=by rw [ByteArray.size_extract];omega
  obtain ⟨k,rfl⟩:∃ j,k = j + 1:=⟨k - 1,by omega⟩
  have h:=Cb d d.size s0 s1 s2 (d.extract 0 s0.toNat) ⟨#[]⟩ (by omega) (Int.le_refl _) ⟨a5,by omega⟩ s1 (by omega) s1.toNat k s0 0 [] (by omega) (by omega) (Int.le_refl _) a1 c1 (by simp only [List.length_nil];omega)
  rw [c2] at h
  simp only [Int.toNat_natCast] at h
  rw [show (((d.extract R.2.toNat d.size).size:Int) == s2) = true from beq_iff_eq.mpr hz] at h
  rw [e2,if_pos c1,if_pos (Int.le_refl _),e3,if_pos a1,if_pos c1]
  exact h
theorem Jo (k:Nat) (hk:K0 + 20 ≤ k) (kind:Int) (d:ByteArray):dn.f k kind d = some (prt kind d):=by
  unfold dn.f prt
  rw [Ag k (by omega)]
  simp only [Option.bind_some]
  by_cases h:wh kind d = true
  · rw [if_pos h,if_pos h]
    cases hs:aD.yF kind with
    | none=>rfl
    | some s =>
      obtain ⟨R,c1,c2,c3,c4,c5,c6,c7,c8,c9⟩:=oZ h hs
      obtain ⟨a1,a2,a3,a4,a5,a6,a7,a8⟩:=kL hs
      obtain ⟨h0,_⟩:=uh.mp h
      obtain ⟨s0,s1,s2⟩:=s
      simp only at a1 a2 a3 a4 a5 a6 c1 c2 c3 c5
      simp only [c2]
      exact vU k hk d h0 s0 s1 s2 a1 a3 a4 a5 a6 R c1 c2 c3
  · rw [if_neg h,if_neg h]
theorem Ah {kind:Int} {d:ByteArray}:(∀ x ∈ (prt kind d).2.2.1,jC x = true) ∧ (prt kind d).2.2.1.length ≤ 2:=by
  unfold prt
  by_cases h:wh kind d = true
  · rw [if_pos h]
    cases hs:aD.yF kind with
    | none=>exact ⟨by simp,by simp⟩
    | some s =>
      obtain ⟨R,c1,c2,c3,c4,c5,c6,c7,c8,c9⟩:=oZ h hs
      obtain ⟨a1,a2,a3,a4,a5,a6,a7,a8⟩:=kL hs
      simp only [c2]
      exact ⟨c8,by omega⟩
  · rw [if_neg h];exact ⟨by simp,by simp⟩
theorem vK (k:Nat) (hk:600 ≤ k) (n:ByteArray) (hs:n.size ≤ 1000000000):l6.f k n = some (if jC n = true then nZ n else ⟨#[]⟩):=by
  unfold l6.f
  rw [D5 k hk n hs,Uw n hs]
  simp only [Option.bind_some]
  split <;> rfl
theorem yJ (k:Nat) (hk:600 ≤ k) (n:ByteArray) (hs:n.size ≤ 1000000000):fA.f k n = some (if jC n = true then nZ n else ⟨#[]⟩):=by
  unfold fA.f
  rw [tQ k hk n hs,L8 n hs]
  simp only [Option.bind_some]
  split <;> rfl
theorem all_eq (k:Nat) (hk:600 ≤ k):∀ l:List ByteArray,(∀ x ∈ l,jC x = true) → eF.all k l = some (l.map nZ)
  | [],_=>rfl
  | x :: l,h=>by
    have hx:=h x (by simp)
    have hz:=oW hx
    rw [eF.all,vK k hk x (by omega),if_pos hx]
    simp only [Option.bind_some]
    rw [all_eq k hk l (fun y hy=>h y (by simp [hy]))]
    rfl
theorem uj : ∀ l:List ByteArray,(strings_Join.cat (l.map nZ)).size = (strings_Join.cat l).size
  | []=>rfl
  | x :: l=>by rw [List.map_cons,strings_Join.cat,strings_Join.cat,ByteArray.size_append,ByteArray.size_append,Ab,uj l]
def lw (kind:Int) (d:ByteArray):ByteArray:=(prt kind d).1 ++ strings_Join.cat ((prt kind d).2.2.1.map nZ) ++ (prt kind d).2.1
theorem Jp {kind:Int} {d:ByteArray}:(prt kind d).1.size ≤ 65535 ∧ (prt kind d).2.1.size ≤ 65535:=by
  unfold prt
  by_cases h:wh kind d = true
  · obtain ⟨h0,_⟩:=uh.mp h
    rw [if_pos h]
    cases hs:aD.yF kind with
    | none=>exact ⟨h0,by show (⟨#[]⟩:ByteArray).size ≤ 65535;decide⟩
    | some s =>
      obtain ⟨R,c1,c2,_⟩:=oZ h hs
      simp only [c2]
      simp only [ByteArray.size_extract]
      omega
  · rw [if_neg h];exact ⟨by decide,by decide⟩
theorem Qg (k:Nat) (hk:K0 + 20 ≤ k) (kind:Int) (d:ByteArray):eF.f k kind d = some (lw kind d):=by
  obtain ⟨p1,p2⟩:=@Ah kind d
  obtain ⟨p3,p4⟩:=@Jp kind d
  have hcz:=ug p1
  unfold eF.f
  rw [Jo k hk]
  simp only [Option.bind_some]
  rw [all_eq k (by unfold K0 at hk;omega) _ p1]
  simp only [Option.bind_some]
  unfold eF.fin lw
  rw [if_pos (by rw [uj];omega),if_pos (by rw [List.length_map];omega)]
theorem um (d:ByteArray) (e s0 s1 s2:Int) (hm:d.size ≤ 100000) (he:e ≤ (d.size:Int)) (hs:s1 ≤ 100):∀ (n k:Nat) (l:List ByteArray) (i x:Int) (R:List ByteArray × Int),K0 + n ≤ k → x + n = s1 → 0 ≤ x → i ≤ e → l.length + n ≤ 1000 → Eh d e n i l = some R →
    bg.l0 (k + 1) d l i x s0 s1 s2 = some R.1
  | 0,k,l,i,x,R,hk,hx,hx0,hi,hl,h=>by
    cases h
    rw [bg.l0,if_neg (by omega)]
  | n + 1,k,l,i,x,R,hk,hx,hx0,hi,hl,h=>by
    obtain ⟨k,rfl⟩:∃ m,k = m + 1:=⟨k - 1,by omega⟩
    rw [Eh] at h
    rw [bg.l0,if_pos (by omega),uV (k + 1) d i hm (qj hm (by omega) (by omega))]
    simp only [Option.bind_some]
    by_cases h0:(vJ d i).2.2 = 0
    · rw [if_pos h0] at h
      by_cases h1:(vJ d i).2.1 > e
      · rw [if_pos h1] at h;cases h
      · rw [if_neg h1] at h
        rw [if_pos (by omega),dP (by omega) (by omega)]
        exact um d e s0 s1 s2 hm he hs n k _ _ _ R (by omega) (by omega) (by omega) (by omega) (by rw [List.length_append,List.length_singleton];omega) h
    · rw [if_neg h0] at h;cases h
theorem Cg (k:Nat) (hk:K0 + 20 ≤ k) (kind:Int) (d:ByteArray):bg.f k kind d = some (prt kind d).2.2.1:=by
  unfold bg.f prt
  rw [mU k (by omega),nT k (by omega)]
  simp only [Option.bind_some]
  obtain ⟨k,rfl⟩:∃ j,k = j + 1:=⟨k - 1,by omega⟩
  by_cases h:wh kind d = true
  · rw [if_pos h,if_pos h]
    obtain ⟨h0,_⟩:=uh.mp h
    cases hs:aD.yF kind with
    | none =>
      rw [Option.getD_none,bg.l0,if_neg (by decide)]
    | some s =>
      obtain ⟨R,c1,c2,c3,c4,c5,c6,c7,c8,c9⟩:=oZ h hs
      obtain ⟨a1,a2,a3,a4,a5,a6,a7,a8⟩:=kL hs
      simp only [c2,Option.getD_some]
      exact um d d.size _ _ _ (by omega) (Int.le_refl _) (by omega) s.2.1.toNat k [] s.1 0 R (by omega) (by omega) (Int.le_refl _) c1 (by simp only [List.length_nil];omega) c2
  · rw [if_neg h,if_neg h]
theorem Qh {α} (d:α) (p:List α) (x:α) (s:List α):oJ d (p ++ x :: s) (p.length:Int) = x:=by
  unfold oJ;simp
theorem rE (d:ByteArray) (hd:d.size ≤ 65535) (xs:List ByteArray) (hxs:xs.length ≤ 1000):∀ (suf pre:List ByteArray) (k:Nat) (out:ByteArray) (i:Int),xs = pre ++ suf → (∀ x ∈ suf,jC x = true) → 700 + suf.length ≤ k → 0 ≤ i → i + (strings_Join.cat suf).size ≤ d.size → out.size + (strings_Join.cat suf).size ≤ 1000000 →
    bG.l0 (k + 1) d xs out i (pre.length:Int) = some (out ++ strings_Join.cat (suf.map nZ) ++ d.extract (i + (strings_Join.cat suf).size).toNat d.size)
  | [],pre,k,out,i,hx,hn,hk,hi,hs,ho=>by
    rw [List.append_nil] at hx
    subst hx
    have hz:(d.extract i.toNat d.size).size ≤ 65535:=by rw [ByteArray.size_extract];omega
    simp only [strings_Join.cat,List.map_nil,DK,append_empty] at hs ho ⊢
    rw [bG.l0,if_neg (by omega),if_pos hi,if_pos (by omega),if_pos (by omega)]
    congr 3
    omega
  | x :: suf,pre,k,out,i,hx,hn,hk,hi,hs,ho=>by
    obtain ⟨k,rfl⟩:∃ j,k = j + 1:=⟨k - 1,by simp only [List.length_cons] at hk;omega⟩
    have hxn:=hn x (by simp)
    have hz:=oW hxn
    have hrd:oJ ByteArray.empty xs (pre.length:Int) = x:=by rw [hx];exact Qh _ _ _ _
    have hl:(xs.length:Int) = pre.length + suf.length + 1:=by rw [hx];simp;omega
    simp only [List.length_cons,strings_Join.cat,ByteArray.size_append] at hk hs ho
    have hlz:=Ab x
    rw [bG.l0,if_pos (by omega),if_pos (by omega),hrd,yJ (k + 1) (by omega) x (by omega),if_pos hxn]
    simp only [Option.bind_some]
    rw [if_pos (by omega),dP (n:=i + (x.size:Int)) (by omega) (by omega),dP (by omega) (by omega),show ((pre.length:Int) + 1) = ((pre ++ [x]).length:Int) from by simp]
    have:=rE d hd xs hxs suf (pre ++ [x]) k (out ++ nZ x) (i + x.size) (by rw [hx];simp) (fun y hy=>hn y (by simp [hy])) (by omega) (by omega) (by omega) (by rw [ByteArray.size_append];omega)
    rw [this]
    have e:i + (x.size:Int) + ((strings_Join.cat suf).size:Int) = i + ((x.size + (strings_Join.cat suf).size:Nat):Int):=by omega
    rw [e]
    simp only [List.map_cons,strings_Join.cat,ByteArray.size_append,ByteArray.append_assoc]
theorem FM (k:Nat) (hk:K0 + 20 ≤ k) (kind:Int) (d:ByteArray):bG.f k kind d = some (lw kind d):=by
  obtain ⟨p1,p2⟩:=@Ah kind d
  unfold bG.f
  rw [mU k (by omega),Cg k hk,nT k (by omega)]
  simp only [Option.bind_some]
  unfold lw prt
  unfold prt at p1 p2
  unfold K0 at hk
  obtain ⟨k,rfl⟩:∃ j,k = j + 1:=⟨k - 1,by omega⟩
  by_cases h:wh kind d = true
  · simp only [if_pos h] at p1 p2 ⊢
    obtain ⟨h0,_⟩:=uh.mp h
    cases hs:aD.yF kind with
    | none =>
      simp only [Option.getD_none]
      rw [if_pos (Int.le_refl _),if_pos (by omega)]
      have:=rE d h0 [] (by simp) [] [] k (d.extract 0 0) 0 rfl (by simp) (by simp only [List.length_nil];omega) (Int.le_refl _) (by simp only [strings_Join.cat,uY];omega) (by simp only [strings_Join.cat,uY,ByteArray.size_extract];omega)
      simp only [List.length_nil] at this
      rw [show ((0:Int).toNat) = 0 from rfl,show ((0:Nat):Int) = 0 from rfl] at *
      rw [this]
      have e0:d.extract 0 0 = ⟨#[]⟩:=eq_empty (by rw [ByteArray.size_extract];omega)
      simp [strings_Join.cat,e0,empty_append,append_empty,uY,ByteArray.extract_zero_size]
    | some s =>
      obtain ⟨R,c1,c2,c3,c4,c5,c6,c7,c8,c9⟩:=oZ h hs
      obtain ⟨a1,a2,a3,a4,a5,a6,a7,a8⟩:=kL hs
      simp only [hs,c2,Option.getD_some] at p1 p2 ⊢
      have hcz:=ug p1
      rw [if_pos a1,if_pos c1]
      have:=rE d h0 R.1 (by omega) R.1 [] k (d.extract 0 s.1.toNat) s.1 rfl p1 (by omega) a1 (by omega) (by rw [ByteArray.size_extract];omega)
      rw [show ((([]:List ByteArray).length:Nat):Int) = 0 from rfl] at this
      rw [this,c9]
  · simp only [if_neg h]
    rfl
end Go.Proofs.Ytdkkgecdhapfhaa.ZQ
set_option maxRecDepth 100000
namespace Go.Proofs.Ytdkkgecdhapfhaa.Ka
open Go Go.RowKit Ev
abbrev AG := List AV → Option (List AV × List AV)
def U0 (g:ByteArray → SV):AG:=fun gJ=>match gJ with
  | [.one (.f (.str q))]=>if q.size ≤ 1000000 then some (MP [g q],MP [.str q]) else none
  | _=>none
def U1 (g:Int → ByteArray → SV):AG:=fun gJ=>match gJ with
  | [.one (.f (.int .i64 k)),.one (.f (.str q))]=>if q.size ≤ 1000000 then some (MP [g k q],MP [.int .i64 k,.str q]) else none
  | _=>none
theorem wE {f:FuncId} {g:ByteArray → SV} (h:∀ q w,q.size ≤ 1000000 → Calls Try.prog f #[.string q] w fun e w'=>e = .returned (encS (g q)) ∧ Below w.heap.size w w'):Sat Try.prog f (U0 g):=by
  refine Sat.wI fun gJ r he=>?_
  unfold U0 at he
  split at he
  · split at he
    · cases he;rename_i q hq;exact ⟨[.str q],[g q],rfl,rfl,fun w=>h q w hq⟩
    · cases he
  · cases he
theorem wF {f:FuncId} {g:Int → ByteArray → SV} (h:∀ k q w,q.size ≤ 1000000 → Calls Try.prog f #[.int .i64 k,.string q] w fun e w'=>e = .returned (encS (g k q)) ∧ Below w.heap.size w w'):Sat Try.prog f (U1 g):=by
  refine Sat.wI fun gJ r he=>?_
  unfold U1 at he
  split at he
  · split at he
    · cases he;rename_i k q hq;exact ⟨[.int .i64 k,.str q],[g k q],rfl,rfl,fun w=>h k q w hq⟩
    · cases he
  · cases he
def U2 (q:ByteArray):ByteArray:=if B.jC q = true then B.nZ q else ⟨#[]⟩
def HV : Th:=⟨B.jC,U2,ZQ.wh,ZQ.lw⟩
def leafs : List (FuncId × AG):=[
  (91,U0 fun q=>.bool (B.jC q)),(92,U0 fun q=>.str (U2 q)),
  (100,U0 fun q=>.bool (B.jC q)),(101,U0 fun q=>.str (U2 q)),
  (94,U1 fun k q=>.bool (ZQ.wh k q)),(95,U1 fun k q=>.str (ZQ.lw k q)),
  (83,U1 fun k q=>.bool (ZQ.wh k q)),(84,U1 fun k q=>.str (ZQ.lw k q)),
  (88,Ox 1 false),(70,Ox 3 true)]
theorem Ej : ∀ p ∈ leafs,Sat Try.prog p.1 p.2:=by
  have hk:∀ q:ByteArray,q.size ≤ 1000000 → q.size ≤ 1000000000:=fun q h=>by omega
  intro p hp
  simp only [leafs,List.mem_cons,List.not_mem_nil,or_false] at hp
  rcases hp with rfl | rfl | rfl | rfl | rfl | rfl | rfl | rfl | rfl | rfl
  · exact wE fun q w hq=>ZQ.iM.calls 600 q _ w (ZQ.D5 600 (Nat.le_refl _) q (hk q hq))
  · exact wE fun q w hq=>ZQ.l6.calls 600 q _ w (ZQ.vK 600 (Nat.le_refl _) q (hk q hq))
  · exact wE fun q w hq=>ZQ.dA.calls 600 q _ w (ZQ.tQ 600 (Nat.le_refl _) q (hk q hq))
  · exact wE fun q w hq=>ZQ.fA.calls 600 q _ w (ZQ.yJ 600 (Nat.le_refl _) q (hk q hq))
  · exact wF fun k q w hq=>ZQ.iP.calls _ k q _ w (ZQ.Ag (ZQ.K0 + 20) (by omega) k q)
  · exact wF fun k q w hq=>ZQ.eF.calls _ k q _ w (ZQ.Qg (ZQ.K0 + 20) (by omega) k q)
  · exact wF fun k q w hq=>ZQ.bR.calls _ k q _ w (ZQ.mU (ZQ.K0 + 20) (by omega) k q)
  · exact wF fun k q w hq=>ZQ.bG.calls _ k q _ w (ZQ.FM (ZQ.K0 + 20) (by omega) k q)
  · exact Oy
  · exact Oz
theorem yK : ∀ p ∈ leafs,∃ fn,Try.prog.funcs[p.1]? = some fn ∧ (fn.name == "runtime.NumGoroutine") = false ∧ fn.body.isSome = true:=by
  intro p hp
  simp only [leafs,List.mem_cons,List.not_mem_nil,or_false] at hp
  rcases hp with rfl | rfl | rfl | rfl | rfl | rfl | rfl | rfl | rfl | rfl
  · exact ⟨Try.f91,by kernel_rfl,by kernel_rfl,by kernel_rfl⟩
  · exact ⟨Try.f92,by kernel_rfl,by kernel_rfl,by kernel_rfl⟩
  · exact ⟨Try.f100,by kernel_rfl,by kernel_rfl,by kernel_rfl⟩
  · exact ⟨Try.f101,by kernel_rfl,by kernel_rfl,by kernel_rfl⟩
  · exact ⟨Try.f94,by kernel_rfl,by kernel_rfl,by kernel_rfl⟩
  · exact ⟨Try.f95,by kernel_rfl,by kernel_rfl,by kernel_rfl⟩
  · exact ⟨Try.f83,by kernel_rfl,by kernel_rfl,by kernel_rfl⟩
  · exact ⟨Try.f84,by kernel_rfl,by kernel_rfl,by kernel_rfl⟩
  · exact ⟨Try.f88,by kernel_rfl,by kernel_rfl,by kernel_rfl⟩
  · exact ⟨Try.f70,by kernel_rfl,by kernel_rfl,by kernel_rfl⟩
def FN : Env:=sQ leafs
theorem Qi : iQ Try.prog FN:=xO Ej
theorem Jq : eP Try.prog FN:=q9 yK
noncomputable def ins : List (FuncId × AG):=(19,vB FN 200000000000001 9) :: leafs
theorem U3 : ∀ p ∈ ins,Sat Try.prog p.1 p.2:=by
  intro p hp
  rcases List.mem_cons.mp hp with rfl | hp
  · exact OA Qi Jq _ _
  · exact Ej p hp
theorem MJ : ∀ p ∈ ins,∃ fn,Try.prog.funcs[p.1]? = some fn ∧ (fn.name == "runtime.NumGoroutine") = false ∧ fn.body.isSome = true:=by
  intro p hp
  rcases List.mem_cons.mp hp with rfl | hp
  · exact ⟨Try.f19,by kernel_rfl,by kernel_rfl,by kernel_rfl⟩
  · exact yK p hp
noncomputable def ext1 : Env:=sQ ins
theorem Qj : iQ Try.prog ext1:=xO U3
theorem Jr : eP Try.prog ext1:=q9 MJ
theorem Z6 : HV.Ok FN:=by
  constructor <;> intros <;> simp_all [FN,leafs,sQ,U0,U1,MP,tvS,HV,vs,vb,vi]
theorem H6 {α:Type} (sz:Nat) (own:Bool) (l:List α) (f:α → List FV) (hf:∀ x,(f x).length = sz) (h:l.length ≤ 1000000):Ox sz own [vl (l.map f)] = some ([.one (if own then .own sz (l.map f) else .f (.sl (l.map f)))],[vl (l.map f)]):=by
  have h1:((l.map f).all fun r=>r.length == sz) = true:=by
    rw [List.all_eq_true];intro r hr;obtain ⟨x, -,rfl⟩:=List.mem_map.mp hr;exact beq_iff_eq.mpr (hf x)
  show (if (l.map f).length ≤ 1000000 ∧ _ then _ else _) = _
  rw [if_pos ⟨by rw [List.length_map];exact h,h1⟩]
theorem Z7 (l:List ByteArray) (h:l.length ≤ 1000000):Ox 1 false [vl (l.map gB)] = some ([vl (l.map gB)],[vl (l.map gB)]):=H6 1 false l gB (fun _=>rfl) h
theorem Z8 (l:List Qn) (h:l.length ≤ 1000000):Ox 3 true [vl (l.map rQ)] = some ([.one (.own 3 (l.map rQ))],[vl (l.map rQ)]):=H6 3 true l rQ (fun _=>rfl) h
theorem Z9 : qZ FN:=⟨fun l h=>Z8 l h,fun l h=>Z7 l h⟩
theorem U4 : qZ ext1:=⟨fun l h=>Z8 l h,fun l h=>Z7 l h⟩
theorem El (gJ:List AV):ext1 19 gJ = vB FN 200000000000001 (0 + 9) gJ:=by
  unfold ext1 ins sQ;rw [if_pos rfl]
theorem Qk : Gt HV ext1 where
  p0 now x r:=by rw [El];exact Lb now x r
  p1 s now x r h1 h2 h3 _ h4 h5 h6:=by rw [El];exact Lc Z6 Z9 s now x r (Nat.le_refl _) h1 h2 h3 h4 h5 h6
theorem Ql : HV.Live:=by constructor <;> decide +kernel
end Go.Proofs.Ytdkkgecdhapfhaa.Ka
namespace Go.Proofs.Ytdkkgecdhapfhaa.Ev
open Go Go.RowKit
structure Old (w w':World):Prop where
  os:w'.os = w.os
  output:w'.output = w.output
  size:w.heap.size ≤ w'.heap.size
  block:∀ k,k < w.heap.size → w'.heap[k]? = w.heap[k]?
theorem Old.frame {W w':World} (h:Old W w') (may:MemPlace → Prop):W.keptBut w' may:=by
  refine ⟨h.os,h.output,fun i hi=>?_⟩
  rw [h.block i hi]
  split <;> simp_all
theorem Old.same {W w':World} (h:Old W w') {p:MemPlace} (hp:p.block < W.heap.size):W.sameAt w' p:=by
  cases p with
  | cell b o=>exact World.cell?_of_block (w:=W) (h.block b hp)
  | map b=>exact h.block b hp
theorem Old.trod {H:Type} {enc:TypeId × Value → H} {P:Program} {t:TypeId} (hl:laidOutB P = true) (hr:P.readableRec t = true) (hrow:t < P.types.size) {W W':World} {v:Value} {d:DataW H} {ps:List MemPlace}
    (h:DataW.Trod enc P W 0 (fun _=>true) true t v d ps) (hb:Old W W') (hlt:∀ x ∈ ps,x.block < W.heap.size):DataW.Trod enc P W' 0 (fun b=>decide (b < W.heap.size)) true t v d ps :=
  WideElems.Trod_stays hl hr hrow h (fun x hx=>hb.same (hlt x hx)) (fun x hx=>by simpa using hlt x hx)
theorem Js {P:Program} {Γ:Env} (mh:iQ P Γ) {f:FuncId} {gJ rH:List AV} {b:Bool} {vals:List Value} {W:World} (h:Γ f gJ = some ([.one (.f (.bool b))],rH)) (ha:fM (fun k=>k < W.heap.size) W gJ vals []) :
    Calls P f vals.toArray W fun e W'=>e = .returned (.bool b) ∧ Old W W':=by
  refine (mh f gJ _ _ h (fun k=>k < W.heap.size) W vals [] ha List.nodup_nil (by simp) (fun _ h=>h)).mono fun e w' ⟨bK,uI,b1,b2,he,hp⟩=>?_
  refine ⟨?_,hp.kp.1,hp.kp.2,hp.big,fun k hk=>hp.ext k hk (by simp)⟩
  match uI,hp.rs with
  | [v],⟨c1,c2,h1,h2,h3⟩=>rw [he,show v = .bool b from h1.1];rfl
def H7 (P:Program) {α:Type} (T:TypeId) (f:α → List FV) (G:α → Prop):Prop :=
  ∀ {H:Type} (enc:TypeId × Value → H) (w:World) (spare:Nat → Bool) (held:Bool) (fuel:Nat) (cs:List Value) (x:DataW H × List MemPlace),
    DataW.trod enc P w 0 spare held fuel T cs = some x → (∀ n ∈ x.1.weights P T,n ≤ reachBytes) → ∃ a:α,cO (fun k=>k < w.heap.size) w (f a) cs ∧ G a
section
variable {P : Program}
theorem ql {k:IntKind} {T:TypeId} (h:P.underlying T = some (.int k)):H7 P T (fun n=>[FV.int k n]) (fun n=>(Lit.int k n).wf = true):=by
  intro H enc w spare held fuel cs x hx _
  obtain ⟨n,rfl,rfl,hw⟩:=DataW.trod_int h hx
  exact ⟨n,⟨by simp only [fq],trivial⟩,hw⟩
theorem H8 {T:TypeId} (h:P.underlying T = some .string):H7 P T (fun s=>[FV.str s]) (fun s=>s.size ≤ 140737488351232):=by
  intro H enc w spare held fuel cs x hx hz
  obtain ⟨s,rfl,rfl,hw⟩:=DataW.trod_string h hx
  refine ⟨s,⟨by simp only [fq],trivial⟩,?_⟩
  have:=hz s.data.toList.length (by simp [DataW.weights])
  rw [Array.length_toList] at this
  exact this
theorem nI {H:Type} {e:TypeId}:∀ {ds:List (DataW H)} {i:Nat} {d:DataW H},ds[i]? = some d → ∀ n ∈ d.weights P e,n ∈ DataW.weightsAll P e ds
  | [],i,d,h,_,_=>by simp at h
  | d0 :: ds,0,d,h,n,hn=>by
    simp at h;subst h
    exact List.mem_append.mpr (.inl hn)
  | d0 :: ds,i + 1,d,h,n,hn=>by
    simp at h
    exact List.mem_append.mpr (.inr (nI h n hn))
theorem Em {H:Type} {ts:List TypeId} {ds:List (DataW H)} (h:(DataW.weightsEach P ts ds).all (· ≤ reachBytes) = true) {j:Nat} {t:TypeId} {d:DataW H} (ht:ts[j]? = some t) (hd:ds[j]? = some d) :
    ∀ n ∈ d.weights P t,n ≤ reachBytes:=fun n hn=>by
  have:=List.all_eq_true.1 h n (DataW.weights_mem_each ht hd n hn)
  simpa using this
theorem uo {α:Type} {Q:Nat → α → Prop}:∀ n,(∀ i,i < n → ∃ y,Q i y) → ∃ ys:List α,ys.length = n ∧ ∀ i y,ys[i]? = some y → Q i y
  | 0,_=>⟨[],rfl,by simp⟩
  | n + 1,h=>by
    obtain ⟨ys,hl,hq⟩:=uo n (fun i hi=>h i (by omega))
    obtain ⟨y,hy⟩:=h n (by omega)
    refine ⟨ys ++ [y],by simp [hl],fun i z hz=>?_⟩
    by_cases hi:i < n
    · rw [List.getElem?_append_left (by omega)] at hz
      exact hq i z hz
    · have hlt:=(List.getElem?_eq_some_iff.1 hz).1
      simp only [List.length_append,List.length_singleton] at hlt
      obtain rfl:i = n:=by omega
      rw [List.getElem?_append_right (by omega),hl,Nat.sub_self] at hz
      simp at hz
      subst hz
      exact hy
theorem Ai {Fz:Nat → Prop} {w:World} {b:Nat}:∀ (xs:List FV) (cs:List Value) (o:Nat),cO Fz w xs cs → (∀ i u,cs[i]? = some u → w.cell? ⟨b,o + i,none⟩ = some u) → dY Fz w b o xs
  | [],_,_,_,_=>by simp only [dY]
  | x :: xs,[],_,h,_=>h.elim
  | x :: xs,c :: cs,o,h,hc=>by
    simp only [dY]
    exact ⟨⟨c,hc 0 c rfl,h.1⟩,Ai xs cs (o + 1) h.2 fun i u hi=>by rw [show o + 1 + i = o + (i + 1) from by omega];exact hc (i + 1) u hi⟩
theorem yL {Fz:Nat → Prop} {w:World} {sz b:Nat} {α:Type} {f:α → List FV} (hf:∀ a,(f a).length = sz):∀ (l:List α) (o:Nat),(∀ i y,l[i]? = some y → dY Fz w b (o + i * sz) (f y)) → dh Fz w sz b o (l.map f)
  | [],_,_=>by simp only [List.map_nil,dh]
  | y :: l,o,h=>by
    simp only [List.map_cons,dh]
    refine ⟨hf y,by simpa using h 0 y rfl,yL hf l (o + sz) fun i z hz=>?_⟩
    rw [show o + sz + i * sz = o + (i + 1) * sz from by rw [Nat.add_mul];omega]
    exact h (i + 1) z hz
theorem Jt (a:Addr) (x y:Nat):(a.add x).add y = a.add (x + y):=by
  unfold Addr.add
  by_cases hx:x = 0
  · subst hx;simp
  · by_cases hy:y = 0
    · subst hy;simp [hx]
    · simp [hx,hy,Nat.add_assoc]
theorem yM {w:World} {a:Addr} {u:Value} (h:w.cell? a = some u):a = ⟨a.block,a.off,none⟩ ∧ a.block < w.heap.size:=by
  unfold World.cell? at h
  split at h
  · rename_i c _ _ hb
    split at h
    · cases h
    · rename_i hs
      obtain ⟨b,o,s⟩:=a
      cases s with
      | none=>exact ⟨rfl,by have:=(Array.getElem?_eq_some_iff.mp hb).1;exact this⟩
      | some s=>simp at hs
  · cases h
theorem Aj {α:Type} {f:α → List FV} {T e:TypeId} {G:α → Prop} (sz:Nat) (h:P.underlying T = some (.slice e)) (hc:P.cellsOf e = sz) (h0:0 < sz) (hf:∀ a,(f a).length = sz) (hby:decide (1 ≤ P.bytesOf e) = true) (hd:H7 P e f G) :
    H7 P T (fun l:List α=>[FV.sl (l.map f)]) (fun l=>l.length ≤ 140737488351232 ∧ ∀ x ∈ l,G x):=by
  intro H enc w spare held fuel cs x hx hz
  rcases DataW.trod_slice h hx with ⟨rfl,rfl⟩ | ⟨a,len,cap,elems,rest,n,_,rfl,rfl,hb,hl,hm,hlen,hel,_,_⟩
  · refine ⟨[],⟨?_,trivial⟩,by simp⟩
    simp only [fq]
    exact ⟨none,0,rfl,Nat.le_refl _,by simp,.inl rfl⟩
  · have hw:∀ m ∈ (elems.length + rest.length) * P.bytesOf e :: (DataW.weightsAll P e (elems.map (·.1)) ++ DataW.weightsAll P e (rest.map (·.1))),m ≤ reachBytes:=by
      intro m hm'
      refine hz m ?_
      simp only [DataW.weights,h,List.length_map]
      exact hm'
    obtain ⟨ys,hyl,hys⟩:=uo (α:=α) (Q:=fun i y=>∃ c,w.cells? 0 (a.add (i * P.cellsOf e)) (P.cellsOf e) = some c ∧ cO (fun k=>k < w.heap.size) w (f y) c ∧ G y) len (fun i hi=>by
      have h1:=hel i hi
      rw [List.getElem?_eq_getElem (by omega),Option.bind_eq_some_iff] at h1
      obtain ⟨c,hc1,hc2⟩:=h1
      obtain ⟨y,hy,hg⟩:=hd enc w spare held n c _ hc2 (fun m hm'=>by
        refine hw m (List.mem_cons_of_mem _ (List.mem_append.mpr (.inl ?_)))
        exact nI (i:=i) (d:=(elems[i]'(by omega)).1) (by rw [List.getElem?_map,List.getElem?_eq_getElem (by omega)];rfl) m hm')
      exact ⟨y,c,hc1,hy,hg⟩)
    have hlen1:(elems.length + rest.length) * P.bytesOf e ≤ reachBytes:=hw _ (by simp)
    have hlm:cap ≤ 9223372036854775807:=by unfold maxLen at hm;omega
    refine ⟨ys,⟨?_,trivial⟩,?_,?_⟩
    · simp only [fq,List.length_map]
      refine ⟨some a,cap,by rw [hyl],by omega,by omega,?_⟩
      cases hy0:ys with
      | nil=>exact .inl rfl
      | cons y0 ys0 =>
        right
        obtain ⟨c0,k0,_,_⟩:=hys 0 y0 (by rw [hy0];rfl)
        rw [hc] at k0
        obtain ⟨_,kl,kc⟩:=World.cells?_some k0
        have k1:=kc 0 h0
        rw [List.getElem?_eq_getElem (by omega)] at k1
        obtain ⟨ea,eb⟩:=yM k1
        have ea0:(a.add (0 * sz)).add 0 = a:=by simp [Addr.add]
        rw [ea0] at ea eb
        refine ⟨a.block,a.off,sz,congrArg some ea,eb,?_⟩
        rw [← hy0]
        refine yL hf ys a.off fun i y hi=>?_
        obtain ⟨c,hc1,hk,_⟩:=hys i y hi
        rw [hc] at hc1
        obtain ⟨_,hcl,hcc⟩:=World.cells?_some hc1
        refine Ai _ c _ hk fun j u hj=>?_
        have hj':j < sz:=by have:=(List.getElem?_eq_some_iff.1 hj).1;omega
        have:=hcc j hj'
        rw [Jt,hj] at this
        obtain ⟨e1,_⟩:=yM this
        rw [e1] at this
        have e2:a.add (i * sz + j) = ⟨a.block,a.off + i * sz + j,none⟩:=by
          rw [ea];unfold Addr.add;split
          · rename_i hz;congr 1;simp only;omega
          · congr 1;simp only;omega
        rw [e2] at this
        exact this
    · rw [hyl,← hlen]
      have h1:elems.length * P.bytesOf e ≤ (elems.length + rest.length) * P.bytesOf e:=Nat.mul_le_mul_right _ (by omega)
      have h2:reachBytes = 140737488351232:=rfl
      have h3:elems.length * 1 ≤ elems.length * P.bytesOf e:=Nat.mul_le_mul_left _ (of_decide_eq_true hby)
      omega
    · intro y hy
      obtain ⟨i,hi,rfl⟩:=List.mem_iff_getElem.1 hy
      obtain ⟨_,_,_,hg⟩:=hys i _ (List.getElem?_eq_getElem hi)
      exact hg
def Qm (P:Program) {α:Type} (sz:Nat) (f:α → List FV) (fs:List (TypeId × Nat)) (off:Nat) (G:α → Prop):Prop :=
  ∀ {H:Type} (enc:TypeId × Value → H) (w:World) (spare:Nat → Bool) (held:Bool) (n:Nat) (cs:List Value) (xs:List (DataW H × List MemPlace)),
    (∀ (i:Nat) (f:TypeId × Nat),fs[i]? = some f → DataW.trod enc P w 0 spare held n f.1 ((cs.drop f.2).take (P.cellsOf f.1)) = xs[i]?) → xs.length = fs.length →
    (∀ (i:Nat) (x:DataW H × List MemPlace) (f:TypeId × Nat),xs[i]? = some x → fs[i]? = some f → ∀ m ∈ x.1.weights P f.1,m ≤ reachBytes) → cs.length = off + sz → ∃ a,cO (fun k=>k < w.heap.size) w (f a) (cs.drop off) ∧ G a
theorem uZ {α:Type} {sz:Nat} {f:α → List FV} {t:TypeId} {off:Nat} {G:α → Prop} (hd:H7 P t f G) (hc:P.cellsOf t = sz):Qm P sz f [(t,off)] off G:=by
  intro H enc w spare held n cs xs hf hl hw hn
  match xs,hl with
  | [y],_ =>
    have h1:=hf 0 _ rfl
    have h2:(cs.drop off).take (P.cellsOf t) = cs.drop off:=List.take_of_length_le (by rw [List.length_drop];omega)
    rw [h2] at h1
    exact hd enc w spare held n _ y h1 (hw 0 y _ rfl rfl)
theorem Ak {Fz:Nat → Prop} {w:World}:∀ {xs ys:List FV} {cs ds:List Value},cO Fz w xs cs → cO Fz w ys ds → cO Fz w (xs ++ ys) (cs ++ ds)
  | [],_,[],_,_,h=>h
  | [],_,_ :: _,_,h,_=>h.elim
  | _ :: _,_,[],_,h,_=>h.elim
  | x :: xs,ys,c :: cs,ds,h,k=>⟨h.1,Ak h.2 k⟩
theorem kM {α β:Type} {sz sz':Nat} {f:α → List FV} {g:β → List FV} {t:TypeId} {fs:List (TypeId × Nat)} {off:Nat} {G:α → Prop} {G':β → Prop} (hd:H7 P t f G) (hc:P.cellsOf t = sz)
    (hr:Qm P sz' g fs (off + sz) G'):Qm P (sz + sz') (fun p:α × β=>f p.1 ++ g p.2) ((t,off) :: fs) off (fun p=>G p.1 ∧ G' p.2):=by
  intro H enc w spare held n cs xs hf hl hw hn
  match xs,hl with
  | y :: ys,hl =>
    have h1:=hf 0 _ rfl
    obtain ⟨a,ha,ga⟩:=hd enc w spare held n _ y h1 (hw 0 y _ rfl rfl)
    obtain ⟨b,hb,gb⟩:=hr enc w spare held n cs ys (fun i f hi=>hf (i + 1) f hi) (by simpa using hl) (fun i x f hx hfi=>hw (i + 1) x f hx hfi) (by omega)
    refine ⟨(a,b),?_,ga,gb⟩
    have e:cs.drop off = (cs.drop off).take (P.cellsOf t) ++ cs.drop (off + sz):=by rw [← List.drop_drop,hc,List.take_append_drop]
    rw [e]
    exact Ak ha hb
theorem rF {α:Type} {sz:Nat} {f:α → List FV} {T:TypeId} {fs:Array Field} {G:α → Prop} (h:P.underlying T = some (.struct fs)) (hc:P.cellsOf T = sz)
    (hd:Qm P sz f (fs.toList.map fun f=>(f.type,f.offset)) 0 G):H7 P T f G:=by
  intro H enc w spare held fuel cs x hx hz
  obtain ⟨xs,n,_,rfl,hl,hlen,hf⟩:=DataW.trod_struct h hx
  have hd':=hd enc w spare held n cs xs ?_ (by rw [List.length_map,Array.length_toList];exact hlen) ?_ (by rw [Nat.zero_add,← hc];exact hl)
  · obtain ⟨a,ha,ga⟩:=hd'
    exact ⟨a,by simpa using ha,ga⟩
  · intro i f hi
    rw [List.getElem?_map,Option.map_eq_some_iff] at hi
    obtain ⟨f',hf',rfl⟩:=hi
    exact hf i f' (by rw [← Array.getElem?_toList];exact hf')
  · intro i x f hxi hfi m hm
    refine hz m ?_
    simp only [DataW.weights,h]
    refine DataW.weights_mem_each (j:=i) (t:=f.1) (d:=x.1) ?_ ?_ m hm
    · rw [List.getElem?_map] at hfi ⊢
      rw [Option.map_eq_some_iff] at hfi ⊢
      obtain ⟨f',hf',rfl⟩:=hfi
      exact ⟨f',hf',rfl⟩
    · rw [List.getElem?_map,hxi];rfl
theorem wG {α β:Type} {T:TypeId} {f:α → List FV} {f':β → List FV} {G:α → Prop} {G':β → Prop} (g:α → β) (hg:∀ a,f' (g a) = f a) (hG:∀ a,G a → G' (g a)) (hd:H7 P T f G):H7 P T f' G':=by
  intro H enc w spare held fuel cs x hx hz
  obtain ⟨a,ha,ga⟩:=hd enc w spare held fuel cs x hx hz
  exact ⟨g a,by rw [hg];exact ha,hG a ga⟩
theorem En {Fz:Nat → Prop} {w:World} {x:FV} {v:Value} (h:fq Fz w x v):qo Fz w (.one (.f x)) v []:=⟨h,rfl⟩
theorem yN {Fz:Nat → Prop} {w:World} {x:AV} {v:Value} {xs:List AV} {vs:List Value} (h:qo Fz w x v []) (k:fM Fz w xs vs []):fM Fz w (x :: xs) (v :: vs) []:=⟨[],[],h,k,rfl⟩
theorem Ju {Fz:Nat → Prop} {w:World}:fM Fz w [] [] []:=rfl
end
end Go.Proofs.Ytdkkgecdhapfhaa.Ev
set_option maxRecDepth 100000
namespace Go.Proofs.Ytdkkgecdhapfhaa.Ka
open Go Ev
theorem opQ : H7 Try.prog 32 rQ (fun _=>True) :=
  wG (fun p:ByteArray × Int × Int=>⟨p.1,p.2.1,p.2.2⟩) (by exact fun _=>rfl) (by exact fun _ _=>trivial) (rF Try.underlying32 (by kernel_rfl) (kM (sz:=1) (sz':=2) (H8 Try.underlying9) (by kernel_rfl) (kM (sz:=1) (sz':=1) (ql Try.underlying3) (by kernel_rfl) (uZ (ql Try.underlying3) (by kernel_rfl)))))
theorem opD : H7 Try.prog 33 (fun d:List ByteArray=>[.sl (d.map gB)]) (fun d=>d.length ≤ 140737488351232) :=
  wG (fun d:List ByteArray=>d) (by exact fun _=>rfl) (by exact fun _ h=>h.1) (Aj 1 Try.underlying33 (by kernel_rfl) (by decide) (fun _=>rfl) (by kernel_rfl) (H8 Try.underlying9))
theorem opS : H7 Try.prog 35 rS (fun x=>x.d.length ≤ 140737488351232) :=
  wG (fun p:Qn × List ByteArray × Int=>⟨p.1.q,p.1.t,p.1.c,p.2.1,p.2.2⟩) (by exact fun _=>rfl) (by exact fun _ h=>h.2.1) (rF Try.underlying35 (by kernel_rfl) (kM (sz:=3) (sz':=2) opQ (by kernel_rfl) (kM (sz:=1) (sz':=1) opD (by kernel_rfl) (uZ (ql Try.underlying3) (by kernel_rfl)))))
theorem opO : H7 Try.prog 37 rO (fun x=>x.d.length ≤ 140737488351232) :=
  wG (fun p:Int × Int × Se × Int=>⟨p.1,p.2.1,p.2.2.1.q,p.2.2.1.t,p.2.2.1.c,p.2.2.1.d,p.2.2.1.ttl,p.2.2.2⟩) (by exact fun _=>rfl) (by exact fun _ h=>h.2.2.1) (rF Try.underlying37 (by kernel_rfl) (kM (sz:=1) (sz':=7) (ql Try.underlying3) (by kernel_rfl) (kM (sz:=1) (sz':=6) (ql Try.underlying3) (by kernel_rfl) (kM (sz:=5) (sz':=1) opS (by kernel_rfl) (uZ (ql Try.underlying3) (by kernel_rfl))))))
theorem opL : H7 Try.prog 22 (fun l:List Op=>[.sl (l.map rO)]) (fun l=>l.length ≤ 140737488351232 ∧ ∀ x ∈ l,x.d.length ≤ 140737488351232) :=
  Aj 8 Try.underlying22 (by kernel_rfl) (by decide) (fun _=>rfl) (by kernel_rfl) opO
end Go.Proofs.Ytdkkgecdhapfhaa.Ka

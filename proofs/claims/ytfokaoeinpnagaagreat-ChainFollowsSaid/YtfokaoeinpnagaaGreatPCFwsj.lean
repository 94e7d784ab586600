/- A part of the proof of ChainFollows: cut, joined and given short names by a program of this session (wip/tools/pack.py); Lean checks it. No condition. -/
import Derived.Test.YtfokaoeinpnagaaGreatPCFwsg
import Derived.Test.YtfokaoeinpnagaaGreatPCFwsi
import Derived.Test.YtfokaoeinpnagaaGreatPCFwsh
import Derived.WalkSpells
import Derived.Test.YtfokaoeinpnagaaGreatPCFwse
import Derived.ProofKit
import Derived.OpenShut
import Derived.SizedLaws
import Derived.ChangeArms
import Derived.ChangeSlices
import Derived.Carry
import Derived.Test.YtfokaoeinpnagaaGreatPCFwsf
import Derived.Test.YtfokaoeinpnagaaGreatPCFwsd
set_option linter.unusedSectionVars false
set_option linter.unusedSimpArgs false
set_option linter.unusedVariables false
set_option maxHeartbeats 16000000
set_option maxRecDepth 100000
namespace Go.Proofs.YtfokaoeinpnagaaGreat.ZQ
section
open Go.RowKit Go.Proofs.YtfokaoeinpnagaaGreatW.bI Go.Proofs.YtfokaoeinpnagaaGreatW.eF Go.Proofs.YtfokaoeinpnagaaGreatW.fK
attribute [local go_sem] j4 j5 lS lT ji jk j6 kg
attribute [local go_sem high] Zl
def aI.j0 : Nat → Int → Bool → Option (Int × Int × Int)
 | 0,_,_=>none
 | k + 1,x3,x4=>if x4 = true then (some (0,1,0)) else (if x3 = 6 then (some (0,2,20)) else (if x3 = 15 then (some (2,1,0)) else (if x3 = 33 then (some (6,1,0)) else (if x3 = 1 then (some (4,0,0)) else (if x3 = 28 then (some (16,0,0)) else (some (0,0,0)))))))
def aI.f (k:Nat) (a0:Int):Option (Int × Int × Int):=if a0 = 2 then (aI.j0 k a0 (a0 == 2)) else (if a0 = 5 then (aI.j0 k a0 (a0 == 5)) else (aI.j0 k a0 (a0 == 12)))
theorem aI.calls (k:Nat) (a0:Int) (r1:Int) (r2:Int) (r3:Int) (w:World) (h:aI.f k a0 = some (r1,r2,r3)) :
  Calls Tryz.prog 123 #[.int .i64 a0] w fun e w'=>e = .returned (.agg #[.int .i64 r1,.int .i64 r2,.int .i64 r3]) ∧ Below w.heap.size w w':=by
 have QM:=Tryz.underlying198
 have HB:=aj.mk (Below.refl w.heap.size w)
 have H:(if a0 = 2 then (aI.j0 k a0 (a0 == 2)) else (if a0 = 5 then (aI.j0 k a0 (a0 == 5)) else (aI.j0 k a0 (a0 == 12)))) = some (r1,r2,r3):=h
 clear h
 have Y6:=aj.mk H
 clear H
 go_enter Tryz.func123,Tryz.ntmps123
 go_upto_if 4 with (first | ((with_reducible refine j3 (N:=2) rfl ?_);refine jh ?hg (N:=2) ?hd (cs:=#[.int .i64 0,.int .i64 0,.int .i64 0]) (t:=198) ?hr ?_;(case hd=>rfl);(case hg=>rfl);(case hr=>first | (go_simp;done) | (go_simp;rfl));intro iQ hg w3 kQ hb;have fJ:=aj.mk (bP (by repeat first | exact HB.out | apply ak | apply ah | apply au) hb);have jr:=aj.mk (kQ);have l6:=aj.mk ((by rw [hg];exact (cB (by repeat first | exact HB.out | apply ak | apply ah | apply au)):w.heap.size ≤ iQ));have ni:=aj.mk ((by rw [hg];exact (cB (by repeat first | exact HB.out | apply ak | apply ah | apply au)):w.heap.size ≤ iQ));clear HB;have HB:=fJ;have fq:=jr;have akN:=l6;have tZ:=ni;clear fJ jr l6 ni;clear hb kQ hg))
 (try simp only [Act.put,ame,List.set_cons_zero,List.set_cons_succ])
 go_cut [4] (fun v4 wc=>∃ (kq:Nat) (tC:Bool),v4 = .bool tC ∧ aj (aI.j0 kq a0 tC = some (r1,r2,r3)) ∧ aj (kq ≤ k) ∧ aj (wc.heap[iQ]? = some (.cells #[.int .i64 0,.int .i64 0,.int .i64 0] 198 (0,0))) ∧ aj (Below w.heap.size w wc))
 case first =>
  have H:=Y6.out
  clear Y6
  by_cases c4:a0 = 2
  ·rw [alx c4] at H
   have tH:(a0 == 2) = true:=alW.mpr c4
   have Mv:(a0 != 2) = false:=ami.mpr c4
   clear c4
   (first | rw [tH] | rw [Qq] | (simp only [iN,iZ];rw [tH]) | skip)
   have H':=aj.mk H
   clear H
   go_wp2
   go_meet
   case rel=>exact ⟨_,((a0 == 2)),(by first | rfl | (simp;done) | (simp [*];done) | (simp [B.aY];done) | (simp [B.aZ];done)),H',⟨by first | omega | exact alC _⟩,⟨by (with_reducible repeat (first | refine aG ?_ _ | refine aK ?_ | refine aA ?_ _));exact fq.out⟩,⟨by repeat (first | (with_reducible first | exact HB.out | apply ak | apply ah | apply au | refine aT ?_ tZ.out) | exact HB.out)⟩⟩
  ·rw [aly c4] at H
   have tH:(a0 == 2) = false:=amd.mpr c4
   have Mv:(a0 != 2) = true:=amf.mpr c4
   (first | rw [tH] | rw [Qq] | (simp only [iN,iZ];rw [tH]) | skip)
   by_cases c5:a0 = 5
   ·rw [alx c5] at H
    have rO:(a0 == 5) = true:=alW.mpr c5
    have xA:(a0 != 5) = false:=ami.mpr c5
    clear c5
    have H':=aj.mk H
    clear H
    go_wp2
    go_meet
    case rel=>exact ⟨_,((a0 == 5)),(by first | rfl | (simp;done) | (simp [*];done) | (simp [B.aY];done) | (simp [B.aZ];done)),H',⟨by first | omega | exact alC _⟩,⟨by (with_reducible repeat (first | refine aG ?_ _ | refine aK ?_ | refine aA ?_ _));exact fq.out⟩,⟨by repeat (first | (with_reducible first | exact HB.out | apply ak | apply ah | apply au | refine aT ?_ tZ.out) | exact HB.out)⟩⟩
   ·rw [aly c5] at H
    have rO:(a0 == 5) = false:=amd.mpr c5
    have xA:(a0 != 5) = true:=amf.mpr c5
    have H':=aj.mk H
    clear H
    go_wp2
    go_meet
    case rel=>exact ⟨_,((a0 == 12)),(by first | rfl | (simp;done) | (simp [*];done) | (simp [B.aY];done) | (simp [B.aZ];done)),H',⟨by first | omega | exact alC _⟩,⟨by (with_reducible repeat (first | refine aG ?_ _ | refine aK ?_ | refine aA ?_ _));exact fq.out⟩,⟨by repeat (first | (with_reducible first | exact HB.out | apply ak | apply ah | apply au | refine aT ?_ tZ.out) | exact HB.out)⟩⟩
 case rest =>
  clear Y6
  try clear c1
  try clear p2
  try clear c4
  try clear tH
  try clear Mv
  try clear Qq
  try clear c5
  try clear rO
  try clear xA
  obtain ⟨kq,tC,rfl,HA,HJ1,fq,HB⟩:=hcut
  cases kq with
  | zero=>exact absurd HA.out (by simp [aI.j0])
  | succ kj1 =>
   have H:=HA.out
   clear HA
   simp only [aI.j0] at H
   by_cases c6:tC = true
   ·subst c6
    have H1:(some (0,1,0)) = some (r1,r2,r3):=by rw [alx rfl] at H;exact H
    clear H
    have H:=H1
    clear H1
    simp only [alI,alK] at H
    obtain ⟨rfl,rfl,rfl⟩:=H
    have aiU:wc.cell? ⟨iQ,0,none⟩ = some (.int .i64 0):=(aX fq.out 0).trans rfl
    have aiV:wc.cell? ⟨iQ,1,none⟩ = some (.int .i64 0):=(aX fq.out 1).trans rfl
    have aiW:wc.cell? ⟨iQ,2,none⟩ = some (.int .i64 0):=(aX fq.out 2).trans rfl
    have aiX:=aJ fq.out 0
    have aiY:=aJ fq.out 1
    have aiZ:=aJ fq.out 2
    go_wp2
    refine bodyPost_ret (results_cell_row rfl _ _ iQ 198 #[.int .i64 0,.int .i64 1,.int .i64 0] (0,0) _ rfl (by (with_reducible repeat (first | refine aG ?_ _ | refine aK ?_ | refine aA ?_ _));refine cO (cs:=#[.int .i64 0,.int .i64 1,.int .i64 0]) ?_ 2 _ rfl;(with_reducible repeat (first | refine aG ?_ _ | refine aK ?_ | refine aA ?_ _));refine cO (cs:=#[.int .i64 0,.int .i64 0,.int .i64 0]) ?_ 1 _ rfl;(with_reducible repeat (first | refine aG ?_ _ | refine aK ?_ | refine aA ?_ _));refine cO (cs:=#[.int .i64 0,.int .i64 0,.int .i64 0]) ?_ 0 _ rfl;(with_reducible repeat (first | refine aG ?_ _ | refine aK ?_ | refine aA ?_ _));exact fq.out) Tryz.underlying198 rfl (by kernel_rfl)) rfl ?_
    exact ⟨by first | rfl | (simp [aM,aN] <;> rfl) | (simp [*,aM,aN] <;> rfl),by repeat (first | (with_reducible first | exact HB.out | apply ak | apply ah | apply au | refine aT ?_ tZ.out) | exact HB.out)⟩
   ·replace c6:=amg.mpr c6
    subst c6
    have H1:(if a0 = 6 then (some (0,2,20)) else (if a0 = 15 then (some (2,1,0)) else (if a0 = 33 then (some (6,1,0)) else (if a0 = 1 then (some (4,0,0)) else (if a0 = 28 then (some (16,0,0)) else (some (0,0,0))))))) = some (r1,r2,r3):=by rw [aly (show ¬ (false = true) by decide)] at H;exact H
    clear H
    have H:=H1
    clear H1
    by_cases c8:a0 = 6
    ·rw [alx c8] at H
     have uE:(a0 == 6) = true:=alW.mpr c8
     have uF:(a0 != 6) = false:=ami.mpr c8
     clear c8
     simp only [alI,alK] at H
     obtain ⟨rfl,rfl,rfl⟩:=H
     have QN:wc.cell? ⟨iQ,0,none⟩ = some (.int .i64 0):=(aX fq.out 0).trans rfl
     have QO:wc.cell? ⟨iQ,1,none⟩ = some (.int .i64 0):=(aX fq.out 1).trans rfl
     have QS:wc.cell? ⟨iQ,2,none⟩ = some (.int .i64 0):=(aX fq.out 2).trans rfl
     have QT:=aJ fq.out 0
     have QU:=aJ fq.out 1
     have QV:=aJ fq.out 2
     go_wp2
     refine bodyPost_ret (results_cell_row rfl _ _ iQ 198 #[.int .i64 0,.int .i64 2,.int .i64 20] (0,0) _ rfl (by (with_reducible repeat (first | refine aG ?_ _ | refine aK ?_ | refine aA ?_ _));refine cO (cs:=#[.int .i64 0,.int .i64 2,.int .i64 0]) ?_ 2 _ rfl;(with_reducible repeat (first | refine aG ?_ _ | refine aK ?_ | refine aA ?_ _));refine cO (cs:=#[.int .i64 0,.int .i64 0,.int .i64 0]) ?_ 1 _ rfl;(with_reducible repeat (first | refine aG ?_ _ | refine aK ?_ | refine aA ?_ _));refine cO (cs:=#[.int .i64 0,.int .i64 0,.int .i64 0]) ?_ 0 _ rfl;(with_reducible repeat (first | refine aG ?_ _ | refine aK ?_ | refine aA ?_ _));exact fq.out) Tryz.underlying198 rfl (by kernel_rfl)) rfl ?_
     exact ⟨by first | rfl | (simp [aM,aN] <;> rfl) | (simp [*,aM,aN] <;> rfl),by repeat (first | (with_reducible first | exact HB.out | apply ak | apply ah | apply au | refine aT ?_ tZ.out) | exact HB.out)⟩
    ·rw [aly c8] at H
     have uE:(a0 == 6) = false:=amd.mpr c8
     have uF:(a0 != 6) = true:=amf.mpr c8
     by_cases c10:a0 = 15
     ·rw [alx c10] at H
      have tY:(a0 == 15) = true:=alW.mpr c10
      have CO:(a0 != 15) = false:=ami.mpr c10
      clear c10
      simp only [alI,alK] at H
      obtain ⟨rfl,rfl,rfl⟩:=H
      have agc:wc.cell? ⟨iQ,0,none⟩ = some (.int .i64 0):=(aX fq.out 0).trans rfl
      have agd:wc.cell? ⟨iQ,1,none⟩ = some (.int .i64 0):=(aX fq.out 1).trans rfl
      have agf:wc.cell? ⟨iQ,2,none⟩ = some (.int .i64 0):=(aX fq.out 2).trans rfl
      have agh:=aJ fq.out 0
      have agi:=aJ fq.out 1
      have agj:=aJ fq.out 2
      go_wp2
      refine bodyPost_ret (results_cell_row rfl _ _ iQ 198 #[.int .i64 2,.int .i64 1,.int .i64 0] (0,0) _ rfl (by (with_reducible repeat (first | refine aG ?_ _ | refine aK ?_ | refine aA ?_ _));refine cO (cs:=#[.int .i64 2,.int .i64 1,.int .i64 0]) ?_ 2 _ rfl;(with_reducible repeat (first | refine aG ?_ _ | refine aK ?_ | refine aA ?_ _));refine cO (cs:=#[.int .i64 2,.int .i64 0,.int .i64 0]) ?_ 1 _ rfl;(with_reducible repeat (first | refine aG ?_ _ | refine aK ?_ | refine aA ?_ _));refine cO (cs:=#[.int .i64 0,.int .i64 0,.int .i64 0]) ?_ 0 _ rfl;(with_reducible repeat (first | refine aG ?_ _ | refine aK ?_ | refine aA ?_ _));exact fq.out) Tryz.underlying198 rfl (by kernel_rfl)) rfl ?_
      exact ⟨by first | rfl | (simp [aM,aN] <;> rfl) | (simp [*,aM,aN] <;> rfl),by repeat (first | (with_reducible first | exact HB.out | apply ak | apply ah | apply au | refine aT ?_ tZ.out) | exact HB.out)⟩
     ·rw [aly c10] at H
      have tY:(a0 == 15) = false:=amd.mpr c10
      have CO:(a0 != 15) = true:=amf.mpr c10
      by_cases c12:a0 = 33
      ·rw [alx c12] at H
       have vX:(a0 == 33) = true:=alW.mpr c12
       have vY:(a0 != 33) = false:=ami.mpr c12
       clear c12
       simp only [alI,alK] at H
       obtain ⟨rfl,rfl,rfl⟩:=H
       have ED:wc.cell? ⟨iQ,0,none⟩ = some (.int .i64 0):=(aX fq.out 0).trans rfl
       have EF:wc.cell? ⟨iQ,1,none⟩ = some (.int .i64 0):=(aX fq.out 1).trans rfl
       have EG:wc.cell? ⟨iQ,2,none⟩ = some (.int .i64 0):=(aX fq.out 2).trans rfl
       have EH:=aJ fq.out 0
       have EI:=aJ fq.out 1
       have EJ:=aJ fq.out 2
       go_wp2
       refine bodyPost_ret (results_cell_row rfl _ _ iQ 198 #[.int .i64 6,.int .i64 1,.int .i64 0] (0,0) _ rfl (by (with_reducible repeat (first | refine aG ?_ _ | refine aK ?_ | refine aA ?_ _));refine cO (cs:=#[.int .i64 6,.int .i64 1,.int .i64 0]) ?_ 2 _ rfl;(with_reducible repeat (first | refine aG ?_ _ | refine aK ?_ | refine aA ?_ _));refine cO (cs:=#[.int .i64 6,.int .i64 0,.int .i64 0]) ?_ 1 _ rfl;(with_reducible repeat (first | refine aG ?_ _ | refine aK ?_ | refine aA ?_ _));refine cO (cs:=#[.int .i64 0,.int .i64 0,.int .i64 0]) ?_ 0 _ rfl;(with_reducible repeat (first | refine aG ?_ _ | refine aK ?_ | refine aA ?_ _));exact fq.out) Tryz.underlying198 rfl (by kernel_rfl)) rfl ?_
       exact ⟨by first | rfl | (simp [aM,aN] <;> rfl) | (simp [*,aM,aN] <;> rfl),by repeat (first | (with_reducible first | exact HB.out | apply ak | apply ah | apply au | refine aT ?_ tZ.out) | exact HB.out)⟩
      ·rw [aly c12] at H
       have vX:(a0 == 33) = false:=amd.mpr c12
       have vY:(a0 != 33) = true:=amf.mpr c12
       by_cases c14:a0 = 1
       ·rw [alx c14] at H
        have CP:(a0 == 1) = true:=alW.mpr c14
        have WC:(a0 != 1) = false:=ami.mpr c14
        clear c14
        simp only [alI,alK] at H
        obtain ⟨rfl,rfl,rfl⟩:=H
        have KY:wc.cell? ⟨iQ,0,none⟩ = some (.int .i64 0):=(aX fq.out 0).trans rfl
        have KZ:wc.cell? ⟨iQ,1,none⟩ = some (.int .i64 0):=(aX fq.out 1).trans rfl
        have K3:wc.cell? ⟨iQ,2,none⟩ = some (.int .i64 0):=(aX fq.out 2).trans rfl
        have K4:=aJ fq.out 0
        have K5:=aJ fq.out 1
        have K6:=aJ fq.out 2
        go_wp2
        refine bodyPost_ret (results_cell_row rfl _ _ iQ 198 #[.int .i64 4,.int .i64 0,.int .i64 0] (0,0) _ rfl (by (with_reducible repeat (first | refine aG ?_ _ | refine aK ?_ | refine aA ?_ _));refine cO (cs:=#[.int .i64 4,.int .i64 0,.int .i64 0]) ?_ 2 _ rfl;(with_reducible repeat (first | refine aG ?_ _ | refine aK ?_ | refine aA ?_ _));refine cO (cs:=#[.int .i64 4,.int .i64 0,.int .i64 0]) ?_ 1 _ rfl;(with_reducible repeat (first | refine aG ?_ _ | refine aK ?_ | refine aA ?_ _));refine cO (cs:=#[.int .i64 0,.int .i64 0,.int .i64 0]) ?_ 0 _ rfl;(with_reducible repeat (first | refine aG ?_ _ | refine aK ?_ | refine aA ?_ _));exact fq.out) Tryz.underlying198 rfl (by kernel_rfl)) rfl ?_
        exact ⟨by first | rfl | (simp [aM,aN] <;> rfl) | (simp [*,aM,aN] <;> rfl),by repeat (first | (with_reducible first | exact HB.out | apply ak | apply ah | apply au | refine aT ?_ tZ.out) | exact HB.out)⟩
       ·rw [aly c14] at H
        have CP:(a0 == 1) = false:=amd.mpr c14
        have WC:(a0 != 1) = true:=amf.mpr c14
        by_cases c16:a0 = 28
        ·rw [alx c16] at H
         have KM:(a0 == 28) = true:=alW.mpr c16
         have adP:(a0 != 28) = false:=ami.mpr c16
         clear c16
         simp only [alI,alK] at H
         obtain ⟨rfl,rfl,rfl⟩:=H
         have agk:wc.cell? ⟨iQ,0,none⟩ = some (.int .i64 0):=(aX fq.out 0).trans rfl
         have agl:wc.cell? ⟨iQ,1,none⟩ = some (.int .i64 0):=(aX fq.out 1).trans rfl
         have agm:wc.cell? ⟨iQ,2,none⟩ = some (.int .i64 0):=(aX fq.out 2).trans rfl
         have agn:=aJ fq.out 0
         have agp:=aJ fq.out 1
         have agq:=aJ fq.out 2
         go_wp2
         refine bodyPost_ret (results_cell_row rfl _ _ iQ 198 #[.int .i64 16,.int .i64 0,.int .i64 0] (0,0) _ rfl (by (with_reducible repeat (first | refine aG ?_ _ | refine aK ?_ | refine aA ?_ _));refine cO (cs:=#[.int .i64 16,.int .i64 0,.int .i64 0]) ?_ 2 _ rfl;(with_reducible repeat (first | refine aG ?_ _ | refine aK ?_ | refine aA ?_ _));refine cO (cs:=#[.int .i64 16,.int .i64 0,.int .i64 0]) ?_ 1 _ rfl;(with_reducible repeat (first | refine aG ?_ _ | refine aK ?_ | refine aA ?_ _));refine cO (cs:=#[.int .i64 0,.int .i64 0,.int .i64 0]) ?_ 0 _ rfl;(with_reducible repeat (first | refine aG ?_ _ | refine aK ?_ | refine aA ?_ _));exact fq.out) Tryz.underlying198 rfl (by kernel_rfl)) rfl ?_
         exact ⟨by first | rfl | (simp [aM,aN] <;> rfl) | (simp [*,aM,aN] <;> rfl),by repeat (first | (with_reducible first | exact HB.out | apply ak | apply ah | apply au | refine aT ?_ tZ.out) | exact HB.out)⟩
        ·rw [aly c16] at H
         have KM:(a0 == 28) = false:=amd.mpr c16
         have adP:(a0 != 28) = true:=amf.mpr c16
         simp only [alI,alK] at H
         obtain ⟨rfl,rfl,rfl⟩:=H
         have UW:wc.cell? ⟨iQ,0,none⟩ = some (.int .i64 0):=(aX fq.out 0).trans rfl
         have UY:wc.cell? ⟨iQ,1,none⟩ = some (.int .i64 0):=(aX fq.out 1).trans rfl
         have UZ:wc.cell? ⟨iQ,2,none⟩ = some (.int .i64 0):=(aX fq.out 2).trans rfl
         have U0:=aJ fq.out 0
         have U1:=aJ fq.out 1
         have U2:=aJ fq.out 2
         go_wp2
         refine bodyPost_ret (results_cell_row rfl _ _ iQ 198 #[.int .i64 0,.int .i64 0,.int .i64 0] (0,0) _ rfl (by (with_reducible repeat (first | refine aG ?_ _ | refine aK ?_ | refine aA ?_ _));refine cO (cs:=#[.int .i64 0,.int .i64 0,.int .i64 0]) ?_ 2 _ rfl;(with_reducible repeat (first | refine aG ?_ _ | refine aK ?_ | refine aA ?_ _));refine cO (cs:=#[.int .i64 0,.int .i64 0,.int .i64 0]) ?_ 1 _ rfl;(with_reducible repeat (first | refine aG ?_ _ | refine aK ?_ | refine aA ?_ _));refine cO (cs:=#[.int .i64 0,.int .i64 0,.int .i64 0]) ?_ 0 _ rfl;(with_reducible repeat (first | refine aG ?_ _ | refine aK ?_ | refine aA ?_ _));exact fq.out) Tryz.underlying198 rfl (by kernel_rfl)) rfl ?_
         exact ⟨by first | rfl | (simp [aM,aN] <;> rfl) | (simp [*,aM,aN] <;> rfl),by repeat (first | (with_reducible first | exact HB.out | apply ak | apply ah | apply au | refine aT ?_ tZ.out) | exact HB.out)⟩
def bD.l0 : Nat → ByteArray → Int → Option (Bool)
 | 0,_,_=>none
 | k + 1,x0,x3=>if x3 < (x0.size:Int) then (if 0 ≤ x3 then (bD.l0 k x0 (wrap64 ((wrap64 (x3 + 1)) + (wrap64 (bt x0 x3))))) else (none)) else (if x3 = (x0.size:Int) then (some (decide (x3 > 0))) else (some false))
def bD.f (k:Nat) (a0:ByteArray):Option (Bool):=bD.l0 k a0 0
theorem bD.calls (k:Nat) (a0:ByteArray) (r:Bool) (w:World) (h:bD.f k a0 = some r) :
  Calls Tryz.prog 150 #[.string a0] w fun e w'=>e = .returned (.bool r) ∧ bA w w':=by
 have H:(bD.l0 k a0 0) = some r:=h
 clear h
 have H':=aj.mk H
 clear H
 go_enter Tryz.func150,Tryz.ntmps150
 go_wp2
 go_loopg [3] k (fun kq v3 w'=>∃ (qN:Int),v3 = .int .i64 qN ∧ aj (bD.l0 kq a0 qN = some r) ∧ aj (kq ≤ k) ∧ bA w w')
 case atStart=>exact ⟨(0),(by first | rfl | (simp;done) | (simp [*];done) | (simp [B.aY];done) | (simp [B.aZ];done)),H',⟨alC _⟩,by repeat (first | exact bA.refl _ | apply bA.step)⟩
 case round =>
  clear H'
  try clear c1
  obtain ⟨qN,rfl,HA,vV,⟨m1,rfl⟩⟩:=hrel
  cases gk with
  | zero=>exact absurd HA.out (by simp [bD.l0])
  | succ k1 =>
   have H:=HA.out
   clear HA
   simp only [bD.l0] at H
   by_cases c2:qN < (a0.size:Int)
   ·rw [alx c2] at H
    have yL:decide (qN < (a0.size:Int)) = true:=alz c2
    clear c2
    by_cases c3:0 ≤ qN
    ·rw [alx c3] at H
     have tJ:decide (0 ≤ qN) = true:=alz c3
     clear c3
     have H':=aj.mk H
     clear H
     have p4:0 ≤ (qN:Int):=alQ (by first | (with_reducible assumption) | assumption)
     have q4:qN < (a0.size:Int):=alQ (by first | (with_reducible assumption) | assumption)
     have hx4:=pW a0 qN
     replace p4:=alH p4
     replace q4:=alH q4
     go_wp2
     go_roundg k1
     case measure=>have:=vV.out;omega
     case rel=>exact ⟨(wrap64 ((wrap64 (qN + 1)) + (wrap64 (bt a0 qN)))),(by first | rfl | (simp;done) | (simp [*];done) | (simp [B.aY];done) | (simp [B.aZ];done)),H',⟨by have:=vV.out;omega⟩,by repeat (first | exact bA.refl _ | apply bA.step)⟩
    ·rw [aly c3] at H
     exact absurd H (by simp)
   ·rw [aly c2] at H
    have yL:decide (qN < (a0.size:Int)) = false:=alB c2
    clear c2
    by_cases c5:qN = (a0.size:Int)
    ·rw [alx c5] at H
     have rO:(qN == (a0.size:Int)) = true:=alW.mpr c5
     have xA:(qN != (a0.size:Int)) = false:=ami.mpr c5
     clear c5
     obtain rfl:=al0 H
     go_wp2
     go_ret
     exact ⟨by first | rfl | (simp;done) | (simp [*];done),by repeat (first | exact bA.refl _ | apply bA.step)⟩
    ·rw [aly c5] at H
     have rO:(qN == (a0.size:Int)) = false:=amd.mpr c5
     have xA:(qN != (a0.size:Int)) = true:=amf.mpr c5
     obtain rfl:=al0 H
     go_wp2
     go_ret
     exact ⟨by first | rfl | (simp;done) | (simp [*];done),by repeat (first | exact bA.refl _ | apply bA.step)⟩
def bg.l0 : Nat → ByteArray → Int → Int → ByteArray → Int → Int → Int → Int → Int → Option (ByteArray × Int)
 | 0,_,_,_,_,_,_,_,_,_=>none
 | k + 1,x0,x1,x2,x13,Ui,x15,U3,K7,K8=>if x15 < K7 then ((aV.f k x0 Ui).bind fun K9=>(if K9.2.2 = 0 then (if x13.size + K9.1.size ≤ 9223372036854775807 then (bg.l0 k x0 x1 x2 (x13 ++ K9.1) K9.2.1 (wrap64 (x15 + 1)) U3 K7 K8) else (none)) else (some ((⟨#[]⟩:ByteArray),4)))) else (if (wrap64 (Ui + K8)) = (wrap64 (x1 + x2)) then (if 0 ≤ Ui then (if Ui ≤ (wrap64 (x1 + x2)) then (if (wrap64 (x1 + x2)) ≤ (x0.size:Int) then (if x13.size + (x0.extract (Ui:Int).toNat ((wrap64 (x1 + x2)):Int).toNat).size ≤ 9223372036854775807 then (if ((x13 ++ (x0.extract (Ui:Int).toNat ((wrap64 (x1 + x2)):Int).toNat)).size:Int) > 65535 then (some ((⟨#[]⟩:ByteArray),4)) else (some (x13 ++ (x0.extract (Ui:Int).toNat ((wrap64 (x1 + x2)):Int).toNat),0))) else (none)) else (none)) else (none)) else (none)) else (some ((⟨#[]⟩:ByteArray),4)))
def bg.f (k:Nat) (a0:ByteArray) (a1:Int) (a2:Int) (a3:Int):Option (ByteArray × Int):=(bH.f a0 a1 a2).bind fun mR=>(if mR.2 = true then ((aI.f k a3).bind fun fQ=>(if (fQ.1 == 0 && (fQ.2.1 == 0 && (fQ.2.2 == 0))) = true then (if a3 = 16 then ((bD.f k mR.1).bind fun t173=>(if t173 = true then (if (mR.1.size:Int) > 65535 then (some ((⟨#[]⟩:ByteArray),4)) else (some (mR.1,0))) else (some ((⟨#[]⟩:ByteArray),4)))) else (if (mR.1.size:Int) > 65535 then (some ((⟨#[]⟩:ByteArray),4)) else (some (mR.1,0)))) else (if fQ.1 > a2 then (some ((⟨#[]⟩:ByteArray),4)) else (if 0 ≤ fQ.1 then (if fQ.1 ≤ (mR.1.size:Int) then (bg.l0 k a0 a1 a2 (mR.1.extract 0 (fQ.1:Int).toNat) (wrap64 (a1 + fQ.1)) 0 fQ.1 fQ.2.1 fQ.2.2) else (none)) else (none))))) else (some ((⟨#[]⟩:ByteArray),2)))
theorem bg.calls (k:Nat) (a0:ByteArray) (a1:Int) (a2:Int) (a3:Int) (r1:ByteArray) (r2:Int) (w:World) (h:bg.f k a0 a1 a2 a3 = some (r1,r2)) :
  Calls Tryz.prog 138 #[.string a0,.int .i64 a1,.int .i64 a2,.int .i64 a3] w fun e w'=>e = .returned (.tuple #[.string r1,.int .i64 r2]) ∧ Below w.heap.size w w':=by
 have QM:=Tryz.underlying198
 have HB:=aj.mk (Below.refl w.heap.size w)
 have H:((bH.f a0 a1 a2).bind fun mR=>(if mR.2 = true then ((aI.f k a3).bind fun fQ=>(if (fQ.1 == 0 && (fQ.2.1 == 0 && (fQ.2.2 == 0))) = true then (if a3 = 16 then ((bD.f k mR.1).bind fun t173=>(if t173 = true then (if (mR.1.size:Int) > 65535 then (some ((⟨#[]⟩:ByteArray),4)) else (some (mR.1,0))) else (some ((⟨#[]⟩:ByteArray),4)))) else (if (mR.1.size:Int) > 65535 then (some ((⟨#[]⟩:ByteArray),4)) else (some (mR.1,0)))) else (if fQ.1 > a2 then (some ((⟨#[]⟩:ByteArray),4)) else (if 0 ≤ fQ.1 then (if fQ.1 ≤ (mR.1.size:Int) then (bg.l0 k a0 a1 a2 (mR.1.extract 0 (fQ.1:Int).toNat) (wrap64 (a1 + fQ.1)) 0 fQ.1 fQ.2.1 fQ.2.2) else (none)) else (none))))) else (some ((⟨#[]⟩:ByteArray),2)))) = some (r1,r2):=h
 clear h
 replace H:=zbm H
 obtain ⟨⟨t167,t168⟩,WL,H⟩:=H
 replace H:(if t168 = true then ((aI.f k a3).bind fun fQ=>(if (fQ.1 == 0 && (fQ.2.1 == 0 && (fQ.2.2 == 0))) = true then (if a3 = 16 then ((bD.f k t167).bind fun t173=>(if t173 = true then (if (t167.size:Int) > 65535 then (some ((⟨#[]⟩:ByteArray),4)) else (some (t167,0))) else (some ((⟨#[]⟩:ByteArray),4)))) else (if (t167.size:Int) > 65535 then (some ((⟨#[]⟩:ByteArray),4)) else (some (t167,0)))) else (if fQ.1 > a2 then (some ((⟨#[]⟩:ByteArray),4)) else (if 0 ≤ fQ.1 then (if fQ.1 ≤ (t167.size:Int) then (bg.l0 k a0 a1 a2 (t167.extract 0 (fQ.1:Int).toNat) (wrap64 (a1 + fQ.1)) 0 fQ.1 fQ.2.1 fQ.2.2) else (none)) else (none))))) else (some ((⟨#[]⟩:ByteArray),2))) = some (r1,r2):=H
 have A5:=aj.mk WL
 clear WL
 by_cases c6:t168 = true
 ·subst c6
  have H1:((aI.f k a3).bind fun fQ=>(if (fQ.1 == 0 && (fQ.2.1 == 0 && (fQ.2.2 == 0))) = true then (if a3 = 16 then ((bD.f k t167).bind fun t173=>(if t173 = true then (if (t167.size:Int) > 65535 then (some ((⟨#[]⟩:ByteArray),4)) else (some (t167,0))) else (some ((⟨#[]⟩:ByteArray),4)))) else (if (t167.size:Int) > 65535 then (some ((⟨#[]⟩:ByteArray),4)) else (some (t167,0)))) else (if fQ.1 > a2 then (some ((⟨#[]⟩:ByteArray),4)) else (if 0 ≤ fQ.1 then (if fQ.1 ≤ (t167.size:Int) then (bg.l0 k a0 a1 a2 (t167.extract 0 (fQ.1:Int).toNat) (wrap64 (a1 + fQ.1)) 0 fQ.1 fQ.2.1 fQ.2.2) else (none)) else (none))))) = some (r1,r2):=by rw [alx rfl] at H;exact H
  clear H
  have H:=H1
  clear H1
  replace H:=zbm H
  obtain ⟨⟨jm,lZ,t171⟩,A70,H⟩:=H
  replace H:(if (jm == 0 && (lZ == 0 && (t171 == 0))) = true then (if a3 = 16 then ((bD.f k t167).bind fun t173=>(if t173 = true then (if (t167.size:Int) > 65535 then (some ((⟨#[]⟩:ByteArray),4)) else (some (t167,0))) else (some ((⟨#[]⟩:ByteArray),4)))) else (if (t167.size:Int) > 65535 then (some ((⟨#[]⟩:ByteArray),4)) else (some (t167,0)))) else (if jm > a2 then (some ((⟨#[]⟩:ByteArray),4)) else (if 0 ≤ jm then (if jm ≤ (t167.size:Int) then (bg.l0 k a0 a1 a2 (t167.extract 0 (jm:Int).toNat) (wrap64 (a1 + jm)) 0 jm lZ t171) else (none)) else (none)))) = some (r1,r2):=H
  have A7:=aj.mk A70
  clear A70
  by_cases c8:(jm == 0 && (lZ == 0 && (t171 == 0))) = true
  ·rw [alx c8] at H
   have uE:(jm == 0 && (lZ == 0 && (t171 == 0))) = true:=c8
   (try (have uF:decide (jm = 0 && (lZ == 0 && (t171 == 0))) = true:=by simpa using c8))
   (try (have Qw:(jm == 0 && (lZ == 0 && (t171 == 0))) = true:=by simpa using c8))
   clear c8
   by_cases c9:a3 = 16
   ·rw [alx c9] at H
    have vW:(a3 == 16) = true:=alW.mpr c9
    have GQ:(a3 != 16) = false:=ami.mpr c9
    clear c9
    replace H:=zbm H
    obtain ⟨t173,QE,H⟩:=H
    replace H:(if t173 = true then (if (t167.size:Int) > 65535 then (some ((⟨#[]⟩:ByteArray),4)) else (some (t167,0))) else (some ((⟨#[]⟩:ByteArray),4))) = some (r1,r2):=H
    have WE:=aj.mk QE
    clear QE
    by_cases c11:t173 = true
    ·subst c11
     have H1:(if (t167.size:Int) > 65535 then (some ((⟨#[]⟩:ByteArray),4)) else (some (t167,0))) = some (r1,r2):=by rw [alx rfl] at H;exact H
     clear H
     have H:=H1
     clear H1
     by_cases c12:(t167.size:Int) > 65535
     ·rw [alx c12] at H
      have vX:decide (65535 < (t167.size:Int)) = true:=alz c12
      have vY:decide (65535 < t167.size) = true:=alz (by omega)
      clear c12
      simp only [alI,alK] at H
      obtain ⟨rfl,rfl⟩:=H
      go_enter Tryz.func138,Tryz.ntmps138
      go_wp2_with (first | ((with_reducible refine aQ (f:=139) rfl ?_);refine bW (some 23) rfl rfl Tryz.func139 (by kernel_rfl) rfl #[.string a0,.int .i64 a1,.int .i64 a2] rfl (by (try simp only [alJ,alD,alE]) <;> rfl) ?_;(with_reducible refine (bH.calls a0 a1 a2 t167 true _ A5.out).mono ?_);rintro e w' ⟨rfl,⟨nd,rfl⟩⟩;refine ⟨_,rfl,?_⟩) | ((with_reducible refine aQ (f:=123) rfl ?_);refine bW (some 29) rfl rfl Tryz.func123 (by kernel_rfl) rfl #[.int .i64 a3] rfl (by (try simp only [alJ,alD,alE]) <;> rfl) ?_;(with_reducible refine (aI.calls k a3 jm lZ t171 _ A7.out).mono ?_);rintro e w13 ⟨rfl,hb⟩;refine ⟨_,rfl,?_⟩;have fJ:=aj.mk (bP (by repeat first | exact HB.out | apply ak | apply ah | apply au) hb);clear HB;have HB:=fJ;clear fJ;(try clear hb);(try clear hb2);(try clear hk);(try clear hi)) | (go_at_call 150;(with_reducible refine (bD.calls k t167 true _ WE.out).mono ?_);rintro e w' ⟨rfl,⟨nd,rfl⟩⟩))
      go_ret2
      exact ⟨by first | rfl | (simp [aM,aN] <;> rfl) | (simp [*,aM,aN] <;> rfl),by repeat (first | (with_reducible first | exact HB.out | apply ak | apply ah | apply au | refine aT ?_ qJ.out) | exact HB.out)⟩
     ·rw [aly c12] at H
      have vX:decide (65535 < (t167.size:Int)) = false:=alB c12
      have vY:decide (65535 < t167.size) = false:=alB (by omega)
      clear c12
      simp only [alI,alK] at H
      obtain ⟨rfl,rfl⟩:=H
      go_enter Tryz.func138,Tryz.ntmps138
      go_wp2_with (first | ((with_reducible refine aQ (f:=139) rfl ?_);refine bW (some 23) rfl rfl Tryz.func139 (by kernel_rfl) rfl #[.string a0,.int .i64 a1,.int .i64 a2] rfl (by (try simp only [alJ,alD,alE]) <;> rfl) ?_;(with_reducible refine (bH.calls a0 a1 a2 t167 true _ A5.out).mono ?_);rintro e w' ⟨rfl,⟨nd,rfl⟩⟩;refine ⟨_,rfl,?_⟩) | ((with_reducible refine aQ (f:=123) rfl ?_);refine bW (some 29) rfl rfl Tryz.func123 (by kernel_rfl) rfl #[.int .i64 a3] rfl (by (try simp only [alJ,alD,alE]) <;> rfl) ?_;(with_reducible refine (aI.calls k a3 jm lZ t171 _ A7.out).mono ?_);rintro e w16 ⟨rfl,hb⟩;refine ⟨_,rfl,?_⟩;have fJ:=aj.mk (bP (by repeat first | exact HB.out | apply ak | apply ah | apply au) hb);clear HB;have HB:=fJ;clear fJ;(try clear hb);(try clear hb2);(try clear hk);(try clear hi)) | (go_at_call 150;(with_reducible refine (bD.calls k t167 true _ WE.out).mono ?_);rintro e w' ⟨rfl,⟨nd,rfl⟩⟩))
      go_ret2
      exact ⟨by first | rfl | (simp [aM,aN] <;> rfl) | (simp [*,aM,aN] <;> rfl),by repeat (first | (with_reducible first | exact HB.out | apply ak | apply ah | apply au | refine aT ?_ qJ.out) | exact HB.out)⟩
    ·replace c11:=amg.mpr c11
     subst c11
     have H1:(some ((⟨#[]⟩:ByteArray),4)) = some (r1,r2):=by rw [aly (show ¬ (false = true) by decide)] at H;exact H
     clear H
     have H:=H1
     clear H1
     simp only [alI,alK] at H
     obtain ⟨rfl,rfl⟩:=H
     go_enter Tryz.func138,Tryz.ntmps138
     go_wp2_with (first | ((with_reducible refine aQ (f:=139) rfl ?_);refine bW (some 23) rfl rfl Tryz.func139 (by kernel_rfl) rfl #[.string a0,.int .i64 a1,.int .i64 a2] rfl (by (try simp only [alJ,alD,alE]) <;> rfl) ?_;(with_reducible refine (bH.calls a0 a1 a2 t167 true _ A5.out).mono ?_);rintro e w' ⟨rfl,⟨nd,rfl⟩⟩;refine ⟨_,rfl,?_⟩) | ((with_reducible refine aQ (f:=123) rfl ?_);refine bW (some 29) rfl rfl Tryz.func123 (by kernel_rfl) rfl #[.int .i64 a3] rfl (by (try simp only [alJ,alD,alE]) <;> rfl) ?_;(with_reducible refine (aI.calls k a3 jm lZ t171 _ A7.out).mono ?_);rintro e w19 ⟨rfl,hb⟩;refine ⟨_,rfl,?_⟩;have fJ:=aj.mk (bP (by repeat first | exact HB.out | apply ak | apply ah | apply au) hb);clear HB;have HB:=fJ;clear fJ;(try clear hb);(try clear hb2);(try clear hk);(try clear hi)) | (go_at_call 150;(with_reducible refine (bD.calls k t167 false _ WE.out).mono ?_);rintro e w' ⟨rfl,⟨nd,rfl⟩⟩))
     go_ret2
     exact ⟨by first | rfl | (simp [aM,aN] <;> rfl) | (simp [*,aM,aN] <;> rfl),by repeat (first | (with_reducible first | exact HB.out | apply ak | apply ah | apply au | refine aT ?_ qJ.out) | exact HB.out)⟩
   ·rw [aly c9] at H
    have vW:(a3 == 16) = false:=amd.mpr c9
    have GQ:(a3 != 16) = true:=amf.mpr c9
    by_cases EP:(t167.size:Int) > 65535
    ·rw [alx EP] at H
     have QW:decide (65535 < (t167.size:Int)) = true:=alz EP
     have QX:decide (65535 < t167.size) = true:=alz (by omega)
     clear EP
     simp only [alI,alK] at H
     obtain ⟨rfl,rfl⟩:=H
     go_enter Tryz.func138,Tryz.ntmps138
     go_wp2_with (first | ((with_reducible refine aQ (f:=139) rfl ?_);refine bW (some 23) rfl rfl Tryz.func139 (by kernel_rfl) rfl #[.string a0,.int .i64 a1,.int .i64 a2] rfl (by (try simp only [alJ,alD,alE]) <;> rfl) ?_;(with_reducible refine (bH.calls a0 a1 a2 t167 true _ A5.out).mono ?_);rintro e w' ⟨rfl,⟨nd,rfl⟩⟩;refine ⟨_,rfl,?_⟩) | ((with_reducible refine aQ (f:=123) rfl ?_);refine bW (some 29) rfl rfl Tryz.func123 (by kernel_rfl) rfl #[.int .i64 a3] rfl (by (try simp only [alJ,alD,alE]) <;> rfl) ?_;(with_reducible refine (aI.calls k a3 jm lZ t171 _ A7.out).mono ?_);rintro e w23 ⟨rfl,hb⟩;refine ⟨_,rfl,?_⟩;have fJ:=aj.mk (bP (by repeat first | exact HB.out | apply ak | apply ah | apply au) hb);clear HB;have HB:=fJ;clear fJ;(try clear hb);(try clear hb2);(try clear hk);(try clear hi)))
     go_ret2
     exact ⟨by first | rfl | (simp [aM,aN] <;> rfl) | (simp [*,aM,aN] <;> rfl),by repeat (first | (with_reducible first | exact HB.out | apply ak | apply ah | apply au | refine aT ?_ qJ.out) | exact HB.out)⟩
    ·rw [aly EP] at H
     have QW:decide (65535 < (t167.size:Int)) = false:=alB EP
     have QX:decide (65535 < t167.size) = false:=alB (by omega)
     clear EP
     simp only [alI,alK] at H
     obtain ⟨rfl,rfl⟩:=H
     go_enter Tryz.func138,Tryz.ntmps138
     go_wp2_with (first | ((with_reducible refine aQ (f:=139) rfl ?_);refine bW (some 23) rfl rfl Tryz.func139 (by kernel_rfl) rfl #[.string a0,.int .i64 a1,.int .i64 a2] rfl (by (try simp only [alJ,alD,alE]) <;> rfl) ?_;(with_reducible refine (bH.calls a0 a1 a2 t167 true _ A5.out).mono ?_);rintro e w' ⟨rfl,⟨nd,rfl⟩⟩;refine ⟨_,rfl,?_⟩) | ((with_reducible refine aQ (f:=123) rfl ?_);refine bW (some 29) rfl rfl Tryz.func123 (by kernel_rfl) rfl #[.int .i64 a3] rfl (by (try simp only [alJ,alD,alE]) <;> rfl) ?_;(with_reducible refine (aI.calls k a3 jm lZ t171 _ A7.out).mono ?_);rintro e w26 ⟨rfl,hb⟩;refine ⟨_,rfl,?_⟩;have fJ:=aj.mk (bP (by repeat first | exact HB.out | apply ak | apply ah | apply au) hb);clear HB;have HB:=fJ;clear fJ;(try clear hb);(try clear hb2);(try clear hk);(try clear hi)))
     go_ret2
     exact ⟨by first | rfl | (simp [aM,aN] <;> rfl) | (simp [*,aM,aN] <;> rfl),by repeat (first | (with_reducible first | exact HB.out | apply ak | apply ah | apply au | refine aT ?_ qJ.out) | exact HB.out)⟩
  ·rw [aly c8] at H
   have uE:(jm == 0 && (lZ == 0 && (t171 == 0))) = false:=by simpa using c8
   (try (have uF:decide (jm = 0 && (lZ == 0 && (t171 == 0))) = false:=by simpa using c8))
   (try (have Qw:(jm == 0 && (lZ == 0 && (t171 == 0))) = false:=by simpa using c8))
   (try (have ac2:¬ (jm = 0 && (lZ == 0 && (t171 == 0))):=by simpa using c8))
   clear c8
   by_cases Zm:jm > a2
   ·rw [alx Zm] at H
    have WM:decide (a2 < jm) = true:=alz Zm
    clear Zm
    simp only [alI,alK] at H
    obtain ⟨rfl,rfl⟩:=H
    go_enter Tryz.func138,Tryz.ntmps138
    go_wp2_with (first | ((with_reducible refine aQ (f:=139) rfl ?_);refine bW (some 23) rfl rfl Tryz.func139 (by kernel_rfl) rfl #[.string a0,.int .i64 a1,.int .i64 a2] rfl (by (try simp only [alJ,alD,alE]) <;> rfl) ?_;(with_reducible refine (bH.calls a0 a1 a2 t167 true _ A5.out).mono ?_);rintro e w' ⟨rfl,⟨nd,rfl⟩⟩;refine ⟨_,rfl,?_⟩) | ((with_reducible refine aQ (f:=123) rfl ?_);refine bW (some 29) rfl rfl Tryz.func123 (by kernel_rfl) rfl #[.int .i64 a3] rfl (by (try simp only [alJ,alD,alE]) <;> rfl) ?_;(with_reducible refine (aI.calls k a3 jm lZ t171 _ A7.out).mono ?_);rintro e w30 ⟨rfl,hb⟩;refine ⟨_,rfl,?_⟩;have fJ:=aj.mk (bP (by repeat first | exact HB.out | apply ak | apply ah | apply au) hb);clear HB;have HB:=fJ;clear fJ;(try clear hb);(try clear hb2);(try clear hk);(try clear hi)))
    go_ret2
    exact ⟨by first | rfl | (simp [aM,aN] <;> rfl) | (simp [*,aM,aN] <;> rfl),by repeat (first | (with_reducible first | exact HB.out | apply ak | apply ah | apply au | refine aT ?_ qJ.out) | exact HB.out)⟩
   ·rw [aly Zm] at H
    have WM:decide (a2 < jm) = false:=alB Zm
    clear Zm
    by_cases c33:0 ≤ jm
    ·rw [alx c33] at H
     have adQ:=alH c33
     have adR:decide (0 ≤ jm) = true:=alz c33
     clear c33
     by_cases c34:jm ≤ (t167.size:Int)
     ·rw [alx c34] at H
      have adS:=alH c34
      have adT:decide (jm ≤ (t167.size:Int)) = true:=alz c34
      clear c34
      have H':=aj.mk H
      clear H
      go_enter Tryz.func138,Tryz.ntmps138
      go_wp2_with (first | ((with_reducible refine aQ (f:=139) rfl ?_);refine bW (some 23) rfl rfl Tryz.func139 (by kernel_rfl) rfl #[.string a0,.int .i64 a1,.int .i64 a2] rfl (by (try simp only [alJ,alD,alE]) <;> rfl) ?_;(with_reducible refine (bH.calls a0 a1 a2 t167 true _ A5.out).mono ?_);rintro e w' ⟨rfl,⟨nd,rfl⟩⟩;refine ⟨_,rfl,?_⟩) | ((with_reducible refine aQ (f:=123) rfl ?_);refine bW (some 29) rfl rfl Tryz.func123 (by kernel_rfl) rfl #[.int .i64 a3] rfl (by (try simp only [alJ,alD,alE]) <;> rfl) ?_;(with_reducible refine (aI.calls k a3 jm lZ t171 _ A7.out).mono ?_);rintro e w35 ⟨rfl,hb⟩;refine ⟨_,rfl,?_⟩;have fJ:=aj.mk (bP (by repeat first | exact HB.out | apply ak | apply ah | apply au) hb);clear HB;have HB:=fJ;clear fJ;(try clear hb);(try clear hb2);(try clear hk);(try clear hi)) | ((with_reducible refine j3 (N:=12) rfl ?_);(try (refine Av (by rfl) ?_;dsimp only));refine jh ?hg (N:=12) ?hd (cs:=#[.int .i64 0,.int .i64 0,.int .i64 0]) (t:=198) ?hr ?_;(case hd=>rfl);(case hg=>rfl);(case hr=>first | (go_simp;done) | (go_simp;rfl));intro kR hg w36 kQ hb;have fJ:=aj.mk (bP (by repeat first | exact HB.out | apply ak | apply ah | apply au) hb);have jr:=aj.mk (kQ);have l6:=aj.mk ((by rw [hg];exact (cB (by repeat first | exact HB.out | apply ak | apply ah | apply au)):w.heap.size ≤ kR));have ni:=aj.mk ((by rw [hg];exact (cB (by repeat first | exact HB.out | apply ak | apply ah | apply au)):w.heap.size ≤ kR));clear HB;have HB:=fJ;have gV:=jr;have akO:=l6;have qJ:=ni;clear fJ jr l6 ni;clear hb kQ hg;have U4:w36.cell? ⟨kR,0,none⟩ = some (.int .i64 0):=(aX gV.out 0).trans rfl;have U5:w36.cell? ⟨kR,1,none⟩ = some (.int .i64 0):=(aX gV.out 1).trans rfl;have U6:w36.cell? ⟨kR,2,none⟩ = some (.int .i64 0):=(aX gV.out 2).trans rfl;have U7:=aJ gV.out 0;have U8:=aJ gV.out 1;have U9:=aJ gV.out 2))
      go_loopg [13,14,15] k (fun kq v13 v14 v15 w'=>∃ (dZ:ByteArray) (bX:Int) (yh:Int),v13 = .string dZ ∧ v14 = .int .i64 bX ∧ v15 = .int .i64 yh ∧ aj (bg.l0 kq a0 a1 a2 dZ bX yh jm lZ t171 = some (r1,r2)) ∧ aj (kq ≤ k) ∧ aj (w'.heap[kR]? = some (.cells #[.int .i64 jm,.int .i64 lZ,.int .i64 t171] 198 (0,0))) ∧ aj (Below w.heap.size w w'))
      case atStart=>exact ⟨(t167.extract 0 (jm:Int).toNat),(wrap64 (a1 + jm)),(0),(by first | rfl | (simp;done) | (simp [*];done) | (simp [B.aY];done) | (simp [B.aZ];done)),(by first | rfl | (simp;done) | (simp [*];done) | (simp [B.aY];done) | (simp [B.aZ];done)),(by first | rfl | (simp;done) | (simp [*];done) | (simp [B.aY];done) | (simp [B.aZ];done)),H',⟨alC _⟩,⟨by (with_reducible repeat (first | refine aG ?_ _ | refine aK ?_ | refine aA ?_ _));refine cO (cs:=#[.int .i64 jm,.int .i64 lZ,.int .i64 0]) ?_ 2 _ rfl;(with_reducible repeat (first | refine aG ?_ _ | refine aK ?_ | refine aA ?_ _));refine cO (cs:=#[.int .i64 jm,.int .i64 0,.int .i64 0]) ?_ 1 _ rfl;(with_reducible repeat (first | refine aG ?_ _ | refine aK ?_ | refine aA ?_ _));refine cO (cs:=#[.int .i64 0,.int .i64 0,.int .i64 0]) ?_ 0 _ rfl;(with_reducible repeat (first | refine aG ?_ _ | refine aK ?_ | refine aA ?_ _));exact gV.out⟩,⟨by repeat (first | (with_reducible first | exact HB.out | apply ak | apply ah | apply au | refine aT ?_ qJ.out) | exact HB.out)⟩⟩
      case round =>
       clear H'
       try clear c1
       try clear c2
       try clear p2
       try clear c3
       try clear c6
       try clear p6
       try clear c8
       try clear uE
       try clear uF
       try clear Qw
       try clear c9
       try clear vW
       try clear GQ
       try clear c11
       try clear c12
       try clear vX
       try clear vY
       try clear c13
       try clear EP
       try clear QW
       try clear QX
       try clear Zm
       try clear WM
       try clear c33
       try clear adQ
       try clear adR
       try clear c34
       try clear adS
       try clear adT
       try clear KY
       try clear KZ
       try clear K3
       try clear UW
       try clear UY
       try clear UZ
       try clear agr
       try clear ags
       try clear agt
       try clear agu
       try clear agv
       try clear agw
       try clear agx
       try clear agy
       try clear agz
       try clear UE
       try clear UF
       try clear UG
       try clear U4
       try clear U5
       try clear U6
       try clear K4
       try clear K5
       try clear K6
       try clear U0
       try clear U1
       try clear U2
       try clear agA
       try clear agB
       try clear agC
       try clear agD
       try clear agE
       try clear agF
       try clear agG
       try clear agH
       try clear agI
       try clear UH
       try clear UJ
       try clear UK
       try clear U7
       try clear U8
       try clear U9
       obtain ⟨dZ,bX,yh,rfl,rfl,rfl,HA,vV,gV,HB⟩:=hrel
       cases gk with
       | zero=>exact absurd HA.out (by simp [bg.l0])
       | succ k1 =>
        have H:=HA.out
        clear HA
        simp only [bg.l0] at H
        by_cases FT:yh < lZ
        ·rw [alx FT] at H
         have WK:decide (yh < lZ) = true:=alz FT
         clear FT
         replace H:=zbm H
         obtain ⟨⟨G9,t175,He⟩,adU,H⟩:=H
         replace H:(if He = 0 then (if dZ.size + G9.size ≤ 9223372036854775807 then (bg.l0 k1 a0 a1 a2 (dZ ++ G9) t175 (wrap64 (yh + 1)) jm lZ t171) else (none)) else (some ((⟨#[]⟩:ByteArray),4))) = some (r1,r2):=H
         have A39:=aj.mk adU
         clear adU
         by_cases c40:He = 0
         ·rw [alx c40] at H
          have adV:(He == 0) = true:=alW.mpr c40
          have adW:(He != 0) = false:=ami.mpr c40
          clear c40
          by_cases c41:dZ.size + G9.size ≤ 9223372036854775807
          ·rw [alx c41] at H
           have akP:=alH c41
           have akQ:decide (dZ.size + G9.size ≤ 9223372036854775807) = true:=alz c41
           try have akR:(9223372036854775807 < dZ.size + G9.size) = False:=eq_false (amy.2 c41)
           have H':=aj.mk H
           clear H
           have UL:wr.cell? ⟨kR,0,none⟩ = some (.int .i64 jm):=(aX gV.out 0).trans rfl
           have UM:wr.cell? ⟨kR,1,none⟩ = some (.int .i64 lZ):=(aX gV.out 1).trans rfl
           have UN:wr.cell? ⟨kR,2,none⟩ = some (.int .i64 t171):=(aX gV.out 2).trans rfl
           have UO:=aJ gV.out 0
           have UQ:=aJ gV.out 1
           have UR:=aJ gV.out 2
           go_wp2_with (first | ((with_reducible refine aQ (f:=124) rfl ?_);refine bW (some 67) rfl rfl Tryz.func124 (by kernel_rfl) rfl #[.string a0,.int .i64 bX] rfl (by (try simp only [alJ,alD,alE]) <;> rfl) ?_;(with_reducible refine (aV.calls k1 a0 bX G9 t175 He _ A39.out).mono ?_);rintro e w' ⟨rfl,⟨nd,rfl⟩⟩;refine ⟨_,rfl,?_⟩))
           go_roundg k1
           case measure=>have:=vV.out;omega
           case rel=>exact ⟨(dZ ++ G9),(t175),(wrap64 (yh + 1)),(by first | rfl | (simp;done) | (simp [*];done) | (simp [B.aY];done) | (simp [B.aZ];done)),(by first | rfl | (simp;done) | (simp [*];done) | (simp [B.aY];done) | (simp [B.aZ];done)),(by first | rfl | (simp;done) | (simp [*];done) | (simp [B.aY];done) | (simp [B.aZ];done)),H',⟨by have:=vV.out;omega⟩,⟨by (with_reducible repeat (first | refine aG ?_ _ | refine aK ?_ | refine aA ?_ _));exact gV.out⟩,⟨by repeat (first | (with_reducible first | exact HB.out | apply ak | apply ah | apply au | refine aT ?_ qJ.out) | exact HB.out)⟩⟩
          ·rw [aly c41] at H
           exact absurd H (by simp)
         ·rw [aly c40] at H
          have adV:(He == 0) = false:=amd.mpr c40
          have adW:(He != 0) = true:=amf.mpr c40
          simp only [alI,alK] at H
          obtain ⟨rfl,rfl⟩:=H
          have agJ:wr.cell? ⟨kR,0,none⟩ = some (.int .i64 jm):=(aX gV.out 0).trans rfl
          have agK:wr.cell? ⟨kR,1,none⟩ = some (.int .i64 lZ):=(aX gV.out 1).trans rfl
          have agL:wr.cell? ⟨kR,2,none⟩ = some (.int .i64 t171):=(aX gV.out 2).trans rfl
          have agM:=aJ gV.out 0
          have agN:=aJ gV.out 1
          have agO:=aJ gV.out 2
          go_wp2_with (first | ((with_reducible refine aQ (f:=124) rfl ?_);refine bW (some 67) rfl rfl Tryz.func124 (by kernel_rfl) rfl #[.string a0,.int .i64 bX] rfl (by (try simp only [alJ,alD,alE]) <;> rfl) ?_;(with_reducible refine (aV.calls k1 a0 bX G9 t175 He _ A39.out).mono ?_);rintro e w' ⟨rfl,⟨nd,rfl⟩⟩;refine ⟨_,rfl,?_⟩))
          go_ret2
          exact ⟨by first | rfl | (simp [aM,aN] <;> rfl) | (simp [*,aM,aN] <;> rfl),by repeat (first | (with_reducible first | exact HB.out | apply ak | apply ah | apply au | refine aT ?_ qJ.out) | exact HB.out)⟩
        ·rw [aly FT] at H
         have WK:decide (yh < lZ) = false:=alB FT
         clear FT
         by_cases QY:(wrap64 (bX + t171)) = (wrap64 (a1 + a2))
         ·rw [alx QY] at H
          have adX:((wrap64 (bX + t171)) == (wrap64 (a1 + a2))) = true:=alW.mpr QY
          have adY:((wrap64 (bX + t171)) != (wrap64 (a1 + a2))) = false:=ami.mpr QY
          (try (have adZ:(((bX + t171)) == ((a1 + a2))) = true:=by have h_:((wrap64 (bX + t171)) == (wrap64 (a1 + a2))) = true:=alW.mpr QY;rw [B.iC (by omega) (by omega)] at h_;rw [B.iC (by omega) (by omega)] at h_;exact h_))
          (try (have ad1:(((bX + t171)) != ((a1 + a2))) = false:=by have h_:((wrap64 (bX + t171)) != (wrap64 (a1 + a2))) = false:=ami.mpr QY;rw [B.iC (by omega) (by omega)] at h_;rw [B.iC (by omega) (by omega)] at h_;exact h_))
          clear QY
          by_cases Rk:0 ≤ bX
          ·rw [alx Rk] at H
           have akS:=alH Rk
           have akT:decide (0 ≤ bX) = true:=alz Rk
           clear Rk
           by_cases c46:bX ≤ (wrap64 (a1 + a2))
           ·rw [alx c46] at H
            have akU:=alH c46
            have akV:decide (bX ≤ (wrap64 (a1 + a2))) = true:=alz c46
            by_cases M9:(wrap64 (a1 + a2)) ≤ (a0.size:Int)
            ·rw [alx M9] at H
             have akW:=alH M9
             have akX:decide ((wrap64 (a1 + a2)) ≤ (a0.size:Int)) = true:=alz M9
             by_cases Rj:dZ.size + (a0.extract (bX:Int).toNat ((wrap64 (a1 + a2)):Int).toNat).size ≤ 9223372036854775807
             ·rw [alx Rj] at H
              have akY:=alH Rj
              have akZ:decide (dZ.size + (a0.extract (bX:Int).toNat ((wrap64 (a1 + a2)):Int).toNat).size ≤ 9223372036854775807) = true:=alz Rj
              try have ak0:(9223372036854775807 < dZ.size + (a0.extract (bX:Int).toNat ((wrap64 (a1 + a2)):Int).toNat).size) = False:=eq_false (amy.2 Rj)
              by_cases c49:((dZ ++ (a0.extract (bX:Int).toNat ((wrap64 (a1 + a2)):Int).toNat)).size:Int) > 65535
              ·rw [alx c49] at H
               have ad2:decide (65535 < ((dZ ++ (a0.extract (bX:Int).toNat ((wrap64 (a1 + a2)):Int).toNat)).size:Int)) = true:=alz c49
               have ad3:decide (65535 < (dZ ++ (a0.extract (bX:Int).toNat ((wrap64 (a1 + a2)):Int).toNat)).size) = true:=alz (by omega)
               (try (have ad4:decide (65535 < ((dZ.size:Int) + ((a0.extract (bX:Int).toNat ((wrap64 (a1 + a2)):Int).toNat).size:Int))) = true:=by have h_:decide (65535 < ((dZ ++ (a0.extract (bX:Int).toNat ((wrap64 (a1 + a2)):Int).toNat)).size:Int)) = true:=alz c49;rw [show ((dZ ++ (a0.extract (bX:Int).toNat ((wrap64 (a1 + a2)):Int).toNat)).size:Int) = ((dZ.size:Int) + ((a0.extract (bX:Int).toNat ((wrap64 (a1 + a2)):Int).toNat).size:Int)) from by (simp only [alO,Int.natCast_add];first | done | rfl)] at h_;(first | exact h_ | (simp only [anf] at h_;exact h_))))
               (try (have ad5:decide (65535 < ((dZ.size:Int) + ((((wrap64 (a1 + a2)):Int).toNat - (bX:Int).toNat:Nat):Int))) = true:=by have h_:decide (65535 < ((dZ ++ (a0.extract (bX:Int).toNat ((wrap64 (a1 + a2)):Int).toNat)).size:Int)) = true:=alz c49;rw [show ((dZ ++ (a0.extract (bX:Int).toNat ((wrap64 (a1 + a2)):Int).toNat)).size:Int) = ((dZ.size:Int) + ((a0.extract (bX:Int).toNat ((wrap64 (a1 + a2)):Int).toNat).size:Int)) from by (simp only [alO,Int.natCast_add];first | done | rfl)] at h_;rw [show ((a0.extract (bX:Int).toNat ((wrap64 (a1 + a2)):Int).toNat).size:Int) = ((((wrap64 (a1 + a2)):Int).toNat - (bX:Int).toNat:Nat):Int) from by (have h1_:(wrap64 (a1 + a2)) ≤ (a0.size:Int):=alQ (by assumption);rw [al1];omega)] at h_;exact h_))
               (try (have ad6:decide (65535 < ((dZ ++ (a0.extract (bX:Int).toNat (((a1 + a2)):Int).toNat)).size:Int)) = true:=by have h_:decide (65535 < ((dZ ++ (a0.extract (bX:Int).toNat ((wrap64 (a1 + a2)):Int).toNat)).size:Int)) = true:=alz c49;rw [B.iC (by omega) (by omega)] at h_;exact h_))
               (try (have ad7:decide (65535 < (dZ ++ (a0.extract (bX:Int).toNat (((a1 + a2)):Int).toNat)).size) = true:=by have h_:decide (65535 < (dZ ++ (a0.extract (bX:Int).toNat ((wrap64 (a1 + a2)):Int).toNat)).size) = true:=alz (by omega);rw [B.iC (by omega) (by omega)] at h_;exact h_))
               (try (have ad8:decide (65535 < ((dZ.size:Int) + ((a0.extract (bX:Int).toNat (((a1 + a2)):Int).toNat).size:Int))) = true:=by have h_:decide (65535 < ((dZ.size:Int) + ((a0.extract (bX:Int).toNat ((wrap64 (a1 + a2)):Int).toNat).size:Int))) = true:=by have h_:decide (65535 < ((dZ ++ (a0.extract (bX:Int).toNat ((wrap64 (a1 + a2)):Int).toNat)).size:Int)) = true:=alz c49;rw [show ((dZ ++ (a0.extract (bX:Int).toNat ((wrap64 (a1 + a2)):Int).toNat)).size:Int) = ((dZ.size:Int) + ((a0.extract (bX:Int).toNat ((wrap64 (a1 + a2)):Int).toNat).size:Int)) from by (simp only [alO,Int.natCast_add];first | done | rfl)] at h_;(first | exact h_ | (simp only [anf] at h_;exact h_));rw [B.iC (by omega) (by omega)] at h_;exact h_))
               (try (have ad9:decide (65535 < ((dZ.size:Int) + (((((a1 + a2)):Int).toNat - (bX:Int).toNat:Nat):Int))) = true:=by have h_:decide (65535 < ((dZ.size:Int) + ((((wrap64 (a1 + a2)):Int).toNat - (bX:Int).toNat:Nat):Int))) = true:=by have h_:decide (65535 < ((dZ ++ (a0.extract (bX:Int).toNat ((wrap64 (a1 + a2)):Int).toNat)).size:Int)) = true:=alz c49;rw [show ((dZ ++ (a0.extract (bX:Int).toNat ((wrap64 (a1 + a2)):Int).toNat)).size:Int) = ((dZ.size:Int) + ((a0.extract (bX:Int).toNat ((wrap64 (a1 + a2)):Int).toNat).size:Int)) from by (simp only [alO,Int.natCast_add];first | done | rfl)] at h_;rw [show ((a0.extract (bX:Int).toNat ((wrap64 (a1 + a2)):Int).toNat).size:Int) = ((((wrap64 (a1 + a2)):Int).toNat - (bX:Int).toNat:Nat):Int) from by (have h1_:(wrap64 (a1 + a2)) ≤ (a0.size:Int):=alQ (by assumption);rw [al1];omega)] at h_;exact h_;rw [B.iC (by omega) (by omega)] at h_;exact h_))
               clear c49
               simp only [alI,alK] at H
               obtain ⟨rfl,rfl⟩:=H
               have agP:wr.cell? ⟨kR,0,none⟩ = some (.int .i64 jm):=(aX gV.out 0).trans rfl
               have agQ:wr.cell? ⟨kR,1,none⟩ = some (.int .i64 lZ):=(aX gV.out 1).trans rfl
               have agR:wr.cell? ⟨kR,2,none⟩ = some (.int .i64 t171):=(aX gV.out 2).trans rfl
               have agS:=aJ gV.out 0
               have agT:=aJ gV.out 1
               have agU:=aJ gV.out 2
               go_wp2
               go_ret2
               exact ⟨by first | rfl | (simp [aM,aN] <;> rfl) | (simp [*,aM,aN] <;> rfl),by repeat (first | (with_reducible first | exact HB.out | apply ak | apply ah | apply au | refine aT ?_ qJ.out) | exact HB.out)⟩
              ·rw [aly c49] at H
               have ad2:decide (65535 < ((dZ ++ (a0.extract (bX:Int).toNat ((wrap64 (a1 + a2)):Int).toNat)).size:Int)) = false:=alB c49
               have ad3:decide (65535 < (dZ ++ (a0.extract (bX:Int).toNat ((wrap64 (a1 + a2)):Int).toNat)).size) = false:=alB (by omega)
               (try (have ad4:decide (65535 < ((dZ.size:Int) + ((a0.extract (bX:Int).toNat ((wrap64 (a1 + a2)):Int).toNat).size:Int))) = false:=by have h_:decide (65535 < ((dZ ++ (a0.extract (bX:Int).toNat ((wrap64 (a1 + a2)):Int).toNat)).size:Int)) = false:=alB c49;rw [show ((dZ ++ (a0.extract (bX:Int).toNat ((wrap64 (a1 + a2)):Int).toNat)).size:Int) = ((dZ.size:Int) + ((a0.extract (bX:Int).toNat ((wrap64 (a1 + a2)):Int).toNat).size:Int)) from by (simp only [alO,Int.natCast_add];first | done | rfl)] at h_;(first | exact h_ | (simp only [anf] at h_;exact h_))))
               (try (have ad5:decide (65535 < ((dZ.size:Int) + ((((wrap64 (a1 + a2)):Int).toNat - (bX:Int).toNat:Nat):Int))) = false:=by have h_:decide (65535 < ((dZ ++ (a0.extract (bX:Int).toNat ((wrap64 (a1 + a2)):Int).toNat)).size:Int)) = false:=alB c49;rw [show ((dZ ++ (a0.extract (bX:Int).toNat ((wrap64 (a1 + a2)):Int).toNat)).size:Int) = ((dZ.size:Int) + ((a0.extract (bX:Int).toNat ((wrap64 (a1 + a2)):Int).toNat).size:Int)) from by (simp only [alO,Int.natCast_add];first | done | rfl)] at h_;rw [show ((a0.extract (bX:Int).toNat ((wrap64 (a1 + a2)):Int).toNat).size:Int) = ((((wrap64 (a1 + a2)):Int).toNat - (bX:Int).toNat:Nat):Int) from by (have h1_:(wrap64 (a1 + a2)) ≤ (a0.size:Int):=alQ (by assumption);rw [al1];omega)] at h_;exact h_))
               (try (have ad6:decide (65535 < ((dZ ++ (a0.extract (bX:Int).toNat (((a1 + a2)):Int).toNat)).size:Int)) = false:=by have h_:decide (65535 < ((dZ ++ (a0.extract (bX:Int).toNat ((wrap64 (a1 + a2)):Int).toNat)).size:Int)) = false:=alB c49;rw [B.iC (by omega) (by omega)] at h_;exact h_))
               (try (have ad7:decide (65535 < (dZ ++ (a0.extract (bX:Int).toNat (((a1 + a2)):Int).toNat)).size) = false:=by have h_:decide (65535 < (dZ ++ (a0.extract (bX:Int).toNat ((wrap64 (a1 + a2)):Int).toNat)).size) = false:=alB (by omega);rw [B.iC (by omega) (by omega)] at h_;exact h_))
               (try (have ad8:decide (65535 < ((dZ.size:Int) + ((a0.extract (bX:Int).toNat (((a1 + a2)):Int).toNat).size:Int))) = false:=by have h_:decide (65535 < ((dZ.size:Int) + ((a0.extract (bX:Int).toNat ((wrap64 (a1 + a2)):Int).toNat).size:Int))) = false:=by have h_:decide (65535 < ((dZ ++ (a0.extract (bX:Int).toNat ((wrap64 (a1 + a2)):Int).toNat)).size:Int)) = false:=alB c49;rw [show ((dZ ++ (a0.extract (bX:Int).toNat ((wrap64 (a1 + a2)):Int).toNat)).size:Int) = ((dZ.size:Int) + ((a0.extract (bX:Int).toNat ((wrap64 (a1 + a2)):Int).toNat).size:Int)) from by (simp only [alO,Int.natCast_add];first | done | rfl)] at h_;(first | exact h_ | (simp only [anf] at h_;exact h_));rw [B.iC (by omega) (by omega)] at h_;exact h_))
               (try (have ad9:decide (65535 < ((dZ.size:Int) + (((((a1 + a2)):Int).toNat - (bX:Int).toNat:Nat):Int))) = false:=by have h_:decide (65535 < ((dZ.size:Int) + ((((wrap64 (a1 + a2)):Int).toNat - (bX:Int).toNat:Nat):Int))) = false:=by have h_:decide (65535 < ((dZ ++ (a0.extract (bX:Int).toNat ((wrap64 (a1 + a2)):Int).toNat)).size:Int)) = false:=alB c49;rw [show ((dZ ++ (a0.extract (bX:Int).toNat ((wrap64 (a1 + a2)):Int).toNat)).size:Int) = ((dZ.size:Int) + ((a0.extract (bX:Int).toNat ((wrap64 (a1 + a2)):Int).toNat).size:Int)) from by (simp only [alO,Int.natCast_add];first | done | rfl)] at h_;rw [show ((a0.extract (bX:Int).toNat ((wrap64 (a1 + a2)):Int).toNat).size:Int) = ((((wrap64 (a1 + a2)):Int).toNat - (bX:Int).toNat:Nat):Int) from by (have h1_:(wrap64 (a1 + a2)) ≤ (a0.size:Int):=alQ (by assumption);rw [al1];omega)] at h_;exact h_;rw [B.iC (by omega) (by omega)] at h_;exact h_))
               clear c49
               simp only [alI,alK] at H
               obtain ⟨rfl,rfl⟩:=H
               have agV:wr.cell? ⟨kR,0,none⟩ = some (.int .i64 jm):=(aX gV.out 0).trans rfl
               have agW:wr.cell? ⟨kR,1,none⟩ = some (.int .i64 lZ):=(aX gV.out 1).trans rfl
               have agX:wr.cell? ⟨kR,2,none⟩ = some (.int .i64 t171):=(aX gV.out 2).trans rfl
               have agY:=aJ gV.out 0
               have agZ:=aJ gV.out 1
               have ag0:=aJ gV.out 2
               go_wp2
               go_ret2
               exact ⟨by first | rfl | (simp [aM,aN] <;> rfl) | (simp [*,aM,aN] <;> rfl),by repeat (first | (with_reducible first | exact HB.out | apply ak | apply ah | apply au | refine aT ?_ qJ.out) | exact HB.out)⟩
             ·rw [aly Rj] at H
              exact absurd H (by simp)
            ·rw [aly M9] at H
             exact absurd H (by simp)
           ·rw [aly c46] at H
            exact absurd H (by simp)
          ·rw [aly Rk] at H
           exact absurd H (by simp)
         ·rw [aly QY] at H
          have adX:((wrap64 (bX + t171)) == (wrap64 (a1 + a2))) = false:=amd.mpr QY
          have adY:((wrap64 (bX + t171)) != (wrap64 (a1 + a2))) = true:=amf.mpr QY
          (try (have adZ:(((bX + t171)) == ((a1 + a2))) = false:=by have h_:((wrap64 (bX + t171)) == (wrap64 (a1 + a2))) = false:=amd.mpr QY;rw [B.iC (by omega) (by omega)] at h_;rw [B.iC (by omega) (by omega)] at h_;exact h_))
          (try (have ad1:(((bX + t171)) != ((a1 + a2))) = true:=by have h_:((wrap64 (bX + t171)) != (wrap64 (a1 + a2))) = true:=amf.mpr QY;rw [B.iC (by omega) (by omega)] at h_;rw [B.iC (by omega) (by omega)] at h_;exact h_))
          simp only [alI,alK] at H
          obtain ⟨rfl,rfl⟩:=H
          have ag1:wr.cell? ⟨kR,0,none⟩ = some (.int .i64 jm):=(aX gV.out 0).trans rfl
          have ag2:wr.cell? ⟨kR,1,none⟩ = some (.int .i64 lZ):=(aX gV.out 1).trans rfl
          have ag3:wr.cell? ⟨kR,2,none⟩ = some (.int .i64 t171):=(aX gV.out 2).trans rfl
          have ag4:=aJ gV.out 0
          have ag5:=aJ gV.out 1
          have ag6:=aJ gV.out 2
          go_wp2
          go_ret2
          exact ⟨by first | rfl | (simp [aM,aN] <;> rfl) | (simp [*,aM,aN] <;> rfl),by repeat (first | (with_reducible first | exact HB.out | apply ak | apply ah | apply au | refine aT ?_ qJ.out) | exact HB.out)⟩
     ·rw [aly c34] at H
      exact absurd H (by simp)
    ·rw [aly c33] at H
     exact absurd H (by simp)
 ·replace c6:=amg.mpr c6
  subst c6
  have H1:(some ((⟨#[]⟩:ByteArray),2)) = some (r1,r2):=by rw [aly (show ¬ (false = true) by decide)] at H;exact H
  clear H
  have H:=H1
  clear H1
  simp only [alI,alK] at H
  obtain ⟨rfl,rfl⟩:=H
  go_enter Tryz.func138,Tryz.ntmps138
  go_wp2_with (first | ((with_reducible refine aQ (f:=139) rfl ?_);refine bW (some 23) rfl rfl Tryz.func139 (by kernel_rfl) rfl #[.string a0,.int .i64 a1,.int .i64 a2] rfl (by (try simp only [alJ,alD,alE]) <;> rfl) ?_;(with_reducible refine (bH.calls a0 a1 a2 t167 false _ A5.out).mono ?_);rintro e w' ⟨rfl,⟨nd,rfl⟩⟩;refine ⟨_,rfl,?_⟩))
  go_ret2
  exact ⟨by first | rfl | (simp [aM,aN] <;> rfl) | (simp [*,aM,aN] <;> rfl),by repeat (first | exact HB.out | apply ak | apply ah | apply au)⟩
def bY.f (k:Nat) (a0:Int) (a1:ByteArray):Option (Bool):=if (a1.size:Int) > 65535 then (some false) else ((bg.f k a1 0 (a1.size:Int) a0).bind fun Hf=>(if Hf.2 = 0 then (some (Hf.1.toList == a1.toList)) else (some false)))
theorem bY.calls (k:Nat) (a0:Int) (a1:ByteArray) (r:Bool) (w:World) (h:bY.f k a0 a1 = some r) :
  Calls Tryz.prog 118 #[.int .i64 a0,.string a1] w fun e w'=>e = .returned (.bool r) ∧ Below w.heap.size w w':=by
 have HB:=aj.mk (Below.refl w.heap.size w)
 have H:(if (a1.size:Int) > 65535 then (some false) else ((bg.f k a1 0 (a1.size:Int) a0).bind fun Hf=>(if Hf.2 = 0 then (some (Hf.1.toList == a1.toList)) else (some false)))) = some r:=h
 clear h
 by_cases c3:(a1.size:Int) > 65535
 ·rw [alx c3] at H
  have tJ:decide (65535 < (a1.size:Int)) = true:=alz c3
  have Ez:decide (65535 < a1.size) = true:=alz (by omega)
  clear c3
  obtain rfl:=al0 H
  go_enter Tryz.func118,Tryz.ntmps118
  go_wp2
  go_ret
  exact ⟨by first | rfl | (simp [aM,aN] <;> rfl) | (simp [*,aM,aN] <;> rfl),by repeat (first | exact HB.out | apply ak | apply ah | apply au)⟩
 ·rw [aly c3] at H
  have tJ:decide (65535 < (a1.size:Int)) = false:=alB c3
  have Ez:decide (65535 < a1.size) = false:=alB (by omega)
  clear c3
  replace H:=zbm H
  obtain ⟨⟨Zn,Hg⟩,GR,H⟩:=H
  replace H:(if Hg = 0 then (some (Zn.toList == a1.toList)) else (some false)) = some r:=H
  have A4:=aj.mk GR
  clear GR
  by_cases c5:Hg = 0
  ·rw [alx c5] at H
   have rO:(Hg == 0) = true:=alW.mpr c5
   have xA:(Hg != 0) = false:=ami.mpr c5
   clear c5
   obtain rfl:=al0 H
   go_enter Tryz.func118,Tryz.ntmps118
   go_wp2_with (first | ((with_reducible refine aQ (f:=138) rfl ?_);refine bW (some 15) rfl rfl Tryz.func138 (by kernel_rfl) rfl #[.string a1,.int .i64 0,.int .i64 (a1.size:Int),.int .i64 a0] rfl (by (try simp only [alJ,alD,alE]);first | done | rfl | (simp only [al5,alP];rfl) | (simp only [alO,Int.natCast_add];rfl) | (rw [B.iC] <;> first | rfl | omega | (simp only [alS,alL,Int.not_lt,amy,gt_iff_lt] at * <;> omega))) ?_;(with_reducible refine (bg.calls k a1 0 (a1.size:Int) a0 Zn Hg _ A4.out).mono ?_);rintro e w6 ⟨rfl,hb⟩;refine ⟨_,rfl,?_⟩;have fJ:=aj.mk (bP (by repeat first | exact HB.out | apply ak | apply ah | apply au) hb);clear HB;have HB:=fJ;clear fJ;(try clear hb);(try clear hb2);(try clear hk);(try clear hi)))
   go_ret
   exact ⟨by first | rfl | (simp [aM,aN] <;> rfl) | (simp [*,aM,aN] <;> rfl),by repeat (first | exact HB.out | apply ak | apply ah | apply au)⟩
  ·rw [aly c5] at H
   have rO:(Hg == 0) = false:=amd.mpr c5
   have xA:(Hg != 0) = true:=amf.mpr c5
   obtain rfl:=al0 H
   go_enter Tryz.func118,Tryz.ntmps118
   go_wp2_with (first | ((with_reducible refine aQ (f:=138) rfl ?_);refine bW (some 15) rfl rfl Tryz.func138 (by kernel_rfl) rfl #[.string a1,.int .i64 0,.int .i64 (a1.size:Int),.int .i64 a0] rfl (by (try simp only [alJ,alD,alE]);first | done | rfl | (simp only [al5,alP];rfl) | (simp only [alO,Int.natCast_add];rfl) | (rw [B.iC] <;> first | rfl | omega | (simp only [alS,alL,Int.not_lt,amy,gt_iff_lt] at * <;> omega))) ?_;(with_reducible refine (bg.calls k a1 0 (a1.size:Int) a0 Zn Hg _ A4.out).mono ?_);rintro e w7 ⟨rfl,hb⟩;refine ⟨_,rfl,?_⟩;have fJ:=aj.mk (bP (by repeat first | exact HB.out | apply ak | apply ah | apply au) hb);clear HB;have HB:=fJ;clear fJ;(try clear hb);(try clear hb2);(try clear hk);(try clear hi)))
   go_ret
   exact ⟨by first | rfl | (simp [aM,aN] <;> rfl) | (simp [*,aM,aN] <;> rfl),by repeat (first | exact HB.out | apply ak | apply ah | apply au)⟩
def bq.l0 : Nat → ByteArray → List ByteArray → Int → Int → Int → Int → Int → Option (List ByteArray)
 | 0,_,_,_,_,_,_,_=>none
 | k + 1,x1,x5,x7,x8,Va,La,Vb=>if x8 < La then ((aV.f k x1 x7).bind fun WO=>(if x5.length < 8796093022208 then (bq.l0 k x1 (x5 ++ [WO.1]) WO.2.1 (wrap64 (x8 + 1)) Va La Vb) else (none))) else (some x5)
def bq.f (k:Nat) (a0:Int) (a1:ByteArray):Option (List ByteArray):=(bY.f k a0 a1).bind fun ML=>(if ML = true then ((aI.f k a0).bind fun l5=>(bq.l0 k a1 ([]:List ByteArray) l5.1 0 l5.1 l5.2.1 l5.2.2)) else (some ([]:List ByteArray)))
theorem bq.calls (k:Nat) (a0:Int) (a1:ByteArray) (r:List ByteArray) (w:World) (h:bq.f k a0 a1 = some r) :
  Calls Tryz.prog 105 #[.int .i64 a0,.string a1] w fun e w'=>∃ Qp:Value,e = .returned (Qp) ∧ Kd.R Kd.string 9 w' w.heap.size (fun _=>True) Qp r ∧ Below w.heap.size w w':=by
 have QM:=Tryz.underlying198
 have HB:=aj.mk (Below.refl w.heap.size w)
 have H:((bY.f k a0 a1).bind fun ML=>(if ML = true then ((aI.f k a0).bind fun l5=>(bq.l0 k a1 ([]:List ByteArray) l5.1 0 l5.1 l5.2.1 l5.2.2)) else (some ([]:List ByteArray)))) = some r:=h
 clear h
 replace H:=zbm H
 obtain ⟨ML,QD,H⟩:=H
 replace H:(if ML = true then ((aI.f k a0).bind fun l5=>(bq.l0 k a1 ([]:List ByteArray) l5.1 0 l5.1 l5.2.1 l5.2.2)) else (some ([]:List ByteArray))) = some r:=H
 have A3:=aj.mk QD
 clear QD
 by_cases c4:ML = true
 ·subst c4
  have H1:((aI.f k a0).bind fun l5=>(bq.l0 k a1 ([]:List ByteArray) l5.1 0 l5.1 l5.2.1 l5.2.2)) = some r:=by rw [alx rfl] at H;exact H
  clear H
  have H:=H1
  clear H1
  replace H:=zbm H
  obtain ⟨⟨xB,xC,t182⟩,WL,H⟩:=H
  replace H:(bq.l0 k a1 ([]:List ByteArray) xB 0 xB xC t182) = some r:=H
  have A5:=aj.mk WL
  clear WL
  have H':=aj.mk H
  clear H
  go_enter Tryz.func105,Tryz.ntmps105
  go_wp2_with (first | ((with_reducible refine aQ (f:=118) rfl ?_);refine bW (some 14) rfl rfl Tryz.func118 (by kernel_rfl) rfl #[.int .i64 a0,.string a1] rfl (by (try simp only [alJ,alD,alE]) <;> rfl) ?_;(with_reducible refine (bY.calls k a0 a1 true _ A3.out).mono ?_);rintro e w6 ⟨rfl,hb⟩;refine ⟨_,rfl,?_⟩;have fJ:=aj.mk (bP (by repeat first | exact HB.out | apply ak | apply ah | apply au) hb);clear HB;have HB:=fJ;clear fJ;(try clear hb);(try clear hb2);(try clear hk);(try clear hi)) | ((with_reducible refine aQ (f:=123) rfl ?_);refine bW (some 17) rfl rfl Tryz.func123 (by kernel_rfl) rfl #[.int .i64 a0] rfl (by (try simp only [alJ,alD,alE]) <;> rfl) ?_;(with_reducible refine (aI.calls k a0 xB xC t182 _ A5.out).mono ?_);rintro e w7 ⟨rfl,hb⟩;refine ⟨_,rfl,?_⟩;have fJ:=aj.mk (bP (by repeat first | exact HB.out | apply ak | apply ah | apply au) hb);clear HB;have HB:=fJ;clear fJ;(try clear hb);(try clear hb2);(try clear hk);(try clear hi)) | ((with_reducible refine j3 (N:=6) rfl ?_);refine jh ?hg (N:=6) ?hd (cs:=#[.int .i64 0,.int .i64 0,.int .i64 0]) (t:=198) ?hr ?_;(case hd=>rfl);(case hg=>rfl);(case hr=>first | (go_simp;done) | (go_simp;rfl));intro p8 hg w8 kQ hb;have fJ:=aj.mk (bP (by repeat first | exact HB.out | apply ak | apply ah | apply au) hb);have jr:=aj.mk (kQ);have l6:=aj.mk ((by rw [hg];exact (cB (by repeat first | exact HB.out | apply ak | apply ah | apply au)):w.heap.size ≤ p8));have ni:=aj.mk ((by rw [hg];exact (cB (by repeat first | exact HB.out | apply ak | apply ah | apply au)):w.heap.size ≤ p8));clear HB;have HB:=fJ;have jO:=jr;have ak1:=l6;have Hl:=ni;clear fJ jr l6 ni;clear hb kQ hg;have QN:w8.cell? ⟨p8,0,none⟩ = some (.int .i64 0):=(aX jO.out 0).trans rfl;have QO:w8.cell? ⟨p8,1,none⟩ = some (.int .i64 0):=(aX jO.out 1).trans rfl;have QS:w8.cell? ⟨p8,2,none⟩ = some (.int .i64 0):=(aX jO.out 2).trans rfl;have QT:=aJ jO.out 0;have QU:=aJ jO.out 1;have QV:=aJ jO.out 2))
  go_loopg [5,7,8] k (fun kq v5 v7 v8 w'=>∃ (Ho:List ByteArray) (eB:Int) (iH:Int),v7 = .int .i64 eB ∧ v8 = .int .i64 iH ∧ aj (bq.l0 kq a1 Ho eB iH xB xC t182 = some r) ∧ aj (kq ≤ k) ∧ aj (Kd.R Kd.string 9 w' w.heap.size (fun _=>True) v5 Ho) ∧ aj (w'.heap[p8]? = some (.cells #[.int .i64 xB,.int .i64 xC,.int .i64 t182] 198 (0,0))) ∧ aj (Below w.heap.size w w'))
  case atStart=>exact ⟨(([]:List ByteArray)),(xB),(0),(by first | rfl | (simp;done) | (simp [*];done) | (simp [B.aY];done) | (simp [B.aZ];done)),(by first | rfl | (simp;done) | (simp [*];done) | (simp [B.aY];done) | (simp [B.aZ];done)),H',⟨alC _⟩,⟨by first | exact Kd.kF _ _ _ _ _ | exact Kd.mM _ _ _ _ _ | exact Kd.mO _ _ _ _ _ | exact Kd.mJ _ _ _ _ _ | exact Kd.mK _ _ _ _ _⟩,⟨by (with_reducible repeat (first | refine aG ?_ _ | refine aK ?_ | refine aA ?_ _));refine cO (cs:=#[.int .i64 xB,.int .i64 xC,.int .i64 0]) ?_ 2 _ rfl;(with_reducible repeat (first | refine aG ?_ _ | refine aK ?_ | refine aA ?_ _));refine cO (cs:=#[.int .i64 xB,.int .i64 0,.int .i64 0]) ?_ 1 _ rfl;(with_reducible repeat (first | refine aG ?_ _ | refine aK ?_ | refine aA ?_ _));refine cO (cs:=#[.int .i64 0,.int .i64 0,.int .i64 0]) ?_ 0 _ rfl;(with_reducible repeat (first | refine aG ?_ _ | refine aK ?_ | refine aA ?_ _));exact jO.out⟩,⟨by repeat (first | (with_reducible first | exact HB.out | apply ak | apply ah | apply au | refine aT ?_ Hl.out) | exact HB.out)⟩⟩
  case round =>
   clear H'
   try clear c1
   try clear p2
   try clear c4
   try clear QN
   try clear QO
   try clear QS
   try clear QT
   try clear QU
   try clear QV
   obtain ⟨Ho,eB,iH,rfl,rfl,HA,vV,xD,jO,HB⟩:=hrel
   cases gk with
   | zero=>exact absurd HA.out (by simp [bq.l0])
   | succ k1 =>
    have H:=HA.out
    clear HA
    simp only [bq.l0] at H
    by_cases c10:iH < xC
    ·rw [alx c10] at H
     have tY:decide (iH < xC) = true:=alz c10
     clear c10
     replace H:=zbm H
     obtain ⟨⟨QZ,Vd,ai0⟩,aea,H⟩:=H
     replace H:(if Ho.length < 8796093022208 then (bq.l0 k1 a1 (Ho ++ [QZ]) Vd (wrap64 (iH + 1)) xB xC t182) else (none)) = some r:=H
     have A11:=aj.mk aea
     clear aea
     by_cases c12:Ho.length < 8796093022208
     ·rw [alx c12] at H
      have aeb:=aj.mk c12
      clear c12
      obtain ⟨aec,Hq⟩:∃ y_:List ByteArray,y_ = (Ho ++ [QZ]):=⟨_,rfl⟩
      replace H:(bq.l0 k1 a1 aec Vd (wrap64 (iH + 1)) xB xC t182) = some r:=by first | (rw [Hq];with_reducible exact H) | (have Jj:=(Option.bind_some _ _).symm.trans H;rw [Hq];with_reducible exact Jj) | (have Jj:=(Option.bind_some _ _).symm.trans H;with_reducible exact Jj) | with_reducible exact H | (rw [Hq];exact H) | exact H
      have aed:=aj.mk Hq
      clear Hq
      have H':=aj.mk H
      clear H
      have ED:wr.cell? ⟨p8,0,none⟩ = some (.int .i64 xB):=(aX jO.out 0).trans rfl
      have EF:wr.cell? ⟨p8,1,none⟩ = some (.int .i64 xC):=(aX jO.out 1).trans rfl
      have EG:wr.cell? ⟨p8,2,none⟩ = some (.int .i64 t182):=(aX jO.out 2).trans rfl
      have EH:=aJ jO.out 0
      have EI:=aJ jO.out 1
      have EJ:=aJ jO.out 2
      go_wp2_with (first | ((with_reducible refine aQ (f:=124) rfl ?_);refine bW (some 29) rfl rfl Tryz.func124 (by kernel_rfl) rfl #[.string a1,.int .i64 eB] rfl (by (try simp only [alJ,alD,alE]) <;> rfl) ?_;(with_reducible refine (aV.calls k1 a1 eB QZ Vd ai0 _ A11.out).mono ?_);rintro e w' ⟨rfl,⟨nd,rfl⟩⟩;refine ⟨_,rfl,?_⟩) | ((with_reducible refine qA (b:=.append) (xs:=#[.tmp 33,.tmp 35]) rfl ?_);at_builtin;refine Kd.Ad Kd.string (w0:=w) w.heap.size rfl (.tmp 33) (.tmp 35) 40 9 (.string ⟨#[]⟩) 16 rfl Tryz.underlying40 KJ rfl (by decide) (by omega) u5 Ho QZ [.string QZ] (fun _=>True) (fun _=>False) rfl rfl ?aP (fun _ hk=>hk.elim) ?aF ?aO ?aB ?aS ?aL ?_;(case aP=>exact rfl);(case aB=>exact (by repeat (first | (with_reducible first | exact HB.out | apply ak | apply ah | apply au | refine aT ?_ Hl.out) | exact HB.out)));(case aF=>exact (fun _ _=>trivial));(case aO=>exact (by (with_reducible repeat (first | apply Kd.fH | apply Kd.gB | apply Kd.gL));exact xD.out));(case aS=>exact (cB (by repeat (first | (with_reducible first | exact HB.out | apply ak | apply ah | apply au | refine aT ?_ Hl.out) | exact HB.out))));(case aL=>have:=aeb.out;omega);intro alo w14 ho hb hg hat;rw [← aed.out] at ho;have fJ:=aj.mk (sH (g:=p8) (o:=.cells #[.int .i64 xB,.int .i64 xC,.int .i64 t182] 198 (0,0)) (by (with_reducible repeat (first | refine aG ?_ _ | refine aK ?_ | refine aA ?_ _));exact jO.out) hg (Kd.Ua xD.out jO.out (by decide)));have jr:=aj.mk (hb);have l6:=aj.mk (ho);clear jO;clear HB;clear xD;have jO:=fJ;have HB:=jr;have aee:=l6;clear fJ jr l6;clear ho hb hg hat))
      go_roundg k1
      case measure=>have:=vV.out;omega
      case rel=>exact ⟨(aec),(Vd),(wrap64 (iH + 1)),(by first | rfl | (simp;done) | (simp [*];done) | (simp [B.aY];done) | (simp [B.aZ];done)),(by first | rfl | (simp;done) | (simp [*];done) | (simp [B.aY];done) | (simp [B.aZ];done)),H',⟨by have:=vV.out;omega⟩,⟨by (with_reducible repeat (first | apply Kd.fH | apply Kd.gB | apply Kd.gL));exact aee.out⟩,⟨by (with_reducible repeat (first | refine aG ?_ _ | refine aK ?_ | refine aA ?_ _));exact jO.out⟩,⟨by repeat (first | (with_reducible first | exact HB.out | apply ak | apply ah | apply au | refine aT ?_ Hl.out) | exact HB.out)⟩⟩
     ·rw [aly c12] at H
      exact absurd H (by simp)
    ·rw [aly c10] at H
     have tY:decide (iH < xC) = false:=alB c10
     clear c10
     obtain rfl:=al0 H
     have KY:wr.cell? ⟨p8,0,none⟩ = some (.int .i64 xB):=(aX jO.out 0).trans rfl
     have KZ:wr.cell? ⟨p8,1,none⟩ = some (.int .i64 xC):=(aX jO.out 1).trans rfl
     have K3:wr.cell? ⟨p8,2,none⟩ = some (.int .i64 t182):=(aX jO.out 2).trans rfl
     have K4:=aJ jO.out 0
     have K5:=aJ jO.out 1
     have K6:=aJ jO.out 2
     go_wp2
     go_ret
     exact ⟨_,by first | rfl | (simp [aM,aN] <;> rfl) | (simp [*,aM,aN] <;> rfl),by (with_reducible repeat (first | apply Kd.fH | apply Kd.gB | apply Kd.gL));exact xD.out,by repeat (first | (with_reducible first | exact HB.out | apply ak | apply ah | apply au | refine aT ?_ Hl.out) | exact HB.out)⟩
 ·replace c4:=amg.mpr c4
  subst c4
  have H1:(some ([]:List ByteArray)) = some r:=by rw [aly (show ¬ (false = true) by decide)] at H;exact H
  clear H
  have H:=H1
  clear H1
  obtain rfl:=al0 H
  go_enter Tryz.func105,Tryz.ntmps105
  go_wp2_with (first | ((with_reducible refine aQ (f:=118) rfl ?_);refine bW (some 14) rfl rfl Tryz.func118 (by kernel_rfl) rfl #[.int .i64 a0,.string a1] rfl (by (try simp only [alJ,alD,alE]) <;> rfl) ?_;(with_reducible refine (bY.calls k a0 a1 false _ A3.out).mono ?_);rintro e w16 ⟨rfl,hb⟩;refine ⟨_,rfl,?_⟩;have fJ:=aj.mk (bP (by repeat first | exact HB.out | apply ak | apply ah | apply au) hb);clear HB;have HB:=fJ;clear fJ;(try clear hb);(try clear hb2);(try clear hk);(try clear hi)))
  go_ret
  exact ⟨_,by first | rfl | (simp [aM,aN] <;> rfl) | (simp [*,aM,aN] <;> rfl),by first | exact Kd.kF _ _ _ _ _ | exact Kd.mM _ _ _ _ _ | exact Kd.mO _ _ _ _ _ | exact Kd.mJ _ _ _ _ _ | exact Kd.mK _ _ _ _ _,by repeat (first | exact HB.out | apply ak | apply ah | apply au)⟩
def bN.l0 : Nat → ByteArray → List ByteArray → ByteArray → Int → Int → Option (ByteArray)
 | 0,_,_,_,_,_=>none
 | k + 1,x1,x5,x7,x8,x9=>if x9 < (x5.length:Int) then (if 0 ≤ x9 then ((gy.f k (rE ByteArray.empty x5 x9)).bind fun BM=>(if x7.size + BM.size ≤ 9223372036854775807 then (bN.l0 k x1 x5 (x7 ++ BM) (wrap64 (x8 + ((rE ByteArray.empty x5 x9).size:Int))) (wrap64 (x9 + 1))) else (none))) else (none)) else (if 0 ≤ x8 then (if x8 ≤ (x1.size:Int) then (if x7.size + (x1.extract (x8:Int).toNat x1.size).size ≤ 9223372036854775807 then (some (x7 ++ (x1.extract (x8:Int).toNat x1.size))) else (none)) else (none)) else (none))
def bN.f (k:Nat) (a0:Int) (a1:ByteArray):Option (ByteArray):=(bY.f k a0 a1).bind fun MN=>(if MN = true then ((bq.f k a0 a1).bind fun oF=>((aI.f k a0).bind fun jT=>(if 0 ≤ jT.1 then (if jT.1 ≤ (a1.size:Int) then (bN.l0 k a1 oF (a1.extract 0 (jT.1:Int).toNat) jT.1 0) else (none)) else (none)))) else (some (⟨#[]⟩:ByteArray)))
theorem bN.calls (k:Nat) (a0:Int) (a1:ByteArray) (r:ByteArray) (w:World) (h:bN.f k a0 a1 = some r) :
  Calls Tryz.prog 119 #[.int .i64 a0,.string a1] w fun e w'=>e = .returned (.string r) ∧ Below w.heap.size w w':=by
 have QM:=Tryz.underlying198
 have HB:=aj.mk (Below.refl w.heap.size w)
 have H:((bY.f k a0 a1).bind fun MN=>(if MN = true then ((bq.f k a0 a1).bind fun oF=>((aI.f k a0).bind fun jT=>(if 0 ≤ jT.1 then (if jT.1 ≤ (a1.size:Int) then (bN.l0 k a1 oF (a1.extract 0 (jT.1:Int).toNat) jT.1 0) else (none)) else (none)))) else (some (⟨#[]⟩:ByteArray)))) = some r:=h
 clear h
 replace H:=zbm H
 obtain ⟨MN,QD,H⟩:=H
 replace H:(if MN = true then ((bq.f k a0 a1).bind fun oF=>((aI.f k a0).bind fun jT=>(if 0 ≤ jT.1 then (if jT.1 ≤ (a1.size:Int) then (bN.l0 k a1 oF (a1.extract 0 (jT.1:Int).toNat) jT.1 0) else (none)) else (none)))) else (some (⟨#[]⟩:ByteArray))) = some r:=H
 have A3:=aj.mk QD
 clear QD
 by_cases c4:MN = true
 ·subst c4
  have H1:((bq.f k a0 a1).bind fun oF=>((aI.f k a0).bind fun jT=>(if 0 ≤ jT.1 then (if jT.1 ≤ (a1.size:Int) then (bN.l0 k a1 oF (a1.extract 0 (jT.1:Int).toNat) jT.1 0) else (none)) else (none)))) = some r:=by rw [alx rfl] at H;exact H
  clear H
  have H:=H1
  clear H1
  replace H:=zbm H
  obtain ⟨oF,WL,H⟩:=H
  replace H:((aI.f k a0).bind fun jT=>(if 0 ≤ jT.1 then (if jT.1 ≤ (a1.size:Int) then (bN.l0 k a1 oF (a1.extract 0 (jT.1:Int).toNat) jT.1 0) else (none)) else (none))) = some r:=H
  have A5:=aj.mk WL
  clear WL
  replace H:=zbm H
  obtain ⟨⟨t194,Q0,t196⟩,A60,H⟩:=H
  replace H:(if 0 ≤ t194 then (if t194 ≤ (a1.size:Int) then (bN.l0 k a1 oF (a1.extract 0 (t194:Int).toNat) t194 0) else (none)) else (none)) = some r:=H
  have A6:=aj.mk A60
  clear A60
  by_cases c7:0 ≤ t194
  ·rw [alx c7] at H
   have wu:=alH c7
   have ME:decide (0 ≤ t194) = true:=alz c7
   clear c7
   by_cases c8:t194 ≤ (a1.size:Int)
   ·rw [alx c8] at H
    have uE:=alH c8
    have uF:decide (t194 ≤ (a1.size:Int)) = true:=alz c8
    clear c8
    have H':=aj.mk H
    clear H
    go_enter Tryz.func119,Tryz.ntmps119
    go_wp2_with (first | ((with_reducible refine aQ (f:=118) rfl ?_);refine bW (some 12) rfl rfl Tryz.func118 (by kernel_rfl) rfl #[.int .i64 a0,.string a1] rfl (by (try simp only [alJ,alD,alE]) <;> rfl) ?_;(with_reducible refine (bY.calls k a0 a1 true _ A3.out).mono ?_);rintro e w9 ⟨rfl,hb⟩;refine ⟨_,rfl,?_⟩;have fJ:=aj.mk (bP (by repeat first | exact HB.out | apply ak | apply ah | apply au) hb);clear HB;have HB:=fJ;clear fJ;(try clear hb);(try clear hb2);(try clear hk);(try clear hi)) | ((with_reducible refine aQ (f:=105) rfl ?_);refine bW (some 16) rfl rfl Tryz.func105 (by kernel_rfl) rfl #[.int .i64 a0,.string a1] rfl (by (try simp only [alJ,alD,alE]) <;> rfl) ?_;(with_reducible refine (bq.calls k a0 a1 oF _ A5.out).mono ?_);rintro e w10 ⟨ai1,rfl,ho0,hb⟩;refine ⟨_,rfl,?_⟩;have fJ:=aj.mk (Kd.sI ho0 (cB (by repeat first | exact HB.out | apply ak | apply ah | apply au)));have jr:=aj.mk (bP (by repeat first | exact HB.out | apply ak | apply ah | apply au) hb);clear HB;have AQ:=fJ;have HB:=jr;clear fJ jr;(try clear hb);(try clear hb2);(try clear hk);(try clear hi);(try clear ho0)) | ((with_reducible refine aQ (f:=123) rfl ?_);refine bW (some 18) rfl rfl Tryz.func123 (by kernel_rfl) rfl #[.int .i64 a0] rfl (by (try simp only [alJ,alD,alE]) <;> rfl) ?_;(with_reducible refine (aI.calls k a0 t194 Q0 t196 _ A6.out).mono ?_);rintro e Zg ⟨rfl,hb⟩;refine ⟨_,rfl,?_⟩;have fJ:=aj.mk (Kd.kU (by (with_reducible repeat (first | apply Kd.fH | apply Kd.gB | apply Kd.gL));exact AQ.out) hb);have jr:=aj.mk (bP (by repeat first | exact HB.out | apply ak | apply ah | apply au) hb);clear AQ;clear HB;have AQ:=fJ;have HB:=jr;clear fJ jr;(try clear hb);(try clear hb2);(try clear hk);(try clear hi)) | ((with_reducible refine j3 (N:=6) rfl ?_);refine jh ?hg (N:=6) ?hd (cs:=#[.int .i64 0,.int .i64 0,.int .i64 0]) (t:=198) ?hr ?_;(case hd=>rfl);(case hg=>rfl);(case hr=>first | (go_simp;done) | (go_simp;rfl));intro uf hg w12 kQ hb;have fJ:=aj.mk (Kd.kU (by (with_reducible repeat (first | apply Kd.fH | apply Kd.gB | apply Kd.gL));exact AQ.out) hb);have jr:=aj.mk (bP (by repeat first | exact HB.out | apply ak | apply ah | apply au) hb);have l6:=aj.mk (kQ);have ni:=aj.mk ((by rw [hg];exact (cB (by repeat first | exact HB.out | apply ak | apply ah | apply au)):w.heap.size ≤ uf));have qQ:=aj.mk ((by rw [hg];exact (cB (by repeat first | exact HB.out | apply ak | apply ah | apply au)):w.heap.size ≤ uf));clear AQ;clear HB;have AQ:=fJ;have HB:=jr;have p9:=l6;have ak2:=ni;have Lb:=qQ;clear fJ jr l6 ni qQ;clear hb kQ hg;have ED:w12.cell? ⟨uf,0,none⟩ = some (.int .i64 0):=(aX p9.out 0).trans rfl;have EF:w12.cell? ⟨uf,1,none⟩ = some (.int .i64 0):=(aX p9.out 1).trans rfl;have EG:w12.cell? ⟨uf,2,none⟩ = some (.int .i64 0):=(aX p9.out 2).trans rfl;have EH:=aJ p9.out 0;have EI:=aJ p9.out 1;have EJ:=aJ p9.out 2))
    go_loopg [7,8,9] k (fun kq v7 v8 v9 w'=>∃ (eB:ByteArray) (iH:Int) (jv:Int),v7 = .string eB ∧ v8 = .int .i64 iH ∧ v9 = .int .i64 jv ∧ aj (bN.l0 kq a1 oF eB iH jv = some r) ∧ aj (kq ≤ k) ∧ aj (Kd.R Kd.string 9 w' w.heap.size (fun _=>True) ai1 oF) ∧ aj (w'.heap[uf]? = some (.cells #[.int .i64 t194,.int .i64 Q0,.int .i64 t196] 198 (0,0))) ∧ aj (Below w.heap.size w w'))
    case atStart=>exact ⟨(a1.extract 0 (t194:Int).toNat),(t194),(0),(by first | rfl | (simp;done) | (simp [*];done) | (simp [B.aY];done) | (simp [B.aZ];done)),(by first | rfl | (simp;done) | (simp [*];done) | (simp [B.aY];done) | (simp [B.aZ];done)),(by first | rfl | (simp;done) | (simp [*];done) | (simp [B.aY];done) | (simp [B.aZ];done)),H',⟨alC _⟩,⟨by (with_reducible repeat (first | apply Kd.fH | apply Kd.gB | apply Kd.gL));exact Kd.qz (Kd.qI (p:=⟨uf,2,none⟩) (Kd.qI (p:=⟨uf,1,none⟩) (Kd.qI (p:=⟨uf,0,none⟩) (Kd.sJ AQ.out p9.out (by decide)) (fun _ hk=>hk.2) (.int .i64 t194)) (fun _ hk=>hk.2) (.int .i64 Q0)) (fun _ hk=>hk.2) (.int .i64 t196)) (fun _ hk=>trivial)⟩,⟨by (with_reducible repeat (first | refine aG ?_ _ | refine aK ?_ | refine aA ?_ _));refine cO (cs:=#[.int .i64 t194,.int .i64 Q0,.int .i64 0]) ?_ 2 _ rfl;(with_reducible repeat (first | refine aG ?_ _ | refine aK ?_ | refine aA ?_ _));refine cO (cs:=#[.int .i64 t194,.int .i64 0,.int .i64 0]) ?_ 1 _ rfl;(with_reducible repeat (first | refine aG ?_ _ | refine aK ?_ | refine aA ?_ _));refine cO (cs:=#[.int .i64 0,.int .i64 0,.int .i64 0]) ?_ 0 _ rfl;(with_reducible repeat (first | refine aG ?_ _ | refine aK ?_ | refine aA ?_ _));exact p9.out⟩,⟨by repeat (first | (with_reducible first | exact HB.out | apply ak | apply ah | apply au | refine aT ?_ Lb.out) | exact HB.out)⟩⟩
    case round =>
     clear H'
     try clear c1
     try clear p2
     try clear c4
     try clear c7
     try clear wu
     try clear ME
     try clear c8
     try clear uE
     try clear uF
     try clear c10
     try clear c11
     try clear c12
     try clear ED
     try clear EF
     try clear EG
     try clear EH
     try clear EI
     try clear EJ
     obtain ⟨eB,iH,jv,rfl,rfl,rfl,HA,vV,xD,p9,HB⟩:=hrel
     cases gk with
     | zero=>exact absurd HA.out (by simp [bN.l0])
     | succ k1 =>
      have H:=HA.out
      clear HA
      simp only [bN.l0] at H
      by_cases c14:jv < (oF.length:Int)
      ·rw [alx c14] at H
       have CP:decide (jv < (oF.length:Int)) = true:=alz c14
       clear c14
       by_cases c15:0 ≤ jv
       ·rw [alx c15] at H
        have ac0:decide (0 ≤ jv) = true:=alz c15
        clear c15
        replace H:=zbm H
        obtain ⟨BM,aef,H⟩:=H
        replace H:(if eB.size + BM.size ≤ 9223372036854775807 then (bN.l0 k1 a1 oF (eB ++ BM) (wrap64 (iH + ((rE ByteArray.empty oF jv).size:Int))) (wrap64 (jv + 1))) else (none)) = some r:=H
        have A16:=aj.mk aef
        clear aef
        by_cases c17:eB.size + BM.size ≤ 9223372036854775807
        ·rw [alx c17] at H
         have WI:=alH c17
         have ak3:decide (eB.size + BM.size ≤ 9223372036854775807) = true:=alz c17
         try have ak4:(9223372036854775807 < eB.size + BM.size) = False:=eq_false (amy.2 c17)
         have H':=aj.mk H
         clear H
         obtain ⟨alp,alq,ai2⟩:=Kd.vP xD.out
         subst ai2
         have Zo:0 ≤ (jv:Int):=alQ (by first | (with_reducible assumption) | assumption)
         have Zp:jv < (oF.length:Int):=alQ (by first | (with_reducible assumption) | assumption)
         obtain ⟨aeg,ai3,ag7⟩:=Kd.Cx (Kd.rG xD.out).2.2 jv Zo Zp
         cases ai3
         replace Zo:=alH Zo
         replace Zp:=alH Zp
         go_wp2_with (first | ((with_reducible refine aQ (f:=41) rfl ?_);refine bW (some 36) rfl rfl Tryz.func41 (by kernel_rfl) rfl #[.string (rE ByteArray.empty oF jv)] rfl (by (try simp only [alJ,alD,alE]);first | done | rfl | (simp only [al5,alP];rfl) | (simp only [alO,Int.natCast_add];rfl) | (rw [B.iC] <;> first | rfl | omega | (simp only [alS,alL,Int.not_lt,amy,gt_iff_lt] at * <;> omega))) ?_;(with_reducible refine (gy.calls k1 (rE ByteArray.empty oF jv) BM _ A16.out).mono ?_);rintro e w19 ⟨rfl,hb⟩;refine ⟨_,rfl,?_⟩;have fJ:=aj.mk (Kd.kU (by (with_reducible repeat (first | apply Kd.fH | apply Kd.gB | apply Kd.gL));exact xD.out) hb);have jr:=aj.mk (eO (g:=uf) (o:=.cells #[.int .i64 t194,.int .i64 Q0,.int .i64 t196] 198 (0,0)) (by (with_reducible repeat (first | refine aG ?_ _ | refine aK ?_ | refine aA ?_ _));exact p9.out) hb);have l6:=aj.mk (bP (by repeat (first | (with_reducible first | exact HB.out | apply ak | apply ah | apply au | refine aT ?_ Lb.out) | exact HB.out)) hb);clear xD;clear p9;clear HB;have xD:=fJ;have p9:=jr;have HB:=l6;clear fJ jr l6;(try clear hb);(try clear hb2);(try clear hk);(try clear hi);have Zq:0 ≤ (jv:Int):=alQ (by first | (with_reducible assumption) | assumption);have Zr:jv < (oF.length:Int):=alQ (by first | (with_reducible assumption) | assumption);obtain ⟨aeh,ai4,ag8⟩:=Kd.Cx (Kd.rG xD.out).2.2 jv Zq Zr;obtain rfl:aeg = aeh:=(by injection ai4);replace Zq:=alH Zq;replace Zr:=alH Zr))
         go_roundg k1
         case measure=>have:=vV.out;omega
         case rel=>exact ⟨(eB ++ BM),(wrap64 (iH + ((rE ByteArray.empty oF jv).size:Int))),(wrap64 (jv + 1)),(by first | rfl | (simp;done) | (simp [*];done) | (simp [B.aY];done) | (simp [B.aZ];done)),(by first | rfl | (simp;done) | (simp [*];done) | (simp [B.aY];done) | (simp [B.aZ];done)),(by first | rfl | (simp;done) | (simp [*];done) | (simp [B.aY];done) | (simp [B.aZ];done)),H',⟨by have:=vV.out;omega⟩,⟨by (with_reducible repeat (first | apply Kd.fH | apply Kd.gB | apply Kd.gL));exact xD.out⟩,⟨by (with_reducible repeat (first | refine aG ?_ _ | refine aK ?_ | refine aA ?_ _));exact p9.out⟩,⟨by repeat (first | (with_reducible first | exact HB.out | apply ak | apply ah | apply au | refine aT ?_ Lb.out) | exact HB.out)⟩⟩
        ·rw [aly c17] at H
         exact absurd H (by simp)
       ·rw [aly c15] at H
        exact absurd H (by simp)
      ·rw [aly c14] at H
       have CP:decide (jv < (oF.length:Int)) = false:=alB c14
       clear c14
       by_cases c20:0 ≤ iH
       ·rw [alx c20] at H
        have QG:=alH c20
        have adn:decide (0 ≤ iH) = true:=alz c20
        clear c20
        by_cases c21:iH ≤ (a1.size:Int)
        ·rw [alx c21] at H
         have WG:=alH c21
         have WH:decide (iH ≤ (a1.size:Int)) = true:=alz c21
         clear c21
         by_cases EP:eB.size + (a1.extract (iH:Int).toNat a1.size).size ≤ 9223372036854775807
         ·rw [alx EP] at H
          have QW:=alH EP
          have QX:decide (eB.size + (a1.extract (iH:Int).toNat a1.size).size ≤ 9223372036854775807) = true:=alz EP
          try have ak5:(9223372036854775807 < eB.size + (a1.extract (iH:Int).toNat a1.size).size) = False:=eq_false (amy.2 EP)
          obtain rfl:=al0 H
          obtain ⟨alr,als,ai5⟩:=Kd.vP xD.out
          subst ai5
          go_wp2
          go_ret
          exact ⟨by first | rfl | (simp [aM,aN] <;> rfl) | (simp [*,aM,aN] <;> rfl),by repeat (first | (with_reducible first | exact HB.out | apply ak | apply ah | apply au | refine aT ?_ Lb.out) | exact HB.out)⟩
         ·rw [aly EP] at H
          exact absurd H (by simp)
        ·rw [aly c21] at H
         exact absurd H (by simp)
       ·rw [aly c20] at H
        exact absurd H (by simp)
   ·rw [aly c8] at H
    exact absurd H (by simp)
  ·rw [aly c7] at H
   exact absurd H (by simp)
 ·replace c4:=amg.mpr c4
  subst c4
  have H1:(some (⟨#[]⟩:ByteArray)) = some r:=by rw [aly (show ¬ (false = true) by decide)] at H;exact H
  clear H
  have H:=H1
  clear H1
  obtain rfl:=al0 H
  go_enter Tryz.func119,Tryz.ntmps119
  go_wp2_with (first | ((with_reducible refine aQ (f:=118) rfl ?_);refine bW (some 12) rfl rfl Tryz.func118 (by kernel_rfl) rfl #[.int .i64 a0,.string a1] rfl (by (try simp only [alJ,alD,alE]) <;> rfl) ?_;(with_reducible refine (bY.calls k a0 a1 false _ A3.out).mono ?_);rintro e w24 ⟨rfl,hb⟩;refine ⟨_,rfl,?_⟩;have fJ:=aj.mk (bP (by repeat first | exact HB.out | apply ak | apply ah | apply au) hb);clear HB;have HB:=fJ;clear fJ;(try clear hb);(try clear hb2);(try clear hk);(try clear hi)))
  go_ret
  exact ⟨by first | rfl | (simp [aM,aN] <;> rfl) | (simp [*,aM,aN] <;> rfl),by repeat (first | exact HB.out | apply ak | apply ah | apply au)⟩
end
section
open Go.RowKit Go.Proofs.YtfokaoeinpnagaaGreatW.bI Go.Proofs.YtfokaoeinpnagaaGreatW.eF Go.Proofs.YtfokaoeinpnagaaGreatW.fK Go.Proofs.YtfokaoeinpnagaaGreat.B
def yj (msg:ByteArray) (i:Int):ByteArray × Int × Int:=(bL.f (rounds i) msg i).getD (⟨#[]⟩,0,0)
theorem WQ (msg:ByteArray) (i:Int) (hm:msg.size ≤ 100000):bL.f (rounds i) msg i = some (yj msg i):=by
 obtain ⟨R,h1,_⟩:=CS (rounds i) msg i hm (alC _)
 unfold yj;rw [h1];rfl
theorem WR (k:Nat) (msg:ByteArray) (i:Int) (hm:msg.size ≤ 100000) (hk:rounds i ≤ k):bL.f k msg i = some (yj msg i):=GZ hk (WQ msg i hm)
theorem xE (k:Nat) (msg:ByteArray) (i:Int) (hm:msg.size ≤ 100000) (hk:rounds i ≤ k):aV.f k msg i = some (yj msg i):=by
 obtain ⟨R,h1,h2⟩:=CS k msg i hm hk
 rw [WR k msg i hm hk] at h1
 rw [h2,h1]
theorem wC (msg:ByteArray) (i:Int) (hm:msg.size ≤ 100000) :
  ((yj msg i).2.2 = 0 ∧ kK (yj msg i).1 = true ∧ 0 ≤ i ∧ i < (yj msg i).2.1 ∧ (yj msg i).2.1 ≤ (msg.size:Int)) ∨ (((yj msg i).2.2 = 2 ∨ (yj msg i).2.2 = 3) ∧ (yj msg i).1 = ⟨#[]⟩ ∧ (yj msg i).2.1 = 0):=Jo hm (WQ msg i hm)
def Hr (msg:ByteArray) (e:Int):Nat → Int → List ByteArray → Option (List ByteArray × Int)
 | 0,i,l=>some (l,i)
 | n + 1,i,l=>if (yj msg i).2.2 = 0 then (if (yj msg i).2.1 > e then none else Hr msg e n (yj msg i).2.1 (l ++ [(yj msg i).1])) else none
theorem sV (msg:ByteArray) (e:Int) (hm:msg.size ≤ 100000):∀ (n:Nat) (i:Int) (l:List ByteArray) (R:List ByteArray × Int),Hr msg e n i l = some R → i ≤ e → i ≤ R.2 ∧ R.2 ≤ e ∧ R.1.length = l.length + n ∧ (∃ l',R.1 = l ++ l' ∧ ∀ x ∈ l',kK x = true)
 | 0,i,l,R,h,hi=>by cases h;exact ⟨amb _,hi,rfl,[],by simp,by simp⟩
 | n + 1,i,l,R,h,hi=>by
  rw [Hr] at h
  by_cases h0:(yj msg i).2.2 = 0
  ·rw [alx h0] at h
   by_cases h1:(yj msg i).2.1 > e
   ·rw [alx h1] at h;cases h
   ·rw [aly h1] at h
    obtain ⟨a1,a2,a3,l',a4,a5⟩:=sV msg e hm n _ _ R h (by omega)
    rcases wC msg i hm with ⟨_,b2,_,b4,_⟩ | ⟨b1,_⟩
    ·refine ⟨by omega,a2,by rw [a3,alX,List.length_singleton];omega,(yj msg i).1 :: l',by rw [a4];simp,?_⟩
     intro x hx
     rcases alZ.mp hx with rfl | hx
     ·exact b2
     ·exact a5 x hx
    ·omega
  ·rw [aly h0] at h;cases h
def K0 : Nat:=101000
theorem sW {msg:ByteArray} {i:Int} {k:Nat} (hm:msg.size ≤ 100000) (hi:i ≤ (msg.size:Int)) (hk:K0 ≤ k):rounds i ≤ k:=by unfold rounds;unfold K0 at hk;omega
theorem EK (msg:ByteArray) (e s0 s1 s2:Int) (a b:ByteArray) (hm:msg.size ≤ 100000) (he:e ≤ (msg.size:Int)) (h2:0 ≤ s2 ∧ s2 ≤ 1000) (c:Int) (hc:c ≤ 100):∀ (n k:Nat) (i x:Int) (l:List ByteArray),K0 + n ≤ k → x + n = c → 0 ≤ x → 0 ≤ i → i ≤ e → l.length + n ≤ 1000 →
  dw.l0 (k + 1) msg i e c x s0 s1 s2 a b l = (match Hr msg e n i l with
   | some R=>some (a,msg.extract R.2.toNat e.toNat,R.1,(((msg.extract R.2.toNat e.toNat).size:Int) == s2))
   | none=>some (⟨#[]⟩,⟨#[]⟩,[],false))
 | 0,k,i,x,l,hk,hx,hx0,hi,hie,hl=>by
  rw [dw.l0,aly (by omega),alx hi,alx hie,alx he,Hr]
 | n + 1,k,i,x,l,hk,hx,hx0,hi,hie,hl=>by
  obtain ⟨k,rfl⟩:∃ m,k = m + 1:=⟨k - 1,by omega⟩
  rw [dw.l0,alx (by omega),WR (k + 1) msg i hm (sW hm (by omega) (by omega)),Hr]
  simp only [Option.bind_some]
  by_cases h0:(yj msg i).2.2 = 0
  ·rw [alx h0,alx h0]
   by_cases h1:(yj msg i).2.1 > e
   ·rw [alx h1,alx h1]
   ·rcases wC msg i hm with ⟨_,_,_,b4,_⟩ | ⟨b1,_⟩
    ·rw [aly h1,aly h1,alx (by omega),iC (by omega) (by omega)]
     exact EK msg e s0 s1 s2 a b hm he h2 c hc n k _ (x + 1) _ (by omega) (by omega) (by omega) (by omega) (by omega) (by rw [alX,List.length_singleton];omega)
    ·omega
  ·rw [aly h0,aly h0]
def Q5 (s:ByteArray):Nat → Int → Bool
 | 0,_=>false
 | k + 1,i=>if i < (s.size:Int) then Q5 s k (i + 1 + bt s i) else decide (i = s.size)
def Jr (s:ByteArray):Bool:=decide (0 < s.size) && Q5 s (s.size + 1) 0
theorem Zt (s:ByteArray) {k:Nat} {i:Int} (h:(s.size:Int) < i):Q5 s k i = false:=by
 cases k with
 | zero=>rfl
 | succ k=>rw [Q5,aly (by omega)];simp;omega
theorem Q6 (s:ByteArray) (hs:s.size ≤ 100000) (d:Nat):∀ (k m:Nat) (i:Int),0 ≤ i → i ≤ (s.size:Int) → s.size - i.toNat ≤ d → d + 1 ≤ k → d + 1 ≤ m → eD.l0 k (s.extract i.toNat s.size) = some (Q5 s m i):=by
 induction d with
 | zero =>
  intro k m i h0 h1 h2 hk hm
  obtain ⟨k,rfl⟩:∃ j,k = j + 1:=⟨k - 1,by omega⟩
  obtain ⟨m,rfl⟩:∃ j,m = j + 1:=⟨m - 1,by omega⟩
  rw [eD.l0,alx (toList_nil.mpr (by rw [al1];omega)),Q5,aly (by omega),alz (by omega)]
 | succ d ih =>
  intro k m i h0 h1 h2 hk hm
  obtain ⟨k,rfl⟩:∃ j,k = j + 1:=⟨k - 1,by omega⟩
  obtain ⟨m,rfl⟩:∃ j,m = j + 1:=⟨m - 1,by omega⟩
  have hz:(s.extract i.toNat s.size).size = s.size - i.toNat:=by rw [al1];omega
  by_cases hi:i < (s.size:Int)
  ·have hb:bt (s.extract i.toNat s.size) 0 = bt s i:=by
    rw [oo (by omega) (by omega)];congr 1;omega
   have hr:=iA s i
   rw [eD.l0,aly (by rw [toList_nil];omega),alx (by omega),hb,iC (n:=bt s i) (by omega) (by omega),iC (n:=1 + bt s i) (by omega) (by omega),Q5,alx hi]
   by_cases h3:1 + bt s i > ((s.extract i.toNat s.size).size:Int)
   ·rw [alx h3,Zt s (by omega)]
   ·rw [aly h3,alx (by omega),alx (by omega)]
    have e:(s.extract i.toNat s.size).extract (1 + bt s i).toNat (s.extract i.toNat s.size).size = s.extract (i + 1 + bt s i).toNat s.size:=by
     rw [anJ,hz]
     congr 1 <;> omega
    rw [e]
    exact ih k m _ (by omega) (by omega) (by omega) (by omega) (by omega)
  ·rw [eD.l0,alx (toList_nil.mpr (by omega)),Q5,aly hi,alz (by omega)]
theorem Q7 (k:Nat) (hk:K0 ≤ k) (s:ByteArray) (hs:s.size ≤ 100000):eD.f k s = some (Jr s):=by
 unfold eD.f Jr
 by_cases h:s.toList = ([]:List UInt8)
 ·rw [alx h];rw [toList_nil] at h;rw [h];rfl
 ·rw [aly h]
  rw [toList_nil] at h
  unfold K0 at hk
  have:=Q6 s hs s.size k (s.size + 1) 0 (by omega) (by omega) (by omega) (by omega) (by omega)
  rw [show (0:Int).toNat = 0 from rfl,anI] at this
  rw [this,alz (by omega),am1]
theorem EL (s:ByteArray) (hs:s.size ≤ 100000) (d:Nat):∀ (k m:Nat) (i:Int),0 ≤ i → (i:Int) ≤ s.size + 300 → 0 < i ∨ 0 < s.size → s.size - i.toNat ≤ d → d + 1 ≤ k → d + 1 ≤ m → bD.l0 k s i = some (Q5 s m i):=by
 induction d with
 | zero =>
  intro k m i h0 h1 hp h2 hk hm
  obtain ⟨k,rfl⟩:∃ j,k = j + 1:=⟨k - 1,by omega⟩
  obtain ⟨m,rfl⟩:∃ j,m = j + 1:=⟨m - 1,by omega⟩
  have hlt:¬ i < (s.size:Int):=by omega
  rw [bD.l0,aly hlt,Q5,aly hlt]
  by_cases h:i = (s.size:Int)
  ·rw [alx h,alz (by omega),alz h]
  ·rw [aly h,alB h]
 | succ d ih =>
  intro k m i h0 h1 hp h2 hk hm
  obtain ⟨k,rfl⟩:∃ j,k = j + 1:=⟨k - 1,by omega⟩
  obtain ⟨m,rfl⟩:∃ j,m = j + 1:=⟨m - 1,by omega⟩
  have hr:=iA s i
  rw [bD.l0,Q5]
  by_cases hi:i < (s.size:Int)
  ·rw [alx hi,alx hi,alx h0,iC (n:=bt s i) (by omega) (by omega),iC (n:=i + 1) (by omega) (by omega),iC (by omega) (by omega)]
   exact ih k m _ (by omega) (by omega) (by omega) (by omega) (by omega) (by omega)
  ·rw [aly hi,aly hi]
   by_cases h:i = (s.size:Int)
   ·rw [alx h,alz (by omega),alz h]
   ·rw [aly h,alB h]
theorem EM (k:Nat) (hk:K0 ≤ k) (s:ByteArray) (hs:s.size ≤ 100000):bD.f k s = some (Jr s):=by
 unfold bD.f Jr
 unfold K0 at hk
 by_cases h:0 < s.size
 ·rw [EL s hs s.size k (s.size + 1) 0 (by omega) (by omega) (by omega) (by omega) (by omega) (by omega),alz h,am1]
 ·obtain ⟨k,rfl⟩:∃ j,k = j + 1:=⟨k - 1,by omega⟩
  rw [bD.l0,aly (by omega),alx (by omega),alB h];rfl
end
section
open Go.RowKit Go.Proofs.YtfokaoeinpnagaaGreatW.bI Go.Proofs.YtfokaoeinpnagaaGreatW.eF Go.Proofs.YtfokaoeinpnagaaGreatW.fK Go.Proofs.YtfokaoeinpnagaaGreat.B
theorem Js (l m:List ByteArray):strings_Join.cat (l ++ m) = strings_Join.cat l ++ strings_Join.cat m:=by
 induction l with
 | nil=>exact (empty_append _).symm
 | cons x l ih=>rw [List.cons_append,strings_Join.cat,ih,strings_Join.cat,ant]
theorem Ve (x:ByteArray):strings_Join.cat [x] = x:=append_empty x
theorem rV {n:ByteArray} (h:kK n = true):n.size ≤ 255:=by
 obtain ⟨l,_,_,hz⟩:=KG.mp h;exact hz
theorem wD : ∀ {l:List ByteArray},(∀ x ∈ l,kK x = true) → (strings_Join.cat l).size ≤ 255 * l.length
 | [],_=>amn _
 | x :: l,h=>by
  have h1:=rV (h x (by simp))
  have h2:=wD (l:=l) (fun y hy=>h y (by simp [hy]))
  rw [strings_Join.cat,alO,List.length_cons]
  omega
def AU (d:ByteArray):ByteArray × Int:=if (d.size:Int) > 65535 then (⟨#[]⟩,4) else (d,0)
theorem xG (d:ByteArray):(if (d.size:Int) > 65535 then some ((⟨#[]⟩:ByteArray),(4:Int)) else some (d,0)) = some (AU d):=by
 unfold AU;split <;> rfl
def MO (msg:ByteArray) (i size:Int) (s:Int × Int × Int):ByteArray × Int :=
 if s.1 ≤ size then (match Hr msg (i + size) s.2.1.toNat (i + s.1) [] with
  | some R=>if R.2 + s.2.2 = i + size then AU (msg.extract i.toNat (i + s.1).toNat ++ strings_Join.cat R.1 ++ msg.extract R.2.toNat (i + size).toNat) else (⟨#[]⟩,4)
  | none=>(⟨#[]⟩,4)) else (⟨#[]⟩,4)
def BN (msg:ByteArray) (i size kind:Int):ByteArray × Int :=
 if iP msg i size then (match aD.AL kind with
  | some s=>MO msg i size s
  | none=>if kind = 16 then (if Jr (msg.extract i.toNat (i + size).toNat) = true then AU (msg.extract i.toNat (i + size).toNat) else (⟨#[]⟩,4)) else AU (msg.extract i.toNat (i + size).toNat))
 else (⟨#[]⟩,2)
theorem mD {kind:Int} {s:Int × Int × Int} (h:aD.AL kind = some s):0 ≤ s.1 ∧ s.1 ≤ 16 ∧ 0 ≤ s.2.1 ∧ s.2.1 ≤ 2 ∧ 0 ≤ s.2.2 ∧ s.2.2 ≤ 20 ∧ kind ≠ 16 ∧ (s.1 = 0 → s.2.1 = 0 → False):=by
 unfold aD.AL at h
 repeat' split at h
 all_goals (first | (cases h;subst_vars;decide) | cases h)
theorem Zu (k:Nat) (hk:K0 ≤ k) (kind:Int) (hkind:kind ≠ 16) (d:ByteArray):aD.fin k kind d true = some (AU d):=by
 unfold aD.fin
 rw [alx rfl,aly hkind,xG]
theorem xH (k:Nat) (kind:Int) (d:ByteArray):aD.fin k kind d false = some (⟨#[]⟩,4):=by
 unfold aD.fin;rw [aly amT]
theorem CZ (msg:ByteArray) (i size kind:Int) (k:Nat) (hk:K0 ≤ k) (hm:msg.size ≤ 100000) (f:ByteArray → Option Bool) (hf:∀ s,s.size ≤ 100000 → f s = some (Jr s)) (t:ByteArray) (ht:t.size ≤ 100000) :
  (if kind = 16 then ((f t).bind fun b=>if b = true then (if (t.size:Int) > 65535 then some ((⟨#[]⟩:ByteArray),(4:Int)) else some (t,0)) else some (⟨#[]⟩,4)) else (if (t.size:Int) > 65535 then some (⟨#[]⟩,4) else some (t,0))) =
   some (if kind = 16 then (if Jr t = true then AU t else (⟨#[]⟩,4)) else AU t):=by
 rw [hf t ht,xG]
 simp only [Option.bind_some]
 split
 ·split <;> rfl
 ·rfl
theorem MP (k:Nat) (hk:K0 + 10 ≤ k) (msg:ByteArray) (i size kind:Int) (hm:msg.size ≤ 100000) (ht:iP msg i size) (s:Int × Int × Int) (hs:aD.AL kind = some s):aD.g k msg i size kind s = some (MO msg i size s):=by
 obtain ⟨h0,h1,h2⟩:=ht
 obtain ⟨a1,a2,a3,a4,a5,a6,a7,a8⟩:=mD hs
 obtain ⟨s0,s1,s2⟩:=s
 simp only at a1 a2 a3 a4 a5 a6 a8
 have e1:wrap64 (i + size) = i + size:=iC (by omega) (by omega)
 have e2:wrap64 (i + size - i) = size:=by rw [iC (by omega) (by omega)];omega
 have e3:wrap64 (i + s0) = i + s0:=iC (by omega) (by omega)
 unfold aD.g dw.f MO
 simp only [e1,e2,e3]
 by_cases c:s0 ≤ size
 ·rw [alx c,alx c,alx h0,alx (by omega),alx (by omega)]
  obtain ⟨k,rfl⟩:∃ j,k = j + 1:=⟨k - 1,by omega⟩
  rw [EK msg (i + size) s0 s1 s2 _ _ hm h2 ⟨a5,by omega⟩ s1 (by omega) s1.toNat k (i + s0) 0 [] (by omega) (by omega) (amb _) (by omega) (by omega) (by simp only [List.length_nil];omega)]
  have hz:(msg.extract i.toNat (i + s0).toNat).size ≤ 16:=by rw [al1];omega
  cases hr:Hr msg (i + size) s1.toNat (i + s0) [] with
  | none =>
   simp only [Option.bind_some]
   rw [alx (by decide),alx (by decide),xH]
  | some R =>
   obtain ⟨b1,b2,b3,l',b4,b5⟩:=sV msg _ hm _ _ _ R hr (by omega)
   have hcz:=wD b5
   rw [List.nil_append] at b4
   rw [← b4] at hcz
   rw [List.length_nil,amc] at b3
   have hbz:(msg.extract R.2.toNat (i + size).toNat).size = (i + size - R.2).toNat:=by rw [al1];omega
   simp only [Option.bind_some]
   rw [alx (by omega),alx (by omega)]
   by_cases d:R.2 + s2 = i + size
   ·rw [alx d,show (((msg.extract R.2.toNat (i + size).toNat).size:Int) == s2) = true from alW.mpr (by omega),Zu k.succ (by omega) kind a7]
   ·rw [aly d,show (((msg.extract R.2.toNat (i + size).toNat).size:Int) == s2) = false from amd.mpr (by omega),xH]
 ·rw [aly c,aly c]
  simp only [Option.bind_some]
  rw [alx (by decide),alx (by decide),xH]
theorem Zv (k:Nat) (hk:K0 + 10 ≤ k) (msg:ByteArray) (i size kind:Int) (hm:msg.size ≤ 100000):aD.f k msg i size kind = some (BN msg i size kind):=by
 unfold aD.f BN
 rw [wm msg i size (by omega)]
 simp only [Option.bind_some]
 by_cases ht:iP msg i size
 ·rw [alx ht,alx ht]
  simp only [ama]
  cases hs:aD.AL kind with
  | some s=>exact MP k hk msg i size kind hm ht s hs
  | none =>
   have hz:(msg.extract i.toNat (i + size).toNat).size ≤ 100000:=by rw [al1];omega
   have:=CZ msg i size kind k (by omega) hm (eD.f k) (fun s h=>Q7 k (by omega) s h) _ hz
   unfold aD.fin
   rw [alx rfl]
   exact this
 ·rw [aly ht,aly ht];rfl
theorem qF (k:Nat) (hk:1 ≤ k) (kind:Int):aI.f k kind = some ((aD.AL kind).getD (0,0,0)):=by
 obtain ⟨k,rfl⟩:∃ j,k = j + 1:=⟨k - 1,by omega⟩
 unfold aI.f aD.AL
 simp only [aI.j0]
 by_cases h1:kind = 1
 ·subst h1;rfl
 by_cases h2:kind = 28
 ·subst h2;rfl
 by_cases h3:kind = 2
 ·subst h3;rfl
 by_cases h4:kind = 5
 ·subst h4;rfl
 by_cases h5:kind = 12
 ·subst h5;rfl
 by_cases h6:kind = 6
 ·subst h6;rfl
 by_cases h7:kind = 15
 ·subst h7;rfl
 by_cases h8:kind = 33
 ·subst h8;rfl
 simp [h1,h2,h3,h4,h5,h6,h7,h8]
theorem Ht (msg:ByteArray) (i size s0 s1 s2:Int) (hm:msg.size ≤ 100000) (ht:iP msg i size) (h2:0 ≤ s2 ∧ s2 ≤ 1000) (hs:s1 ≤ 100):∀ (n k:Nat) (j x:Int) (out:ByteArray),K0 + n ≤ k → x + n = s1 → 0 ≤ x → i + size < j → j ≤ (msg.size:Int) → out.size + 300 * n ≤ 1000000 →
  bg.l0 (k + 1) msg i size out j x s0 s1 s2 = some (⟨#[]⟩,4)
 | 0,k,j,x,out,hk,hx,hx0,hj,hjm,ho=>by
  obtain ⟨t0,t1,t2⟩:=ht
  rw [bg.l0,aly (by omega),iC (n:=j + s2) (by omega) (by omega),iC (n:=i + size) (by omega) (by omega),aly (by omega)]
 | n + 1,k,j,x,out,hk,hx,hx0,hj,hjm,ho=>by
  obtain ⟨k,rfl⟩:∃ m,k = m + 1:=⟨k - 1,by omega⟩
  rw [bg.l0,alx (by omega),xE (k + 1) msg j hm (sW hm (by omega) (by omega))]
  simp only [Option.bind_some]
  rcases wC msg j hm with ⟨b1,b2,_,b4,b5⟩ | ⟨b1,_⟩
  ·have hz:=rV b2
   rw [alx b1,alx (by omega),iC (n:=x + 1) (by omega) (by omega)]
   exact Ht msg i size s0 s1 s2 hm ht h2 hs n k _ _ _ (by omega) (by omega) (by omega) (by omega) b5 (by rw [alO];omega)
  ·rw [aly (by omega)]
theorem Q8 (msg:ByteArray) (i size s0 s1 s2:Int) (a:ByteArray) (hm:msg.size ≤ 100000) (ht:iP msg i size) (h2:0 ≤ s2 ∧ s2 ≤ 1000) (hs:s1 ≤ 100):∀ (n k:Nat) (j x:Int) (l:List ByteArray),K0 + n ≤ k → x + n = s1 → 0 ≤ x → 0 ≤ j → j ≤ i + size → (a ++ strings_Join.cat l).size + 300 * n ≤ 800000 →
  bg.l0 (k + 1) msg i size (a ++ strings_Join.cat l) j x s0 s1 s2 = some (match Hr msg (i + size) n j l with
   | some R=>if R.2 + s2 = i + size then AU (a ++ strings_Join.cat R.1 ++ msg.extract R.2.toNat (i + size).toNat) else (⟨#[]⟩,4)
   | none=>(⟨#[]⟩,4))
 | 0,k,j,x,l,hk,hx,hx0,hj0,hj,ho=>by
  obtain ⟨t0,t1,t2⟩:=ht
  rw [bg.l0,aly (by omega),iC (n:=j + s2) (by omega) (by omega),iC (n:=i + size) (by omega) (by omega),Hr]
  simp only
  by_cases c:j + s2 = i + size
  ·have hz:(msg.extract j.toNat (i + size).toNat).size ≤ 100000:=by rw [al1];omega
   rw [alx c,alx c,alx hj0,alx hj,alx t2,alx (by omega),xG]
  ·rw [aly c,aly c]
 | n + 1,k,j,x,l,hk,hx,hx0,hj0,hj,ho=>by
  have ht0:=ht
  obtain ⟨t0,t1,t2⟩:=ht
  obtain ⟨k,rfl⟩:∃ m,k = m + 1:=⟨k - 1,by omega⟩
  rw [bg.l0,alx (by omega),xE (k + 1) msg j hm (sW hm (by omega) (by omega)),Hr]
  simp only [Option.bind_some]
  rcases wC msg j hm with ⟨b1,b2,_,b4,b5⟩ | ⟨b1,_⟩
  ·have hz:=rV b2
   rw [alx b1,alx b1,alx (by omega),iC (n:=x + 1) (by omega) (by omega)]
   by_cases c:(yj msg j).2.1 > i + size
   ·rw [alx c]
    exact Ht msg i size s0 s1 s2 hm ht0 h2 hs n k _ _ _ (by omega) (by omega) (by omega) (by omega) b5 (by rw [alO];omega)
   ·rw [aly c]
    have e:a ++ strings_Join.cat l ++ (yj msg j).1 = a ++ strings_Join.cat (l ++ [(yj msg j).1]):=by rw [Js,Ve,ant]
    rw [e]
    exact Q8 msg i size s0 s1 s2 a hm ht0 h2 hs n k _ _ _ (by omega) (by omega) (by omega) (by omega) (by omega) (by rw [← e,alO];omega)
  ·rw [aly (by omega),aly (by omega)]
theorem Jt (k:Nat) (hk:K0 + 10 ≤ k) (msg:ByteArray) (i size kind:Int) (hm:msg.size ≤ 100000):bg.f k msg i size kind = some (BN msg i size kind):=by
 unfold bg.f BN
 rw [rR msg i size (by omega),qF k (by omega)]
 simp only [Option.bind_some]
 by_cases ht:iP msg i size
 ·rw [alx ht,alx ht]
  simp only [ama]
  obtain ⟨t0,t1,t2⟩:=ht
  have hz:(msg.extract i.toNat (i + size).toNat).size = size.toNat:=by rw [al1];omega
  cases hs:aD.AL kind with
  | none =>
   simp only [Option.getD_none]
   rw [alx (by decide)]
   exact CZ msg i size kind k (by omega) hm (bD.f k) (fun s h=>EM k (by omega) s h) _ (by omega)
  | some s =>
   obtain ⟨a1,a2,a3,a4,a5,a6,a7,a8⟩:=mD hs
   obtain ⟨s0,s1,s2⟩:=s
   simp only at a1 a2 a3 a4 a5 a6 a8
   simp only [Option.getD_some]
   have main:(if s0 > size then some ((⟨#[]⟩:ByteArray),(4:Int)) else (if 0 ≤ s0 then (if s0 ≤ ((msg.extract i.toNat (i + size).toNat).size:Int) then (bg.l0 k msg i size ((msg.extract i.toNat (i + size).toNat).extract 0 (s0:Int).toNat) (wrap64 (i + s0)) 0 s0 s1 s2) else none) else none)) = some (MO msg i size (s0,s1,s2)):=by
    unfold MO
    simp only
    by_cases c:s0 > size
    ·rw [alx c,aly (by omega)]
    ·rw [aly c,alx a1,alx (by omega),alx (by omega),iC (by omega) (by omega)]
     obtain ⟨k,rfl⟩:∃ j,k = j + 1:=⟨k - 1,by omega⟩
     have e:(msg.extract i.toNat (i + size).toNat).extract 0 s0.toNat = msg.extract i.toNat (i + s0).toNat:=by
      rw [anJ];congr 1 <;> omega
     have hz2:(msg.extract i.toNat (i + s0).toNat).size ≤ 16:=by rw [al1];omega
     have h:=Q8 msg i size s0 s1 s2 (msg.extract i.toNat (i + s0).toNat) hm ⟨t0,t1,t2⟩ ⟨a5,by omega⟩ (by omega) s1.toNat k (i + s0) 0 [] (by omega) (by omega) (amb _) (by omega) (by omega) (by simp only [strings_Join.cat,append_empty];omega)
     simp only [strings_Join.cat,append_empty] at h
     rw [e,h]
   have hne:¬ ((s0 == 0 && (s1 == 0 && (s2 == 0))) = true):=by
    intro h
    simp only [alN,alW] at h
    exact a8 h.1 h.2.1
   rw [aly hne]
   exact main
 ·rw [aly ht,aly ht];rfl
end
section
open Go.RowKit Go.Proofs.YtfokaoeinpnagaaGreatW.bI Go.Proofs.YtfokaoeinpnagaaGreatW.eF Go.Proofs.YtfokaoeinpnagaaGreatW.fK Go.Proofs.YtfokaoeinpnagaaGreat.B
def yT (kind:Int) (d:ByteArray):Bool:=decide (d.size ≤ 65535) && (decide ((BN d 0 d.size kind).2 = 0) && decide ((BN d 0 d.size kind).1 = d))
theorem wE {kind:Int} {d:ByteArray}:yT kind d = true ↔ d.size ≤ 65535 ∧ BN d 0 d.size kind = (d,0):=by
 unfold yT
 simp only [alN,alL]
 constructor
 ·rintro ⟨h1,h2,h3⟩;exact ⟨h1,Prod.ext h3 h2⟩
 ·rintro ⟨h1,h2⟩;rw [h2];exact ⟨h1,rfl,rfl⟩
theorem C8 (k:Nat) (hk:K0 + 10 ≤ k) (kind:Int) (d:ByteArray):jH.f k kind d = some (yT kind d):=by
 unfold jH.f yT
 by_cases h:(d.size:Int) > 65535
 ·rw [alx h,alB (by omega)];rfl
 ·rw [aly h,Zv k hk d 0 _ kind (by omega),alz (by omega),am1]
  simp only [Option.bind_some]
  by_cases h0:(BN d 0 d.size kind).2 = 0
  ·rw [alx h0,alz h0,Ay,am1]
  ·rw [aly h0,alB h0,Bool.false_and]
theorem pz (k:Nat) (hk:K0 + 10 ≤ k) (kind:Int) (d:ByteArray):bY.f k kind d = some (yT kind d):=by
 unfold bY.f yT
 by_cases h:(d.size:Int) > 65535
 ·rw [alx h,alB (by omega)];rfl
 ·rw [aly h,Jt k hk d 0 _ kind (by omega),alz (by omega),am1]
  simp only [Option.bind_some]
  by_cases h0:(BN d 0 d.size kind).2 = 0
  ·rw [alx h0,alz h0,Ay,am1]
  ·rw [aly h0,alB h0,Bool.false_and]
theorem Ju (d:ByteArray):iP d 0 d.size:=⟨amb _,by omega,by omega⟩
theorem MQ {x d:ByteArray} (h:AU x = (d,0)):x = d ∧ x.size ≤ 65535:=by
 unfold AU at h
 split at h
 ·have:=al2 Prod.snd h;cases this
 ·exact ⟨al2 Prod.fst h,by omega⟩
theorem rW {kind:Int} {d:ByteArray} {s:Int × Int × Int} (h:yT kind d = true) (hs:aD.AL kind = some s) :
  ∃ R,s.1 ≤ (d.size:Int) ∧ Hr d d.size s.2.1.toNat s.1 [] = some R ∧ R.2 + s.2.2 = d.size ∧ d = d.extract 0 s.1.toNat ++ strings_Join.cat R.1 ++ d.extract R.2.toNat d.size ∧ s.1 ≤ R.2 ∧ R.2 ≤ (d.size:Int) ∧ R.1.length = s.2.1.toNat ∧ (∀ x ∈ R.1,kK x = true) ∧ R.2 = s.1 + (strings_Join.cat R.1).size:=by
 obtain ⟨h0,h1⟩:=wE.mp h
 unfold BN MO at h1
 rw [alx (Ju d),hs] at h1
 simp only [Int.zero_add,Int.toNat_natCast] at h1
 obtain ⟨a1,a2,a3,a4,a5,a6,a7,a8⟩:=mD hs
 by_cases c:s.1 ≤ (d.size:Int)
 ·rw [alx c] at h1
  cases hr:Hr d d.size s.2.1.toNat s.1 [] with
  | none=>rw [hr] at h1;have:=al2 Prod.snd h1;cases this
  | some R =>
   rw [hr] at h1
   simp only at h1
   by_cases e:R.2 + s.2.2 = d.size
   ·rw [alx e] at h1
    obtain ⟨h2,_⟩:=MQ h1
    obtain ⟨b1,b2,b3,l',b4,b5⟩:=sV d _ (by omega) _ _ _ R hr c
    rw [List.nil_append] at b4
    rw [← b4] at b5
    have hz:=al2 ByteArray.size h2
    simp only [alO,al1] at hz
    refine ⟨R,c,rfl,e,h2.symm,b1,b2,by rw [b3];simp,b5,?_⟩
    simp only [show (0:Int).toNat = 0 from rfl] at hz
    omega
   ·rw [aly e] at h1;have:=al2 Prod.snd h1;cases this
 ·rw [aly c] at h1;have:=al2 Prod.snd h1;cases this
def prt (kind:Int) (d:ByteArray):ByteArray × ByteArray × List ByteArray × Bool :=
 if yT kind d = true then (match aD.AL kind with
  | some s=>(match Hr d d.size s.2.1.toNat s.1 [] with
   | some R=>(d.extract 0 s.1.toNat,d.extract R.2.toNat d.size,R.1,true)
   | none=>(⟨#[]⟩,⟨#[]⟩,[],false))
  | none=>(d,⟨#[]⟩,[],true)) else (⟨#[]⟩,⟨#[]⟩,[],false)
theorem xI : (⟨#[]⟩:ByteArray).size = 0:=rfl
theorem yO (k:Nat) (hk:K0 + 20 ≤ k) (d:ByteArray) (hd:d.size ≤ 65535) (s0 s1 s2:Int) (a1:0 ≤ s0) (a3:0 ≤ s1) (a4:s1 ≤ 2) (a5:0 ≤ s2) (a6:s2 ≤ 20) (R:List ByteArray × Int) (c1:s0 ≤ (d.size:Int)) (c2:Hr d d.size s1.toNat s0 [] = some R) (c3:R.2 + s2 = d.size) :
  dw.f k d 0 (d.size:Int) s0 s1 s2 = some (d.extract 0 s0.toNat,d.extract R.2.toNat d.size,R.1,true):=by
 unfold dw.f
 have e2:wrap64 ((d.size:Int) - 0) = d.size:=by rw [iC (by omega) (by omega)];omega
 have e3:wrap64 (0 + s0) = s0:=by rw [iC (by omega) (by omega)];omega
 obtain ⟨b1,b2,_⟩:=sV d _ (by omega) _ _ _ R c2 c1
 have hz:((d.extract R.2.toNat d.size).size:Int) = s2:=by rw [al1];omega
 obtain ⟨k,rfl⟩:∃ j,k = j + 1:=⟨k - 1,by omega⟩
 have h:=EK d d.size s0 s1 s2 (d.extract 0 s0.toNat) ⟨#[]⟩ (by omega) (amb _) ⟨a5,by omega⟩ s1 (by omega) s1.toNat k s0 0 [] (by omega) (by omega) (amb _) a1 c1 (by simp only [List.length_nil];omega)
 rw [c2] at h
 simp only [Int.toNat_natCast] at h
 rw [show (((d.extract R.2.toNat d.size).size:Int) == s2) = true from alW.mpr hz] at h
 rw [e2,alx c1,alx (amb _),e3,alx a1,alx c1]
 exact h
theorem C9 (k:Nat) (hk:K0 + 20 ≤ k) (kind:Int) (d:ByteArray):dF.f k kind d = some (prt kind d):=by
 unfold dF.f prt
 rw [C8 k (by omega)]
 simp only [Option.bind_some]
 by_cases h:yT kind d = true
 ·rw [alx h,alx h]
  cases hs:aD.AL kind with
  | none=>rfl
  | some s =>
   obtain ⟨R,c1,c2,c3,c4,c5,c6,c7,c8,c9⟩:=rW h hs
   obtain ⟨a1,a2,a3,a4,a5,a6,a7,a8⟩:=mD hs
   obtain ⟨h0,_⟩:=wE.mp h
   obtain ⟨s0,s1,s2⟩:=s
   simp only at a1 a2 a3 a4 a5 a6 c1 c2 c3 c5
   simp only [c2]
   exact yO k hk d h0 s0 s1 s2 a1 a3 a4 a5 a6 R c1 c2 c3
 ·rw [aly h,aly h]
theorem Q9 (k:Nat) (hk:K0 + 20 ≤ k) (kind:Int) (d:ByteArray):oD.f k kind d = some (prt kind d).2.2.1:=by
 unfold oD.f;rw [C9 k hk];rfl
theorem Da {kind:Int} {d:ByteArray}:(∀ x ∈ (prt kind d).2.2.1,kK x = true) ∧ (prt kind d).2.2.1.length ≤ 2:=by
 unfold prt
 by_cases h:yT kind d = true
 ·rw [alx h]
  cases hs:aD.AL kind with
  | none=>exact ⟨by simp,by simp⟩
  | some s =>
   obtain ⟨R,c1,c2,c3,c4,c5,c6,c7,c8,c9⟩:=rW h hs
   obtain ⟨a1,a2,a3,a4,a5,a6,a7,a8⟩:=mD hs
   simp only [c2]
   exact ⟨c8,by omega⟩
 ·rw [aly h];exact ⟨by simp,by simp⟩
theorem yt (k:Nat) (hk:600 ≤ k) (n:ByteArray) (hs:n.size ≤ 1000000000):ou.f k n = some (if kK n = true then qM n else ⟨#[]⟩):=by
 unfold ou.f
 rw [GX k hk n hs,Y7 n hs]
 simp only [Option.bind_some]
 split <;> rfl
theorem AX (k:Nat) (hk:600 ≤ k) (n:ByteArray) (hs:n.size ≤ 1000000000):gy.f k n = some (if kK n = true then qM n else ⟨#[]⟩):=by
 unfold gy.f
 rw [vZ k hk n hs,QA n hs]
 simp only [Option.bind_some]
 split <;> rfl
theorem all_eq (k:Nat) (hk:600 ≤ k):∀ l:List ByteArray,(∀ x ∈ l,kK x = true) → fI.all k l = some (l.map qM)
 | [],_=>rfl
 | x :: l,h=>by
  have hx:=h x (by simp)
  have hz:=rV hx
  rw [fI.all,yt k hk x (by omega),alx hx]
  simp only [Option.bind_some]
  rw [all_eq k hk l (fun y hy=>h y (by simp [hy]))]
  rfl
theorem wF : ∀ l:List ByteArray,(strings_Join.cat (l.map qM)).size = (strings_Join.cat l).size
 | []=>rfl
 | x :: l=>by rw [alD,strings_Join.cat,strings_Join.cat,alO,alO,CU,wF l]
def lw (kind:Int) (d:ByteArray):ByteArray:=(prt kind d).1 ++ strings_Join.cat ((prt kind d).2.2.1.map qM) ++ (prt kind d).2.1
theorem MR {kind:Int} {d:ByteArray}:(prt kind d).1.size ≤ 65535 ∧ (prt kind d).2.1.size ≤ 65535:=by
 unfold prt
 by_cases h:yT kind d = true
 ·obtain ⟨h0,_⟩:=wE.mp h
  rw [alx h]
  cases hs:aD.AL kind with
  | none=>exact ⟨h0,by show (⟨#[]⟩:ByteArray).size ≤ 65535;decide⟩
  | some s =>
   obtain ⟨R,c1,c2,_⟩:=rW h hs
   simp only [c2]
   simp only [al1]
   omega
 ·rw [aly h];exact ⟨by decide,by decide⟩
theorem Vf (k:Nat) (hk:K0 + 20 ≤ k) (kind:Int) (d:ByteArray):fI.f k kind d = some (lw kind d):=by
 obtain ⟨p1,p2⟩:=@Da kind d
 obtain ⟨p3,p4⟩:=@MR kind d
 have hcz:=wD p1
 unfold fI.f
 rw [C9 k hk]
 simp only [Option.bind_some]
 rw [all_eq k (by unfold K0 at hk;omega) _ p1]
 simp only [Option.bind_some]
 unfold fI.fin lw
 rw [alx (by rw [wF];omega),alx (by rw [alA];omega)]
theorem wG (d:ByteArray) (e s0 s1 s2:Int) (hm:d.size ≤ 100000) (he:e ≤ (d.size:Int)) (hs:s1 ≤ 100):∀ (n k:Nat) (l:List ByteArray) (i x:Int) (R:List ByteArray × Int),K0 + n ≤ k → x + n = s1 → 0 ≤ x → i ≤ e → l.length + n ≤ 1000 → Hr d e n i l = some R →
  bq.l0 (k + 1) d l i x s0 s1 s2 = some R.1
 | 0,k,l,i,x,R,hk,hx,hx0,hi,hl,h=>by
  cases h
  rw [bq.l0,aly (by omega)]
 | n + 1,k,l,i,x,R,hk,hx,hx0,hi,hl,h=>by
  obtain ⟨k,rfl⟩:∃ m,k = m + 1:=⟨k - 1,by omega⟩
  rw [Hr] at h
  rw [bq.l0,alx (by omega),xE (k + 1) d i hm (sW hm (by omega) (by omega))]
  simp only [Option.bind_some]
  by_cases h0:(yj d i).2.2 = 0
  ·rw [alx h0] at h
   by_cases h1:(yj d i).2.1 > e
   ·rw [alx h1] at h;cases h
   ·rw [aly h1] at h
    rw [alx (by omega),iC (by omega) (by omega)]
    exact wG d e s0 s1 s2 hm he hs n k _ _ _ R (by omega) (by omega) (by omega) (by omega) (by rw [alX,List.length_singleton];omega) h
  ·rw [aly h0] at h;cases h
theorem wH (k:Nat) (hk:K0 + 20 ≤ k) (kind:Int) (d:ByteArray):bq.f k kind d = some (prt kind d).2.2.1:=by
 unfold bq.f prt
 rw [pz k (by omega),qF k (by omega)]
 simp only [Option.bind_some]
 obtain ⟨k,rfl⟩:∃ j,k = j + 1:=⟨k - 1,by omega⟩
 by_cases h:yT kind d = true
 ·rw [alx h,alx h]
  obtain ⟨h0,_⟩:=wE.mp h
  cases hs:aD.AL kind with
  | none =>
   rw [Option.getD_none,bq.l0,aly (by decide)]
  | some s =>
   obtain ⟨R,c1,c2,c3,c4,c5,c6,c7,c8,c9⟩:=rW h hs
   obtain ⟨a1,a2,a3,a4,a5,a6,a7,a8⟩:=mD hs
   simp only [c2,Option.getD_some]
   exact wG d d.size _ _ _ (by omega) (amb _) (by omega) s.2.1.toNat k [] s.1 0 R (by omega) (by omega) (amb _) c1 (by simp only [List.length_nil];omega) c2
 ·rw [aly h,aly h]
theorem Vg {α} (d:α) (p:List α) (x:α) (s:List α):rE d (p ++ x :: s) (p.length:Int) = x:=by
 unfold rE;simp
theorem uH (d:ByteArray) (hd:d.size ≤ 65535) (xs:List ByteArray) (hxs:xs.length ≤ 1000):∀ (suf pre:List ByteArray) (k:Nat) (out:ByteArray) (i:Int),xs = pre ++ suf → (∀ x ∈ suf,kK x = true) → 700 + suf.length ≤ k → 0 ≤ i → i + (strings_Join.cat suf).size ≤ d.size → out.size + (strings_Join.cat suf).size ≤ 1000000 →
  bN.l0 (k + 1) d xs out i (pre.length:Int) = some (out ++ strings_Join.cat (suf.map qM) ++ d.extract (i + (strings_Join.cat suf).size).toNat d.size)
 | [],pre,k,out,i,hx,hn,hk,hi,hs,ho=>by
  rw [amC] at hx
  subst hx
  have hz:(d.extract i.toNat d.size).size ≤ 65535:=by rw [al1];omega
  simp only [strings_Join.cat,alE,GD,append_empty] at hs ho ⊢
  rw [bN.l0,aly (by omega),alx hi,alx (by omega),alx (by omega)]
  congr 3
  omega
 | x :: suf,pre,k,out,i,hx,hn,hk,hi,hs,ho=>by
  obtain ⟨k,rfl⟩:∃ j,k = j + 1:=⟨k - 1,by simp only [List.length_cons] at hk;omega⟩
  have hxn:=hn x (by simp)
  have hz:=rV hxn
  have hrd:rE ByteArray.empty xs (pre.length:Int) = x:=by rw [hx];exact Vg _ _ _ _
  have hl:(xs.length:Int) = pre.length + suf.length + 1:=by rw [hx];simp;omega
  simp only [List.length_cons,strings_Join.cat,alO] at hk hs ho
  have hlz:=CU x
  rw [bN.l0,alx (by omega),alx (by omega),hrd,AX (k + 1) (by omega) x (by omega),alx hxn]
  simp only [Option.bind_some]
  rw [alx (by omega),iC (n:=i + (x.size:Int)) (by omega) (by omega),iC (by omega) (by omega),show ((pre.length:Int) + 1) = ((pre ++ [x]).length:Int) from by simp]
  have:=uH d hd xs hxs suf (pre ++ [x]) k (out ++ qM x) (i + x.size) (by rw [hx];simp) (fun y hy=>hn y (by simp [hy])) (by omega) (by omega) (by omega) (by rw [alO];omega)
  rw [this]
  have e:i + (x.size:Int) + ((strings_Join.cat suf).size:Int) = i + ((x.size + (strings_Join.cat suf).size:Nat):Int):=by omega
  rw [e]
  simp only [alD,strings_Join.cat,alO,ant]
theorem Jv (k:Nat) (hk:K0 + 20 ≤ k) (kind:Int) (d:ByteArray):bN.f k kind d = some (lw kind d):=by
 obtain ⟨p1,p2⟩:=@Da kind d
 unfold bN.f
 rw [pz k (by omega),wH k hk,qF k (by omega)]
 simp only [Option.bind_some]
 unfold lw prt
 unfold prt at p1 p2
 unfold K0 at hk
 obtain ⟨k,rfl⟩:∃ j,k = j + 1:=⟨k - 1,by omega⟩
 by_cases h:yT kind d = true
 ·simp only [alx h] at p1 p2 ⊢
  obtain ⟨h0,_⟩:=wE.mp h
  cases hs:aD.AL kind with
  | none =>
   simp only [Option.getD_none]
   rw [alx (amb _),alx (by omega)]
   have:=uH d h0 [] (by simp) [] [] k (d.extract 0 0) 0 rfl (by simp) (by simp only [List.length_nil];omega) (amb _) (by simp only [strings_Join.cat,xI];omega) (by simp only [strings_Join.cat,xI,al1];omega)
   simp only [List.length_nil] at this
   rw [show ((0:Int).toNat) = 0 from rfl,show ((0:Nat):Int) = 0 from rfl] at *
   rw [this]
   have e0:d.extract 0 0 = ⟨#[]⟩:=eq_empty (by rw [al1];omega)
   simp [strings_Join.cat,e0,empty_append,append_empty,xI,anI]
  | some s =>
   obtain ⟨R,c1,c2,c3,c4,c5,c6,c7,c8,c9⟩:=rW h hs
   obtain ⟨a1,a2,a3,a4,a5,a6,a7,a8⟩:=mD hs
   simp only [hs,c2,Option.getD_some] at p1 p2 ⊢
   have hcz:=wD p1
   rw [alx a1,alx c1]
   have:=uH d h0 R.1 (by omega) R.1 [] k (d.extract 0 s.1.toNat) s.1 rfl p1 (by omega) a1 (by omega) (by rw [al1];omega)
   rw [show ((([]:List ByteArray).length:Nat):Int) = 0 from rfl] at this
   rw [this,c9]
 ·simp only [aly h]
  rfl
end
end Go.Proofs.YtfokaoeinpnagaaGreat.ZQ
namespace Go.Proofs.YtfokaoeinpnagaaGreat.Ev
section
open Go Go.RowKit
structure Old (w w':World):Prop where
 os:w'.os = w.os
 output:w'.output = w.output
 size:w.heap.size ≤ w'.heap.size
 block:∀ k,k < w.heap.size → w'.heap[k]? = w.heap[k]?
theorem Old.frame {W w':World} (h:Old W w') (may:MemPlace → Prop):W.keptBut w' may:=by
 refine ⟨h.os,h.output,fun i hi=>?_⟩
 rw [h.block i hi]
 split <;> simp_all
theorem Old.same {W w':World} (h:Old W w') {p:MemPlace} (hp:p.block < W.heap.size):W.sameAt w' p:=by
 cases p with
 | cell b o=>exact World.cell?_of_block (w:=W) (h.block b hp)
 | map b=>exact h.block b hp
theorem Old.trod {H:Type} {enc:TypeId × Value → H} {P:Program} {t:TypeId} (hl:laidOutB P = true) (hr:P.readableRec t = true) (hrow:t < P.types.size) {W W':World} {v:Value} {d:DataW H} {ps:List MemPlace}
  (h:DataW.Trod enc P W 0 (fun _=>true) true t v d ps) (hb:Old W W') (hlt:∀ x ∈ ps,x.block < W.heap.size):DataW.Trod enc P W' 0 (fun b=>decide (b < W.heap.size)) true t v d ps :=
 WideElems.Trod_stays hl hr hrow h (fun x hx=>hb.same (hlt x hx)) (fun x hx=>by simpa using hlt x hx)
theorem MV {P:Program} {Γ:Env} (mV:jg P Γ) {f:FuncId} {gN uy:List AV} {b:Bool} {vals:List Value} {W:World} (h:Γ f gN = some ([.one (.f (.bool b))],uy)) (ha:gQ (fun k=>k < W.heap.size) W gN vals []) :
  Calls P f vals.toArray W fun e W'=>e = .returned (.bool b) ∧ Old W W':=by
 refine (mV f gN _ _ h (fun k=>k < W.heap.size) W vals [] ha amU (by simp) (fun _ h=>h)).mono fun e w' ⟨bR,wR,b1,b2,he,hp⟩=>?_
 refine ⟨?_,hp.kp.1,hp.kp.2,hp.big,fun k hk=>hp.ext k hk (by simp)⟩
 match wR,hp.rs with
 | [v],⟨c1,c2,h1,h2,h3⟩=>rw [he,show v = .bool b from h1.1];rfl
def Lf (P:Program) {α:Type} (T:TypeId) (f:α → List FV) (G:α → Prop):Prop :=
 ∀ {H:Type} (enc:TypeId × Value → H) (w:World) (spare:Nat → Bool) (held:Bool) (fuel:Nat) (cs:List Value) (x:DataW H × List MemPlace),
  DataW.trod enc P w 0 spare held fuel T cs = some x → (∀ n ∈ x.1.weights P T,n ≤ reachBytes) → ∃ a:α,dJ (fun k=>k < w.heap.size) w (f a) cs ∧ G a
section
variable {P : Program}
theorem wI {k:IntKind} {T:TypeId} (h:P.underlying T = some (.int k)):Lf P T (fun n=>[FV.int k n]) (fun n=>(Lit.int k n).wf = true):=by
 intro H enc w spare held fuel cs x hx _
 obtain ⟨n,rfl,rfl,hw⟩:=DataW.trod_int h hx
 exact ⟨n,⟨by simp only [fU],trivial⟩,hw⟩
theorem Lg {T:TypeId} (h:P.underlying T = some .string):Lf P T (fun s=>[FV.str s]) (fun s=>s.size ≤ 140737488351232):=by
 intro H enc w spare held fuel cs x hx hz
 obtain ⟨s,rfl,rfl,hw⟩:=DataW.trod_string h hx
 refine ⟨s,⟨by simp only [fU],trivial⟩,?_⟩
 have:=hz s.data.toList.length (by simp [DataW.weights])
 rw [Array.length_toList] at this
 exact this
theorem qb {H:Type} {e:TypeId}:∀ {ds:List (DataW H)} {i:Nat} {d:DataW H},ds[i]? = some d → ∀ n ∈ d.weights P e,n ∈ DataW.weightsAll P e ds
 | [],i,d,h,_,_=>by simp at h
 | d0 :: ds,0,d,h,n,hn=>by
  simp at h;subst h
  exact amj.mpr (.inl hn)
 | d0 :: ds,i + 1,d,h,n,hn=>by
  simp at h
  exact amj.mpr (.inr (qb h n hn))
theorem yu {H:Type} {ts:List TypeId} {ds:List (DataW H)} (h:(DataW.weightsEach P ts ds).all (· ≤ reachBytes) = true) {j:Nat} {t:TypeId} {d:DataW H} (ht:ts[j]? = some t) (hd:ds[j]? = some d) :
  ∀ n ∈ d.weights P t,n ≤ reachBytes:=fun n hn=>by
 have:=alY.1 h n (DataW.weights_mem_each ht hd n hn)
 simpa using this
theorem wJ {α:Type} {Q:Nat → α → Prop}:∀ n,(∀ i,i < n → ∃ y,Q i y) → ∃ ys:List α,ys.length = n ∧ ∀ i y,ys[i]? = some y → Q i y
 | 0,_=>⟨[],rfl,by simp⟩
 | n + 1,h=>by
  obtain ⟨ys,hl,hq⟩:=wJ n (fun i hi=>h i (by omega))
  obtain ⟨y,hy⟩:=h n (by omega)
  refine ⟨ys ++ [y],by simp [hl],fun i z hz=>?_⟩
  by_cases hi:i < n
  ·rw [am3 (by omega)] at hz
   exact hq i z hz
  ·have hlt:=(amm.1 hz).1
   simp only [alX,List.length_singleton] at hlt
   obtain rfl:i = n:=by omega
   rw [anr (by omega),hl,Nat.sub_self] at hz
   simp at hz
   subst hz
   exact hy
theorem Dc {Fz:Nat → Prop} {w:World} {b:Nat}:∀ (xs:List FV) (cs:List Value) (o:Nat),dJ Fz w xs cs → (∀ i u,cs[i]? = some u → w.cell? ⟨b,o + i,none⟩ = some u) → fC Fz w b o xs
 | [],_,_,_,_=>by simp only [fC]
 | x :: xs,[],_,h,_=>h.elim
 | x :: xs,c :: cs,o,h,hc=>by
  simp only [fC]
  exact ⟨⟨c,hc 0 c rfl,h.1⟩,Dc xs cs (o + 1) h.2 fun i u hi=>by rw [show o + 1 + i = o + (i + 1) from by omega];exact hc (i + 1) u hi⟩
theorem A8 {Fz:Nat → Prop} {w:World} {sz b:Nat} {α:Type} {f:α → List FV} (hf:∀ a,(f a).length = sz):∀ (l:List α) (o:Nat),(∀ i y,l[i]? = some y → fC Fz w b (o + i * sz) (f y)) → dO Fz w sz b o (l.map f)
 | [],_,_=>by simp only [alE,dO]
 | y :: l,o,h=>by
  simp only [alD,dO]
  refine ⟨hf y,by simpa using h 0 y rfl,A8 hf l (o + sz) fun i z hz=>?_⟩
  rw [show o + sz + i * sz = o + (i + 1) * sz from by rw [Nat.add_mul];omega]
  exact h (i + 1) z hz
theorem MW (a:Addr) (x y:Nat):(a.add x).add y = a.add (x + y):=by
 unfold Addr.add
 by_cases hx:x = 0
 ·subst hx;simp
 ·by_cases hy:y = 0
  ·subst hy;simp [hx]
  ·simp [hx,hy,Nat.add_assoc]
theorem A9 {w:World} {a:Addr} {u:Value} (h:w.cell? a = some u):a = ⟨a.block,a.off,none⟩ ∧ a.block < w.heap.size:=by
 unfold World.cell? at h
 split at h
 ·rename_i c _ _ hb
  split at h
  ·cases h
  ·rename_i hs
   obtain ⟨b,o,s⟩:=a
   cases s with
   | none=>exact ⟨rfl,by have:=(amI.mp hb).1;exact this⟩
   | some s=>simp at hs
 ·cases h
theorem Df {α:Type} {f:α → List FV} {T e:TypeId} {G:α → Prop} (sz:Nat) (h:P.underlying T = some (.slice e)) (hc:P.cellsOf e = sz) (h0:0 < sz) (hf:∀ a,(f a).length = sz) (hby:decide (1 ≤ P.bytesOf e) = true) (hd:Lf P e f G) :
  Lf P T (fun l:List α=>[FV.sl (l.map f)]) (fun l=>l.length ≤ 140737488351232 ∧ ∀ x ∈ l,G x):=by
 intro H enc w spare held fuel cs x hx hz
 rcases DataW.trod_slice h hx with ⟨rfl,rfl⟩ | ⟨a,len,cap,elems,rest,n,_,rfl,rfl,hb,hl,hm,hlen,hel,_,_⟩
 ·refine ⟨[],⟨?_,trivial⟩,by simp⟩
  simp only [fU]
  exact ⟨none,0,rfl,alC _,by simp,.inl rfl⟩
 ·have hw:∀ m ∈ (elems.length + rest.length) * P.bytesOf e :: (DataW.weightsAll P e (elems.map (·.1)) ++ DataW.weightsAll P e (rest.map (·.1))),m ≤ reachBytes:=by
   intro m hm'
   refine hz m ?_
   simp only [DataW.weights,h,alA]
   exact hm'
  obtain ⟨ys,hyl,hys⟩:=wJ (α:=α) (Q:=fun i y=>∃ c,w.cells? 0 (a.add (i * P.cellsOf e)) (P.cellsOf e) = some c ∧ dJ (fun k=>k < w.heap.size) w (f y) c ∧ G y) len (fun i hi=>by
   have h1:=hel i hi
   rw [alT (by omega),Option.bind_eq_some_iff] at h1
   obtain ⟨c,hc1,hc2⟩:=h1
   obtain ⟨y,hy,hg⟩:=hd enc w spare held n c _ hc2 (fun m hm'=>by
    refine hw m (amu _ (amj.mpr (.inl ?_)))
    exact qb (i:=i) (d:=(elems[i]'(by omega)).1) (by rw [alG,alT (by omega)];rfl) m hm')
   exact ⟨y,c,hc1,hy,hg⟩)
  have hlen1:(elems.length + rest.length) * P.bytesOf e ≤ reachBytes:=hw _ (by simp)
  have hlm:cap ≤ 9223372036854775807:=by unfold maxLen at hm;omega
  refine ⟨ys,⟨?_,trivial⟩,?_,?_⟩
  ·simp only [fU,alA]
   refine ⟨some a,cap,by rw [hyl],by omega,by omega,?_⟩
   cases hy0:ys with
   | nil=>exact .inl rfl
   | cons y0 ys0 =>
    right
    obtain ⟨c0,k0,_,_⟩:=hys 0 y0 (by rw [hy0];rfl)
    rw [hc] at k0
    obtain ⟨_,kl,kc⟩:=World.cells?_some k0
    have k1:=kc 0 h0
    rw [alT (by omega)] at k1
    obtain ⟨ea,eb⟩:=A9 k1
    have ea0:(a.add (0 * sz)).add 0 = a:=by simp [Addr.add]
    rw [ea0] at ea eb
    refine ⟨a.block,a.off,sz,al2 some ea,eb,?_⟩
    rw [← hy0]
    refine A8 hf ys a.off fun i y hi=>?_
    obtain ⟨c,hc1,hk,_⟩:=hys i y hi
    rw [hc] at hc1
    obtain ⟨_,hcl,hcc⟩:=World.cells?_some hc1
    refine Dc _ c _ hk fun j u hj=>?_
    have hj':j < sz:=by have:=(amm.1 hj).1;omega
    have:=hcc j hj'
    rw [MW,hj] at this
    obtain ⟨e1,_⟩:=A9 this
    rw [e1] at this
    have e2:a.add (i * sz + j) = ⟨a.block,a.off + i * sz + j,none⟩:=by
     rw [ea];unfold Addr.add;split
     ·rename_i hz;congr 1;simp only;omega
     ·congr 1;simp only;omega
    rw [e2] at this
    exact this
  ·rw [hyl,← hlen]
   have h1:elems.length * P.bytesOf e ≤ (elems.length + rest.length) * P.bytesOf e:=am8 _ (by omega)
   have h2:reachBytes = 140737488351232:=rfl
   have h3:elems.length * 1 ≤ elems.length * P.bytesOf e:=Nat.mul_le_mul_left _ (alQ hby)
   omega
  ·intro y hy
   obtain ⟨i,hi,rfl⟩:=List.mem_iff_getElem.1 hy
   obtain ⟨_,_,_,hg⟩:=hys i _ (alT hi)
   exact hg
def Vl (P:Program) {α:Type} (sz:Nat) (f:α → List FV) (fs:List (TypeId × Nat)) (off:Nat) (G:α → Prop):Prop :=
 ∀ {H:Type} (enc:TypeId × Value → H) (w:World) (spare:Nat → Bool) (held:Bool) (n:Nat) (cs:List Value) (xs:List (DataW H × List MemPlace)),
  (∀ (i:Nat) (f:TypeId × Nat),fs[i]? = some f → DataW.trod enc P w 0 spare held n f.1 ((cs.drop f.2).take (P.cellsOf f.1)) = xs[i]?) → xs.length = fs.length →
  (∀ (i:Nat) (x:DataW H × List MemPlace) (f:TypeId × Nat),xs[i]? = some x → fs[i]? = some f → ∀ m ∈ x.1.weights P f.1,m ≤ reachBytes) → cs.length = off + sz → ∃ a,dJ (fun k=>k < w.heap.size) w (f a) (cs.drop off) ∧ G a
theorem xJ {α:Type} {sz:Nat} {f:α → List FV} {t:TypeId} {off:Nat} {G:α → Prop} (hd:Lf P t f G) (hc:P.cellsOf t = sz):Vl P sz f [(t,off)] off G:=by
 intro H enc w spare held n cs xs hf hl hw hn
 match xs,hl with
 | [y],_ =>
  have h1:=hf 0 _ rfl
  have h2:(cs.drop off).take (P.cellsOf t) = cs.drop off:=am7 (by rw [al5];omega)
  rw [h2] at h1
  exact hd enc w spare held n _ y h1 (hw 0 y _ rfl rfl)
theorem Dg {Fz:Nat → Prop} {w:World}:∀ {xs ys:List FV} {cs ds:List Value},dJ Fz w xs cs → dJ Fz w ys ds → dJ Fz w (xs ++ ys) (cs ++ ds)
 | [],_,[],_,_,h=>h
 | [],_,_ :: _,_,h,_=>h.elim
 | _ :: _,_,[],_,h,_=>h.elim
 | x :: xs,ys,c :: cs,ds,h,k=>⟨h.1,Dg h.2 k⟩
theorem mE {α β:Type} {sz sz':Nat} {f:α → List FV} {g:β → List FV} {t:TypeId} {fs:List (TypeId × Nat)} {off:Nat} {G:α → Prop} {G':β → Prop} (hd:Lf P t f G) (hc:P.cellsOf t = sz)
  (hr:Vl P sz' g fs (off + sz) G'):Vl P (sz + sz') (fun p:α × β=>f p.1 ++ g p.2) ((t,off) :: fs) off (fun p=>G p.1 ∧ G' p.2):=by
 intro H enc w spare held n cs xs hf hl hw hn
 match xs,hl with
 | y :: ys,hl =>
  have h1:=hf 0 _ rfl
  obtain ⟨a,ha,ga⟩:=hd enc w spare held n _ y h1 (hw 0 y _ rfl rfl)
  obtain ⟨b,hb,gb⟩:=hr enc w spare held n cs ys (fun i f hi=>hf (i + 1) f hi) (by simpa using hl) (fun i x f hx hfi=>hw (i + 1) x f hx hfi) (by omega)
  refine ⟨(a,b),?_,ga,gb⟩
  have e:cs.drop off = (cs.drop off).take (P.cellsOf t) ++ cs.drop (off + sz):=by rw [← List.drop_drop,hc,ank]
  rw [e]
  exact Dg ha hb
theorem uI {α:Type} {sz:Nat} {f:α → List FV} {T:TypeId} {fs:Array Field} {G:α → Prop} (h:P.underlying T = some (.struct fs)) (hc:P.cellsOf T = sz)
  (hd:Vl P sz f (fs.toList.map fun f=>(f.type,f.offset)) 0 G):Lf P T f G:=by
 intro H enc w spare held fuel cs x hx hz
 obtain ⟨xs,n,_,rfl,hl,hlen,hf⟩:=DataW.trod_struct h hx
 have hd':=hd enc w spare held n cs xs ?_ (by rw [alA,Array.length_toList];exact hlen) ?_ (by rw [amc,← hc];exact hl)
 ·obtain ⟨a,ha,ga⟩:=hd'
  exact ⟨a,by simpa using ha,ga⟩
 ·intro i f hi
  rw [alG,ane] at hi
  obtain ⟨f',hf',rfl⟩:=hi
  exact hf i f' (by rw [← amR];exact hf')
 ·intro i x f hxi hfi m hm
  refine hz m ?_
  simp only [DataW.weights,h]
  refine DataW.weights_mem_each (j:=i) (t:=f.1) (d:=x.1) ?_ ?_ m hm
  ·rw [alG] at hfi ⊢
   rw [ane] at hfi ⊢
   obtain ⟨f',hf',rfl⟩:=hfi
   exact ⟨f',hf',rfl⟩
  ·rw [alG,hxi];rfl
theorem y5 {α β:Type} {T:TypeId} {f:α → List FV} {f':β → List FV} {G:α → Prop} {G':β → Prop} (g:α → β) (hg:∀ a,f' (g a) = f a) (hG:∀ a,G a → G' (g a)) (hd:Lf P T f G):Lf P T f' G':=by
 intro H enc w spare held fuel cs x hx hz
 obtain ⟨a,ha,ga⟩:=hd enc w spare held fuel cs x hx hz
 exact ⟨g a,by rw [hg];exact ha,hG a ga⟩
theorem Ba {w:World} {r:Reach} {base:Nat} {t:TypeId} {fs:Array Field} {v:Value} (ht:P.underlying t = some (.struct fs)) (h:Value.okWide P w r base t v):∃ cs,v = .agg cs:=by
 simp only [Value.okWide,ht] at h
 obtain ⟨cs,h1,_⟩:=h
 exact ⟨cs,h1⟩
theorem Hz {Fz:Nat → Prop} {w:World}:∀ {xs:List FV} {cs:List Value},dJ Fz w xs cs → ny Fz w (xs.map .f) cs []
 | [],[],_=>rfl
 | [],_ :: _,h=>h.elim
 | _ :: _,[],h=>h.elim
 | x :: xs,c :: cs,h=>⟨[],[],⟨h.1,rfl⟩,Hz h.2,rfl⟩
theorem Rb {Fz:Nat → Prop} {w:World} {xs:List FV} {cs:Array Value} (h:dJ Fz w xs cs.toList):qZ Fz w (.agg (xs.map .f)) (.agg cs) []:=⟨cs,rfl,Hz h⟩
theorem HV {Fz:Nat → Prop} {w:World} {x:FV} {v:Value} (h:fU Fz w x v):qZ Fz w (.one (.f x)) v []:=⟨h,rfl⟩
theorem uJ {Fz:Nat → Prop} {w:World} {x:AV} {v:Value} {xs:List AV} {vs:List Value} (h:qZ Fz w x v []) (k:gQ Fz w xs vs []):gQ Fz w (x :: xs) (v :: vs) []:=⟨[],[],h,k,rfl⟩
theorem MX {Fz:Nat → Prop} {w:World}:gQ Fz w [] [] []:=rfl
end
end
section
open Go
attribute [go_sem ↓] Iw Oq wS Iy Iz
attribute [go_sem] iJ
attribute [go_sem ↓] R5 Ot XL
section
variable {α β:Type} {k:α → Prop} {u:Tok k}
@[go_sem ↓] theorem ahn {c:Prop} [Decidable c] {a b:Option α}:W k u (if c then a else b) ↔ (c → W k u a) ∧ (¬ c → W k u b):=abf
end
def LH : CV → Option (Nat × Nat)
 | .one (.ptr k o)=>some (k,o)
 | _=>none
def tu : CV → Option ByteArray
 | .one (.f (.str s))=>some s
 | _=>none
def Ow : CV → Option (List PL)
 | .agg l=>some l
 | _=>none
def XM : PV → Option (List CV)
 | .wK l=>some l
 | _=>none
@[go_sem] theorem abg {l:List CV}:XM (.wK l) = some l:=rfl
def fav (off:Nat):CV → Option CV
 | .one (.ptr key o)=>some (.one (.ptr key (o + off)))
 | .one (.fp cs)=>some (.one (.fp (cs.drop off)))
 | .one (.rp key z i o)=>some (.one (.rp key z i (o + off)))
 | _=>none
@[go_sem] theorem aen {off k o:Nat}:fav off (.one (.ptr k o)) = some (.one (.ptr k (o + off))):=rfl
@[go_sem] theorem aho {off:Nat} {cs:List FV}:fav off (.one (.fp cs)) = some (.one (.fp (cs.drop off))):=rfl
@[go_sem] theorem ahp {off k z i o:Nat}:fav off (.one (.rp k z i o)) = some (.one (.rp k z i (o + off))):=rfl
def XO : CV → Option Bool
 | .one .dz=>some true
 | .one (.f (.sl (_ :: _)))=>some false
 | _=>none
@[go_sem] theorem ahq : XO (.one .dz) = some true:=rfl
@[go_sem] theorem ahr {r:List FV} {l:List (List FV)}:XO (.one (.f (.sl (r :: l)))) = some false:=rfl
section
variable {α : Type}
@[go_sem] theorem get_nil {i:Nat}:get ([]:List (Nat × α)) i = none:=rfl
@[go_sem] theorem abh {k:Nat} {v:α} {l:List (Nat × α)} {i:Nat}:get ((k,v) :: l) i = if k = i then some v else get l i:=rfl
@[go_sem] theorem aeo {i:Nat}:rem ([]:List (Nat × α)) i = []:=rfl
@[go_sem] theorem abj {k:Nat} {v:α} {l:List (Nat × α)} {i:Nat}:rem ((k,v) :: l) i = if k = i then rem l i else (k,v) :: rem l i:=rfl
@[go_sem] theorem aep {i:Nat} {v:α}:put ([]:List (Nat × α)) i v = [(i,v)]:=rfl
@[go_sem] theorem abk {k:Nat} {w:α} {l:List (Nat × α)} {i:Nat} {v:α}:put ((k,w) :: l) i v = if k = i then (i,v) :: rem l i else (k,w) :: put l i v:=rfl
def Ox (k:Nat) (r:List (Nat × α)):Option α → List (Nat × α)
 | some v=>(k,v) :: r
 | none=>r
@[go_sem] theorem XP {k:Nat} {v:α} {r:List (Nat × α)}:Ox k r (some v) = (k,v) :: r:=rfl
@[go_sem] theorem XQ {k:Nat} {r:List (Nat × α)}:Ox k r none = r:=rfl
@[go_sem] theorem abl {l:List (Nat × α)}:pick [] l = []:=rfl
@[go_sem] theorem ZN {k:Nat} {ks:List Nat} {l:List (Nat × α)}:pick (k :: ks) l = Ox k (pick ks l) (get l k):=by
 unfold pick
 rw [List.filterMap_cons]
 cases get l k <;> rfl
end
section
variable {Γ : Env} {F d:Nat} {q:Bool} {σ:St}
section
variable {k : Out × St → Prop} {u:Tok k}
@[go_sem ↓] theorem ahs : W k u (ev Γ F .skip σ) ↔ k (.jP,σ):=by simp only [ev];exact iJ
@[go_sem ↓] theorem ai7 {is:List G} {ks:List Nat}:W k u (ev Γ F (.reg is ks) σ) ↔ W (fun s=>W k ⟨⟩ (some (.jP,⟨pick ks s.tm,s.ob⟩))) ⟨⟩ (yP Γ false is σ):=by simp only [ev,eT,dG,bO]
@[go_sem ↓] theorem ai8 {pre:List (G × List Nat)} {nD:List Nat} {kJ rest:List G} {ks:List Nat}:W k u (ev Γ F (.qc pre nD kJ rest ks) σ) ↔ W (fun s=>W k ⟨⟩ (some (.jP,⟨pick ks s.tm,s.ob⟩))) ⟨⟩ (ZI Γ pre nD kJ rest σ):=by simp only [ev,eT,dG,bO]
@[go_sem ↓] theorem abm {gs:List G} {ks pE:List Nat} {r:St}:mH Γ gs ks pE σ r [] ↔ True:=alM
@[go_sem ↓] theorem ZO {gs:List G} {ks pE:List Nat} {r:St} {o:List Nat} {os:List (List Nat)}:mH Γ gs ks pE σ r (o :: os) ↔ W (fun s=>W (fun t=>t = r) ⟨⟩ (some (⟨pick ks s.tm,pick pE s.ob⟩:St))) ⟨⟩ (yP Γ false (o.map fun i=>gs.getD i default) σ) ∧ mH Γ gs ks pE σ r os:=by
 conv=>lhs;unfold mH
 simp only [eT,V,alI,exists_eq_left']
@[go_sem ↓] theorem ai9 {gs:List G} {o:List Nat} {os:List (List Nat)} {ks pE:List Nat}:W k u (ev Γ F (.any gs (o :: os) ks pE) σ) ↔ W (fun s=>W (fun r=>mH Γ gs ks pE σ r os ∧ W k ⟨⟩ (some (.jP,r))) ⟨⟩ (some (⟨pick ks s.tm,pick pE s.ob⟩:St))) ⟨⟩ (yP Γ false (o.map fun i=>gs.getD i default) σ):=by
 simp only [ev,evO,eT,bF,bV,bO]
@[go_sem ↓] theorem aja {a b:CC}:W k u (ev Γ F (.seq a b) σ) ↔ W (fun p=>match p.1 with
  | .jP=>W k ⟨⟩ (ev Γ F b p.2)
  | o=>k (o,p.2)) ⟨⟩ (ev Γ F a σ):=by
 simp only [ev,eT,bF]
 refine dN fun p=>?_
 obtain ⟨o,s⟩:=p
 cases o <;> first | rfl | exact bO
@[go_sem ↓] theorem aht {c:eX} {a b:CC}:W k u (ev Γ F (.cond c a b) σ) ↔ W (fun v=>W (fun t=>Br t (fun _=>W k ⟨⟩ (ev Γ F a σ)) (fun _=>W k ⟨⟩ (ev Γ F b σ)) ⟨⟩) ⟨⟩ (bool? v)) ⟨⟩ (val σ c):=by
 simp only [ev,eT,bF]
 refine dN fun v=>dN fun t=>?_
 cases t <;> simp [Br,eT]
@[go_sem ↓] theorem aer {id:Nat} {c:CC}:W k u (ev Γ F (.block id c) σ) ↔ W (fun p=>match p.1 with
  | .ext i=>if i = id then k (.jP,p.2) else k (.ext i,p.2)
  | o=>k (o,p.2)) ⟨⟩ (ev Γ F c σ):=by
 simp only [ev,eT,dG]
 refine dN fun p=>?_
 obtain ⟨o,s⟩:=p
 cases o with
 | ext i=>by_cases hi:i = id <;> simp [hi]
 | _=>exact alM
@[go_sem ↓] theorem gZ {keep Di:List Nat} {rws:List (Nat × Nat)} {c:CC}:W k u (ev Γ F (.loop keep Di rws c) σ) ↔ W k u (iter (ev Γ F c) (res keep Di rws) F σ):=by simp only [ev]
@[go_sem ↓] theorem ahu {id:Nat}:W k u (ev Γ F (.exit id) σ) ↔ k (.ext id,σ):=by simp only [ev];exact iJ
@[go_sem ↓] theorem ajb : W k u (ev Γ F .ret σ) ↔ k (.ret,σ):=by simp only [ev];exact iJ
end
section
variable {k : St → Prop} {u:Tok k}
@[go_sem ↓] theorem ZP : W k u (yP Γ q [] σ) ↔ k σ:=iJ
@[go_sem ↓] theorem XR {g:G} {l:List G}:W k u (yP Γ q (g :: l) σ) ↔ W (fun s=>W k ⟨⟩ (yP Γ q l s)) ⟨⟩ (Rc Γ q σ g):=by
 show W k u ((Rc Γ q σ g).bind (yP Γ q l)) ↔ _
 rw [Iw]
@[go_sem ↓] theorem ajc {g:G}:W k u (Rc Γ q σ g) ↔ W (fun p=>W k ⟨⟩ (some (tq p.2 g.dst p.1))) ⟨⟩ (nQ Γ q σ g):=by simp only [Rc,eT,dG,bO]
def XT (f:Nat → Option (PV × St)):List Nat → Prop
 | []=>True
 | j :: l=>W (fun _=>True) ⟨⟩ (f j) ∧ XT f l
theorem J2 {f:Nat → Option (PV × St)}:∀ {l:List Nat},l.all (fun j=>(f j).isSome) = true ↔ XT f l
 | []=>by simp [XT]
 | j :: l=>by
  rw [List.all_cons,alN,J2 (l:=l)]
  refine and_congr_left fun _=>?_
  cases h:f j with
  | none=>simp [wS]
  | some y=>simp [iJ]
@[go_sem ↓] theorem aes {f:Nat → Option (PV × St)}:XT f [] ↔ True:=alM
@[go_sem ↓] theorem abn {f:Nat → Option (PV × St)} {j:Nat} {l:List Nat}:XT f (j :: l) ↔ W (fun _=>True) ⟨⟩ (f j) ∧ XT f l:=alM
def wkv : Option CV → List Nat
 | some (.one (.ptr k _))=>[k]
 | _=>[]
@[go_sem] theorem aeu {k o:Nat}:wkv (some (.one (.ptr k o))) = [k]:=rfl
@[go_sem] theorem aev {tm:List (Nat × PV)} {dst:Option Nat} {gd:Option (Option Nat × Bool)} {n:Nat} {x y:eX}:uS tm ⟨dst,gd,.store n x y⟩ = wkv (val ⟨tm,[]⟩ x):=by
 show (match val ⟨tm,[]⟩ x with | some (.one (.ptr k _))=>[k] | _=>[]) = _
 cases val ⟨tm,[]⟩ x with
 | none=>rfl
 | some v=>cases v with
  | one y=>cases y <;> rfl
  | agg _=>rfl
@[go_sem ↓] theorem ajd {pre:List (G × List Nat)} {nD:List Nat} {kJ rest:List G}:W k u (ZI Γ pre nD kJ rest σ) ↔ pre.all (fun g=>!kK g.1.i || fresh σ (dY (g.1.dst.getD 999))) = true ∧ W (fun s=>W (fun tm=>XT (fun j=>nQ Γ true ⟨tm,σ.ob.filter (fun p=>!(kJ.flatMap (uS tm)).contains p.1)⟩ (pre.getD j default).1) nD ∧ W (fun ob=>W (fun s=>W k ⟨⟩ (yP Γ false rest s)) ⟨⟩ (some ⟨tm,ob⟩)) ⟨⟩ (Ni Γ tm kJ s.ob)) ⟨⟩ (some (pick (s.tm.map (·.1)) s.tm))) ⟨⟩ (Rv Γ σ.ob pre σ):=by
 simp only [ZI,eT,bF,bV,bO,← J2]
@[go_sem ↓] theorem ZR {tO:List (Nat × Ob)}:W k u (Rv Γ tO [] σ) ↔ k σ:=iJ
@[go_sem ↓] theorem XU {tO:List (Nat × Ob)} {g:G} {nk:List Nat} {l:List (G × List Nat)}:W k u (Rv Γ tO ((g,nk) :: l) σ) ↔ W (fun p=>nk.any (fun k=>tN k p.1 || (kK g.i && (p.2.ob.take 1).any (fun r=>r.1 == k || nP k r.2))) = false ∧ W (fun s=>W k ⟨⟩ (Rv Γ tO l s)) ⟨⟩ (some ⟨uR g.dst σ.tm p.1,if kK g.i then p.2.ob.take 1 ++ σ.ob else σ.ob⟩)) ⟨⟩ (nQ Γ true ⟨σ.tm,tO⟩ g):=by
 conv=>lhs;unfold Rv
 simp only [eT,bF,dR,bO,amD]
end
section
variable {k : List (Nat × Ob) → Prop} {u:Tok k} {tm:List (Nat × PV)} {ob:List (Nat × Ob)}
@[go_sem ↓] theorem ZT : W k u (Ni Γ tm [] ob) ↔ k ob:=iJ
@[go_sem ↓] theorem XV {n:Nat} {x y:eX} {dst:Option Nat} {gd:Option (Option Nat × Bool)} {l:List G}:W k u (Ni Γ tm (⟨dst,gd,.store n x y⟩ :: l) ob) ↔ W (fun v=>W (fun _=>W (fun p=>W k ⟨⟩ (Ni Γ tm l p.2.ob)) ⟨⟩ (dL Γ true ⟨tm,ob⟩ 999 (.store n x y))) ⟨⟩ (LH v)) ⟨⟩ (val ⟨tm,ob⟩ x):=by
 conv=>lhs;unfold Ni
 simp only
 cases hv:val ⟨tm,ob⟩ x with
 | none=>simp only [wS]
 | some v =>
  rw [iJ]
  cases v with
  | one y=>cases y <;> simp only [LH,eT,jX,bO,bF]
  | agg xs=>simp only [LH,wS]
end
section
variable {i : Nat}
def vl : Option PV → Option CV
 | some (.c x)=>some x
 | _=>none
@[go_sem] theorem aew {x:CV}:vl (some (.c x)) = some x:=rfl
@[go_sem] theorem abo : val σ (.t i) = vl (get σ.tm i):=by simp only [val];cases get σ.tm i with | none=>rfl | some v=>cases v <;> rfl
@[go_sem] theorem aje {x:CV}:val σ (.k x) = some x:=rfl
@[go_sem] theorem ahv : uQ σ (.t i) = get σ.tm i:=rfl
@[go_sem] theorem ahw {x:CV}:uQ σ (.k x) = some (.c x):=rfl
@[go_sem] theorem abp {k:IntKind} {n:Int}:int? (.one (.f (.int k n))) = some (k,n):=rfl
@[go_sem] theorem XW {b:Bool}:bool? (.one (.f (.bool b))) = some b:=rfl
@[go_sem] theorem abq {k o:Nat}:LH (.one (.ptr k o)) = some (k,o):=rfl
@[go_sem] theorem abr {s:ByteArray}:tu (.one (.f (.str s))) = some s:=rfl
@[go_sem] theorem abt {l:List PL}:Ow (.agg l) = some l:=rfl
@[go_sem] theorem cells_one {x:PL}:cells (.one x) = [x]:=rfl
@[go_sem] theorem ZU {xs:List PL}:cells (.agg xs) = xs:=rfl
def oc : Option Ob → Option (List PL)
 | some (.gM xs)=>some xs
 | _=>none
def Oy : Option Ob → Option (Nat × List (List FV))
 | some (.row sz rows)=>some (sz,rows)
 | _=>none
def om : Option Ob → Option (KS × List (KV × FC))
 | some (.map sh ents)=>some (sh,ents)
 | _=>none
@[go_sem] theorem ahx {xs:List PL}:oc (some (.gM xs)) = some xs:=rfl
@[go_sem] theorem aex {sz:Nat} {rows:List (List FV)}:Oy (some (.row sz rows)) = some (sz,rows):=rfl
@[go_sem] theorem ahy {sh:KS} {ents:List (KV × FC)}:om (some (.map sh ents)) = some (sh,ents):=rfl
def gb (want:Bool):Option PV → Option Bool
 | some (.c (.one (.f (.bool b))))=>some (b == want)
 | some (.c (.one .und))=>some false
 | _=>none
@[go_sem] theorem aey {b:Bool}:gb true (some (.c (.one (.f (.bool b))))) = some b:=by cases b <;> rfl
@[go_sem] theorem abu {b:Bool}:gb false (some (.c (.one (.f (.bool b))))) = some (!b):=by cases b <;> rfl
@[go_sem] theorem ahz {w:Bool}:gb w (some (.c (.one .und))) = some false:=rfl
@[go_sem] theorem ZV {v:PV}:tq σ (some i) v = ⟨put σ.tm i v,σ.ob⟩:=rfl
@[go_sem] theorem ZW {v:PV}:tq σ none v = σ:=rfl
@[go_sem] theorem ZX {tm:List (Nat × PV)} {v:PV}:uR (some i) tm v = put tm i v:=rfl
@[go_sem] theorem ZY {tm:List (Nat × PV)} {v:PV}:uR none tm v = tm:=rfl
end
section
variable {α : Type} {n off:Nat} {x:α} {xs ys:List α}
@[go_sem] theorem abv : seg 0 0 xs = some []:=by simp [seg]
@[go_sem] theorem abw : seg (n + 1) 0 (x :: xs) = (seg n 0 xs).map (x :: ·):=by
 unfold seg
 simp only [amc,List.length_cons,Nat.add_le_add_iff_right,amG,List.take_succ_cons]
 split <;> rfl
@[go_sem] theorem abx : seg n (off + 1) (x :: xs) = seg n off xs:=by
 unfold seg
 simp only [List.length_cons,List.drop_succ_cons]
 by_cases h:off + n ≤ xs.length
 ·rw [alx h,alx (by omega)]
 ·rw [aly h,aly (by omega)]
@[go_sem] theorem aez : lay 0 ([]:List α) xs = some xs:=by simp [lay]
@[go_sem] theorem aeA {y:α}:lay 0 (y :: ys) (x :: xs) = (lay 0 ys xs).map (y :: ·):=by
 unfold lay
 simp only [amc,List.length_cons,Nat.add_le_add_iff_right,List.take_zero,List.drop_succ_cons,List.nil_append,List.cons_append]
 split <;> rfl
@[go_sem] theorem aby : lay (off + 1) ys (x :: xs) = (lay off ys xs).map (x :: ·):=by
 unfold lay
 simp only [List.length_cons,List.take_succ_cons]
 rw [show off + 1 + ys.length = off + ys.length + 1 from by omega]
 by_cases h:off + ys.length ≤ xs.length
 ·rw [alx h,alx (by omega)];rfl
 ·rw [aly h,aly (by omega)];rfl
end
@[go_sem] theorem ahA {xs:List PL}:mk true xs = some (.agg xs):=rfl
@[go_sem] theorem mk_one {x:PL}:mk false [x] = some (.one x):=rfl
def qL (σ:St) (key:Nat):Option (List PL):=oc (get σ.ob key)
def jd (σ:St) (key:Nat):Option (Nat × List (List FV)):=Oy (get σ.ob key)
def ql (σ:St) (key:Nat):Option (KS × List (KV × FC)):=om (get σ.ob key)
attribute [go_sem] qL jd ql Option.map_some Option.map_none Option.bind_some Option.bind_none
def lI (σ:St) (n:Nat):CV → Option (List PL)
 | .one (.ptr key off)=>(qL σ key).bind (seg n off)
 | .one (.fp cs)=>(seg n 0 cs).map (·.map .f)
 | .one (.rp key z i off)=>(jd σ key).bind fun p=>if p.1 ≠ z then none else p.2[i]?.bind fun r=>(seg n off r).map (·.map .f)
 | _=>none
@[go_sem ↓] theorem Vv {n key off:Nat}:lI σ n (.one (.ptr key off)) = (qL σ key).bind (seg n off):=rfl
@[go_sem] theorem XY {n:Nat} {cs:List FV}:lI σ n (.one (.fp cs)) = (seg n 0 cs).map (·.map .f):=rfl
section
variable {k : List PL → Prop} {u:Tok k}
@[go_sem ↓] theorem Vw {n key off:Nat}:W k u (lI σ n (.one (.ptr key off))) ↔ W (fun xs=>W k ⟨⟩ (seg n off xs)) ⟨⟩ (qL σ key):=Iw
@[go_sem ↓] theorem XZ {n:Nat} {cs:List FV}:W k u (lI σ n (.one (.fp cs))) ↔ W (fun l=>k (l.map .f)) ⟨⟩ (seg n 0 cs):=Oq
@[go_sem ↓] theorem X0 {n key z i off:Nat}:W k u (lI σ n (.one (.rp key z i off))) ↔ W (fun p=>p.1 = z ∧ W (fun r=>W (fun l=>k (l.map .f)) ⟨⟩ (seg n off r)) ⟨⟩ (p.2[i]?)) ⟨⟩ (jd σ key):=by
 simp only [lI,eT,bF,dG,dR,ne_eq,aml]
end
section
variable {k : PV × St → Prop} {u:Tok k} {x y c:eX}
@[go_sem ↓] theorem ahB {dst:Option Nat} {i:I}:W k u (nQ Γ q σ ⟨dst,none,i⟩) ↔ W k u (dL Γ q σ (dst.getD 999) i):=alM
@[go_sem ↓] theorem Z0 {dst:Option Nat} {s:Nat} {want:Bool} {i:I}:W k u (nQ Γ q σ ⟨dst,some (some s,want),i⟩) ↔ W (fun w=>Br w (fun _=>W k ⟨⟩ (dL Γ q σ (dst.getD 999) i)) (fun _=>k (.c (.one .und),σ)) ⟨⟩) ⟨⟩ (gb want (get σ.tm s)):=by
 have h:Bh σ (some (some s,want)) = gb want (get σ.tm s):=by
  simp only [Bh]
  cases get σ.tm s with
  | none=>rfl
  | some v =>
   cases v with
   | wK l=>rfl
   | c x =>
    cases x with
    | agg l=>rfl
    | one p =>
     cases p with
     | f z=>cases z <;> rfl
     | _=>rfl
 simp only [nQ,eT,bF,h]
 refine dN fun t=>?_
 cases t <;> simp [bO,Br,eT]
@[go_sem ↓] theorem ak6 : W k u (dL Γ q σ d (.mv x)) ↔ W (fun v=>k (v,σ)) ⟨⟩ (uQ σ x):=by simp only [dL];exact Oq
@[go_sem ↓] theorem ahC : W k u (dL Γ q σ d (.pick c x y)) ↔ W (fun v=>W (fun t=>Br t (fun _=>W (fun z=>k (.c z,σ)) ⟨⟩ (val σ x)) (fun _=>W (fun z=>k (.c z,σ)) ⟨⟩ (val σ y)) ⟨⟩) ⟨⟩ (bool? v)) ⟨⟩ (val σ c):=by
 simp only [dL,eT,bF,dG]
 refine dN fun v=>dN fun t=>?_
 cases t <;> simp [Br,eT]
@[go_sem ↓] theorem aeB {e:TypeId} {z:List PL}:W k u (dL Γ q σ d (.alloc e z)) ↔ z.any (fB (dY d)) = false ∧ W (fun s=>k (.c (.one (.ptr (dY d) 0)),s)) ⟨⟩ (new σ (dY d) (.gM z)):=by
 simp only [dL,eT,dR,iX,dG,amD]
@[go_sem ↓] theorem ajf {e:TypeId}:W k u (dL Γ q σ d (.box e x)) ↔ W (fun v=>((cells v).any qU || (cells v).any (fB (dY d))) = false ∧ W (fun s=>k (.c (.one (.ptr (dY d) 0)),s)) ⟨⟩ (new σ (dY d) (.gM (cells v)))) ⟨⟩ (val σ x):=by
 simp only [dL,eT,bF,dR,iX,dG,amD]
@[go_sem ↓] theorem aeC {z:List PL} {ps:List (Nat × Nat × eX)}:W k u (dL Γ q σ d (.build z ps)) ↔ W (fun l=>W (fun z=>k (.c (.agg z),σ)) ⟨⟩ (fill z l)) ⟨⟩ (vals σ ps):=by
 simp only [dL,eT,bF,dG]
@[go_sem ↓] theorem ajg {e:TypeId} {sz len:Nat} {z:List PL} {ps:List (Nat × Nat × eX)}:W k u (dL Γ q σ d (.tL e sz len z ps)) ↔ W (fun l=>W (fun z=>(q && z.any iD) = false ∧ W (fun p=>W (fun s=>k (.c (.one (.own (dY d) len)),s)) ⟨⟩ (new p.2 (dY d) (.row sz (rowsOf sz len p.1)))) ⟨⟩ (l7 σ z)) ⟨⟩ (fill z l)) ⟨⟩ (vals σ ps):=by
 simp only [dL,eT,bF,dR,iX,dG,amD]
@[go_sem ↓] theorem ahD {n:Nat} {agg:Bool}:W k u (dL Γ q σ d (.load n agg x)) ↔ W (fun v=>W (fun l=>W (fun z=>k (.c z,σ)) ⟨⟩ (mk agg l)) ⟨⟩ (lI σ n v)) ⟨⟩ (val σ x):=by
 have h:dL Γ q σ d (.load n agg x) = (val σ x).bind fun v=>(lI σ n v).bind fun l=>(mk agg l).map fun z=>(.c z,σ):=by
  simp only [dL]
  congr 1
  funext v
  cases v with
  | agg l=>rfl
  | one p =>
   cases p with
   | ptr key off=>simp only [lI,qL];cases get σ.ob key with | none=>rfl | some o=>cases o <;> rfl
   | fp cs=>simp only [lI];cases seg n 0 cs <;> rfl
   | rp key z i off =>
    simp only [lI,jd]
    cases get σ.ob key with
    | none=>rfl
    | some o =>
     cases o with
     | row sz rows =>
      simp only [Oy,Option.bind_some]
      split
      ·rfl
      ·cases rows[i]? with
       | none=>rfl
       | some r=>simp only [Option.bind_some];cases seg n off r <;> rfl
     | _=>rfl
   | _=>rfl
 rw [h]
 simp only [eT,bF,dG]
def FM (q:Bool) (σ:St) (ys:List PL):CV → Option St
 | .one (.ptr key off)=>(qL σ key).bind fun xs=>(lay off ys xs).map fun l=>jU σ key (.gM l)
 | .one (.rp key z i off)=>if q && ys.any iD then none else (l7 σ ys).bind fun p=>(jd p.2 key).bind fun o=>if o.1 ≠ z then none else o.2[i]?.bind fun r=>(lay off p.1 r).map fun l=>jU p.2 key (.row o.1 (o.2.set i l))
 | _=>none
@[go_sem ↓] theorem aeD {n:Nat}:W k u (dL Γ q σ d (.store n x y)) ↔ W (fun v=>W (fun z=>((cells z).length = n ∧ (cells z).any qU = false) ∧ W (fun s=>k (.c (.one .und),s)) ⟨⟩ (FM q σ (cells z) v)) ⟨⟩ (val σ y)) ⟨⟩ (val σ x):=by
 have h:dL Γ q σ d (.store n x y) = (val σ x).bind fun v=>(val σ y).bind fun z=>if (cells z).length = n ∧ (cells z).any qU = false then (FM q σ (cells z) v).map fun s=>(.c (.one .und),s) else none:=by
  simp only [dL]
  congr 1
  funext v
  congr 1
  funext z
  split
  ·cases v with
   | agg l=>rfl
   | one p =>
    cases p with
    | ptr key off =>
     simp only [FM,qL]
     cases get σ.ob key with
     | none=>rfl
     | some o=>cases o <;> first | rfl | (simp only [oc,Option.bind_some,Option.map_map];rfl)
    | rp key zz i off =>
     simp only [FM,jd]
     split
     ·rfl
     ·cases l7 σ (cells z) with
      | none=>rfl
      | some p =>
       simp only [Option.bind_some]
       cases get p.2.ob key with
       | none=>rfl
       | some o =>
        cases o with
        | row sz rows =>
         simp only [Oy,Option.bind_some]
         split
         ·rfl
         ·cases rows[i]? with
          | none=>rfl
          | some r=>simp only [Option.bind_some,Option.map_map];rfl
        | _=>rfl
    | _=>rfl
  ·rfl
 rw [h]
 simp only [eT,bF,bV,dG]
end
section
variable {k : St → Prop} {u:Tok k}
@[go_sem ↓] theorem X3 {ys:List PL} {key off:Nat}:W k u (FM q σ ys (.one (.ptr key off))) ↔ W (fun xs=>W (fun l=>k (jU σ key (.gM l))) ⟨⟩ (lay off ys xs)) ⟨⟩ (qL σ key):=by
 simp only [FM,eT,bF,dG]
@[go_sem ↓] theorem Z4 {ys:List PL} {key z i off:Nat}:W k u (FM q σ ys (.one (.rp key z i off))) ↔ (q && ys.any iD) = false ∧ W (fun p=>W (fun o=>o.1 = z ∧ W (fun r=>W (fun l=>k (jU p.2 key (.row o.1 (o.2.set i l)))) ⟨⟩ (lay off p.1 r)) ⟨⟩ (o.2[i]?)) ⟨⟩ (jd p.2 key)) ⟨⟩ (l7 σ ys):=by
 simp only [FM,eT,dR,bF,dG,ne_eq,aml,amD]
end
end
end
section
open Go
section
variable {Γ : Env} {F d:Nat} {q:Bool} {σ:St} {k:PV × St → Prop} {u:Tok k} {x y z:eX}
def R6 : CV → Option CV
 | .one (.ptr k o)=>some (.one (.ptr k o))
 | .one (.fp cs)=>some (.one (.fp cs))
 | .one (.rp k z i o)=>some (.one (.rp k z i o))
 | _=>none
@[go_sem] theorem abz {k o:Nat}:R6 (.one (.ptr k o)) = some (.one (.ptr k o)):=rfl
@[go_sem] theorem aeE {cs:List FV}:R6 (.one (.fp cs)) = some (.one (.fp cs)):=rfl
@[go_sem] theorem aeF {k z i o:Nat}:R6 (.one (.rp k z i o)) = some (.one (.rp k z i o)):=rfl
@[go_sem ↓] theorem ahE : W k u (dL Γ q σ d (.nC x)) ↔ W (fun v=>W (fun w=>k (.c w,σ)) ⟨⟩ (R6 v)) ⟨⟩ (val σ x):=by
 simp only [dL,eT,bF]
 refine dN fun v=>?_
 cases v with
 | agg l=>exact dI
 | one p=>cases p <;> first | exact dI | exact mX alM
def isn : CV → Option Bool
 | .one .iW=>some true
 | .one (.ptr _ _)=>some false
 | .one (.fp _)=>some false
 | .one (.rp _ _ _ _)=>some false
 | _=>none
@[go_sem] theorem aeG : isn (.one .iW) = some true:=rfl
@[go_sem] theorem aeH {k o:Nat}:isn (.one (.ptr k o)) = some false:=rfl
@[go_sem] theorem ahF {cs:List FV}:isn (.one (.fp cs)) = some false:=rfl
@[go_sem] theorem ahG {k z i o:Nat}:isn (.one (.rp k z i o)) = some false:=rfl
@[go_sem ↓] theorem ahH {neg:Bool}:W k u (dL Γ q σ d (.y7 neg x)) ↔ W (fun v=>W (fun b=>k (.c (.one (.f (.bool (if neg then !b else b)))),σ)) ⟨⟩ (isn v)) ⟨⟩ (val σ x):=by
 simp only [dL,eT,bF]
 refine dN fun v=>?_
 cases v with
 | agg l=>exact dI
 | one p=>cases p <;> first | exact dI | (cases neg <;> exact mX alM)
@[go_sem ↓] theorem ak7 {off:Nat}:W k u (dL Γ q σ d (.fa off x)) ↔ W (fun v=>W (fun w=>k (.c w,σ)) ⟨⟩ (fav off v)) ⟨⟩ (val σ x):=by
 simp only [dL,eT,bF]
 refine dN fun v=>?_
 cases v with
 | agg l=>exact dI
 | one p=>cases p <;> first | exact dI | exact mX alM
@[go_sem ↓] theorem ak8 {o:Ar}:W k u (dL Γ q σ d (.ar o x y)) ↔ W (fun a=>W (fun b=>W (fun a=>W (fun b=>a.1 = b.1 ∧ W (fun n=>k (.c (.one (.f (.int a.1 n))),σ)) ⟨⟩ (MZ o a.1 a.2 b.2)) ⟨⟩ (int? b)) ⟨⟩ (int? a)) ⟨⟩ (val σ y)) ⟨⟩ (val σ x):=by
 simp only [dL,eT,bF,bV,one,bO]
@[go_sem ↓] theorem ajh {o:ZC}:W k u (dL Γ q σ d (.cmp o x y)) ↔ W (fun a=>W (fun b=>W (fun a=>W (fun b=>a.1 = b.1 ∧ k (.c (.one (.f (.bool (ze o a.2 b.2)))),σ)) ⟨⟩ (int? b)) ⟨⟩ (int? a)) ⟨⟩ (val σ y)) ⟨⟩ (val σ x):=by
 simp only [dL,eT,bF,bV,one,bO]
@[go_sem] theorem aeI {k:IntKind} {a b:Int}:MZ .add k a b = some (k.wrap (a + b)):=rfl
@[go_sem] theorem aeJ {k:IntKind} {a b:Int}:MZ .sub k a b = some (k.wrap (a - b)):=rfl
@[go_sem] theorem aeK {k:IntKind} {a b:Int}:MZ .mul k a b = some (k.wrap (a * b)):=rfl
section
variable {k : Int → Prop} {u:Tok k} {kk:IntKind} {a b:Int}
@[go_sem ↓] theorem aji : W k u (MZ .quo kk a b) ↔ ¬ b = 0 ∧ k (kk.wrap (a.tdiv b)):=by simp only [MZ,eT,dR,bO]
@[go_sem ↓] theorem ajj : W k u (MZ .rem kk a b) ↔ ¬ b = 0 ∧ k (a.tmod b):=by simp only [MZ,eT,dR,bO]
end
section
variable {a b:Int}
@[go_sem] theorem aeL : ze .eq a b = decide (a = b):=rfl
@[go_sem] theorem aeM : ze .ne a b = !decide (a = b):=rfl
@[go_sem] theorem aeN : ze .lt a b = decide (a < b):=rfl
@[go_sem] theorem aeO : ze .le a b = decide (a ≤ b):=rfl
@[go_sem] theorem aeP : ze .gt a b = decide (b < a):=rfl
@[go_sem] theorem aeQ : ze .ge a b = decide (b ≤ a):=rfl
end
@[go_sem ↓] theorem ajk {sh:KS} {neg:Bool}:W k u (dL Γ q σ d (.uK sh neg x y)) ↔ W (fun a=>W (fun b=>W (fun a=>W (fun b=>(a.ks = sh ∧ b.ks = sh) ∧ k (.c (.one (.f (.bool (if neg then !decide (a = b) else decide (a = b))))),σ)) ⟨⟩ (keyOf b)) ⟨⟩ (keyOf a)) ⟨⟩ (val σ y)) ⟨⟩ (val σ x):=by
 simp only [dL,eT,bF,bV,one,bO]
@[go_sem ↓] theorem ajl : W k u (dL Γ q σ d (.cat x y)) ↔ W (fun a=>W (fun b=>W (fun a=>W (fun b=>a.size + b.size ≤ 9223372036854775807 ∧ k (.c (.one (.f (.str (a ++ b)))),σ)) ⟨⟩ (tu b)) ⟨⟩ (tu a)) ⟨⟩ (val σ y)) ⟨⟩ (val σ x):=by
 simp only [dL,eT,bF]
 refine dN fun v=>dN fun w=>?_
 have no:V k none ↔ False:=jX
 have nb:∀ {g:ByteArray → Prop},V g none ↔ False:=jX
 have nn:∀ {x:Option ByteArray},V (fun _:ByteArray=>False) x ↔ False:=by intro x;cases x <;> simp [V]
 cases v with
 | agg l=>simp only [tu,no,nb]
 | one p =>
  cases p with
  | f a =>
   cases a with
   | str s =>
    cases w with
    | agg l=>simp only [tu,no,nb,bO]
    | one p =>
     cases p with
     | f b =>
      cases b with
      | str t=>simp only [tu,bO,bV,one]
      | _=>simp only [tu,no,nb,bO]
     | _=>simp only [tu,no,nb,bO]
   | _=>simp only [tu,no,nb]
  | _=>simp only [tu,no,nb]
@[go_sem ↓] theorem ak9 : W k u (dL Γ q σ d (.no x)) ↔ W (fun v=>W (fun b=>k (.c (.one (.f (.bool (!b)))),σ)) ⟨⟩ (bool? v)) ⟨⟩ (val σ x):=by
 simp only [dL,eT,bF,one,bO]
@[go_sem ↓] theorem ala {kk:IntKind}:W k u (dL Γ q σ d (.ci kk x)) ↔ W (fun v=>W (fun a=>k (.c (.one (.f (.int kk (kk.wrap a.2)))),σ)) ⟨⟩ (int? v)) ⟨⟩ (val σ x):=by
 simp only [dL,eT,bF,one,bO]
@[go_sem ↓] theorem ajm : W k u (dL Γ q σ d (.oG x)) ↔ W (fun v=>W (fun s=>k (.c (.one (.f (.str s))),σ)) ⟨⟩ (tu v)) ⟨⟩ (val σ x):=by
 simp only [dL,eT,bF]
 refine dN fun v=>?_
 cases v with
 | agg l=>exact dI
 | one p=>cases p with
  | f a=>cases a <;> first | exact dI | exact mX alM
  | _=>exact dI
@[go_sem ↓] theorem aeR {sh:KS}:W k u (dL Γ q σ d (.qR sh)) ↔ W (fun s=>k (.c (.one (.mp (dY d))),s)) ⟨⟩ (new σ (dY d) (.map sh [])):=by
 simp only [dL,iX,eT,dG]
@[go_sem ↓] theorem alb : W k u (dL Γ q σ d (.mn x y)) ↔ W (fun a=>W (fun b=>W (fun a=>W (fun b=>a.1 = b.1 ∧ k (.c (.one (.f (.int a.1 (if b.2 < a.2 then b.2 else a.2)))),σ)) ⟨⟩ (int? b)) ⟨⟩ (int? a)) ⟨⟩ (val σ y)) ⟨⟩ (val σ x):=by
 simp only [dL,eT,bF,bV,one,bO]
@[go_sem ↓] theorem alc : W k u (dL Γ q σ d (.mx x y)) ↔ W (fun a=>W (fun b=>W (fun a=>W (fun b=>a.1 = b.1 ∧ k (.c (.one (.f (.int a.1 (if a.2 < b.2 then b.2 else a.2)))),σ)) ⟨⟩ (int? b)) ⟨⟩ (int? a)) ⟨⟩ (val σ y)) ⟨⟩ (val σ x):=by
 simp only [dL,eT,bF,bV,one,bO]
@[go_sem ↓] theorem ajn {o:BinOp}:W k u (dL Γ q σ d (.bit o x y)) ↔ W (fun a=>W (fun b=>W (fun a=>W (fun b=>a.1 = b.1 ∧ k (.c (.one (.f (.int a.1 (Go.bits o a.1 a.2 b.2)))),σ)) ⟨⟩ (int? b)) ⟨⟩ (int? a)) ⟨⟩ (val σ y)) ⟨⟩ (val σ x):=by
 simp only [dL,eT,bF,bV,one,bO]
@[go_sem ↓] theorem ajo {l:Bool}:W k u (dL Γ q σ d (.WV l x y)) ↔ W (fun a=>W (fun b=>W (fun a=>W (fun b=>0 ≤ b.2 ∧ k (.c (.one (.f (.int a.1 (if l then a.1.wrap (a.2 * 2 ^ (min b.2.toNat a.1.bits)) else a.2.fdiv (2 ^ (min b.2.toNat a.1.bits)))))),σ)) ⟨⟩ (int? b)) ⟨⟩ (int? a)) ⟨⟩ (val σ y)) ⟨⟩ (val σ x):=by
 simp only [dL,eT,bF,bV,one,bO]
@[go_sem ↓] theorem ahI {lo hi:Option eX}:W k u (dL Γ q σ d (.Lh x lo hi)) ↔ W (fun v=>W (fun s=>W (fun p=>k (.c (.one (.f (.str (s.extract p.1 p.2)))),σ)) ⟨⟩ (rng s.size σ lo hi)) ⟨⟩ (tu v)) ⟨⟩ (val σ x):=by
 simp only [dL,eT,bF]
 refine dN fun v=>?_
 cases v with
 | agg l=>exact dI
 | one p=>cases p with
  | f a =>
   cases a with
   | str s=>simp only [tu,bO,bF,one]
   | _=>exact dI
  | _=>exact dI
section
variable {k : Nat × Nat → Prop} {u:Tok k} {len:Nat} {lo hi:Option eX}
@[go_sem ↓] theorem ajp : W k u (rng len σ lo hi) ↔ W (fun h=>W (fun l=>k (l,h)) ⟨⟩ (bnd σ h lo 0)) ⟨⟩ (bnd σ len hi len):=by
 simp only [rng,eT,bF,dG]
end
section
variable {k : Nat → Prop} {u:Tok k} {len dd:Nat}
@[go_sem ↓] theorem X4 : W k u (bnd σ len none dd) ↔ k dd:=iJ
@[go_sem ↓] theorem X5 : W k u (bnd σ len (some x) dd) ↔ W (fun v=>W (fun p=>(0 ≤ p.2 ∧ p.2 ≤ (len:Int)) ∧ k p.2.toNat) ⟨⟩ (int? v)) ⟨⟩ (val σ x):=by
 simp only [bnd,eT,bF,bV,bO]
end
def FP (q:Bool) (σ:St) (sz:Nat) (lo hi:Option eX):CV → Option (PV × St)
 | .one (.f (.sl rows))=>if rows.all (fun r=>r.length == sz) = false then none else (rng rows.length σ lo hi).bind fun p=>one (.sl ((rows.drop p.1).take (p.2 - p.1))) σ
 | .one .dz=>(rng 0 σ lo hi).bind fun p=>one (.sl []) σ
 | .one (.own key _)=>(jd σ key).bind fun o=>if o.1 ≠ sz then none else (rng o.2.length σ lo hi).bind fun p=>if q then none else (Bb σ key).bind fun s=>one (.sl ((o.2.drop p.1).take (p.2 - p.1))) s
 | _=>none
@[go_sem ↓] theorem ajq {sz:Nat} {lo hi:Option eX}:W k u (dL Γ q σ d (.cut sz x lo hi)) ↔ W (fun v=>W k ⟨⟩ (FP q σ sz lo hi v)) ⟨⟩ (val σ x):=by
 simp only [dL,eT,bF]
 refine dN fun v=>?_
 cases v with
 | agg l=>exact alM
 | one p=>cases p with
  | f a=>cases a <;> exact alM
  | own key n=>simp only [FP,jd];cases get σ.ob key with | none=>exact alM | some o=>cases o <;> exact alM
  | _=>exact alM
@[go_sem ↓] theorem abA {sz:Nat} {lo hi:Option eX} {rows:List (List FV)}:W k u (FP q σ sz lo hi (.one (.f (.sl rows)))) ↔ rows.all (fun r=>r.length == sz) = true ∧ W (fun p=>k (.c (.one (.f (.sl ((rows.drop p.1).take (p.2 - p.1))))),σ)) ⟨⟩ (rng rows.length σ lo hi):=by
 simp only [FP,eT,bF,dR,one,bO,Bool.not_eq_false]
@[go_sem ↓] theorem abB {sz:Nat} {lo hi:Option eX}:W k u (FP q σ sz lo hi (.one .dz)) ↔ W (fun p=>k (.c (.one (.f (.sl []))),σ)) ⟨⟩ (rng 0 σ lo hi):=by
 simp only [FP,eT,bF,one,bO]
@[go_sem ↓] theorem abC {sz key n:Nat} {lo hi:Option eX}:W k u (FP q σ sz lo hi (.one (.own key n))) ↔ W (fun o=>o.1 = sz ∧ W (fun p=>q = false ∧ W (fun s=>k (.c (.one (.f (.sl ((o.2.drop p.1).take (p.2 - p.1))))),s)) ⟨⟩ (Bb σ key)) ⟨⟩ (rng o.2.length σ lo hi)) ⟨⟩ (jd σ key):=by
 simp only [FP,eT,bF,dR,one,bO,ne_eq,aml,amD]
@[go_sem ↓] theorem ajr {off n:Nat} {agg:Bool}:W k u (dL Γ q σ d (.WU off n agg x)) ↔ W (fun v=>W (fun l=>W (fun l=>W (fun z=>k (.c z,σ)) ⟨⟩ (mk agg l)) ⟨⟩ (seg n off l)) ⟨⟩ (Ow v)) ⟨⟩ (val σ x):=by
 simp only [dL,eT,bF]
 refine dN fun v=>?_
 cases v with
 | agg l=>simp only [Ow,bO,bF,dG]
 | one p=>exact dI
def X6 (σ:St) (sz:Nat) (i:Int):CV → Option PL
 | .one (.f (.sl rows))=>rows[i.toNat]?.bind fun r=>if r.length = sz then some (.fp r) else none
 | .one (.own key n)=>(jd σ key).bind fun o=>if o.1 = sz ∧ i < n ∧ n = o.2.length then some (.rp key sz i.toNat 0) else none
 | _=>none
@[go_sem ↓] theorem ald {sz:Nat}:W k u (dL Γ q σ d (.ia sz x y)) ↔ W (fun v=>W (fun j=>W (fun p=>0 ≤ p.2 ∧ W (fun l=>k (.c (.one l),σ)) ⟨⟩ (X6 σ sz p.2 v)) ⟨⟩ (int? j)) ⟨⟩ (val σ y)) ⟨⟩ (val σ x):=by
 simp only [dL,eT,bF,bV]
 refine dN fun v=>dN fun j=>dN fun p=>amW alM ?_
 cases v with
 | agg l=>exact dI
 | one a =>
  cases a with
  | f a =>
   cases a with
   | sl rows=>simp only [X6,bF,bV,bO]
   | _=>exact dI
  | own key n =>
   simp only [X6,jd]
   cases get σ.ob key with
   | none=>exact dI
   | some o =>
    cases o with
    | row sz' rows=>simp only [Oy,Option.bind_some,bV,bO]
    | _=>exact dI
  | _=>exact dI
section
variable {k : PL → Prop} {u:Tok k} {sz:Nat} {i:Int}
@[go_sem ↓] theorem aeS {rows:List (List FV)}:W k u (X6 σ sz i (.one (.f (.sl rows)))) ↔ W (fun r=>r.length = sz ∧ k (.fp r)) ⟨⟩ (rows[i.toNat]?):=by
 simp only [X6,eT,bF,bV,bO]
@[go_sem ↓] theorem aeT {key n:Nat}:W k u (X6 σ sz i (.one (.own key n))) ↔ W (fun o=>(o.1 = sz ∧ i < n ∧ n = o.2.length) ∧ k (.rp key sz i.toNat 0)) ⟨⟩ (jd σ key):=by
 simp only [X6,eT,bF,bV,bO]
end
@[go_sem ↓] theorem ajs {sz len:Nat} {agg:Bool}:W k u (dL Γ q σ d (.idx sz len agg x y)) ↔ W (fun v=>W (fun j=>W (fun p=>(0 ≤ p.2 ∧ p.2 < (len:Int)) ∧ W (fun l=>W (fun l=>W (fun z=>k (.c z,σ)) ⟨⟩ (mk agg l)) ⟨⟩ (seg sz (p.2.toNat * sz) l)) ⟨⟩ (Ow v)) ⟨⟩ (int? j)) ⟨⟩ (val σ y)) ⟨⟩ (val σ x):=by
 simp only [dL,eT,bF,bV]
 refine dN fun v=>dN fun j=>dN fun p=>amW alM ?_
 cases v with
 | agg l=>simp only [Ow,bO,bF,dG]
 | one p=>exact dI
@[go_sem ↓] theorem ajt : W k u (dL Γ q σ d (.chr x y)) ↔ W (fun v=>W (fun j=>W (fun p=>W (fun s=>0 ≤ p.2 ∧ W (fun b=>k (.c (.one (.f (.int .u8 b.toNat))),σ)) ⟨⟩ (s.data[p.2.toNat]?)) ⟨⟩ (tu v)) ⟨⟩ (int? j)) ⟨⟩ (val σ y)) ⟨⟩ (val σ x):=by
 simp only [dL,eT,bF]
 refine dN fun v=>dN fun j=>dN fun p=>?_
 cases v with
 | agg l=>exact dI
 | one p=>cases p with
  | f a =>
   cases a with
   | str s=>simp only [tu,bO,bV,bF,one]
   | _=>exact dI
  | _=>exact dI
@[go_sem ↓] theorem aju {i:Nat}:W k u (dL Γ q σ d (.ext x i)) ↔ W (fun v=>W (fun l=>W (fun w=>k (.c w,σ)) ⟨⟩ (l[i]?)) ⟨⟩ (XM v)) ⟨⟩ (uQ σ x):=by
 simp only [dL,eT]
 cases uQ σ x with
 | none=>exact dI
 | some v =>
  rw [bO]
  cases v with
  | c y=>exact dI
  | wK l=>simp only [XM,bO,dG]
@[go_sem ↓] theorem ahJ : W k u (dL Γ q σ d (.yw x)) ↔ W (fun v=>W (fun s=>k (.c (.one (.f (.int .i64 s.size))),σ)) ⟨⟩ (tu v)) ⟨⟩ (val σ x):=by
 simp only [dL,eT,bF]
 refine dN fun v=>?_
 cases v with
 | agg l=>exact dI
 | one p=>cases p with
  | f a=>cases a <;> first | exact dI | exact mX alM
  | _=>exact dI
def R7 (σ:St):CV → Option Nat
 | .one .gu=>some 0
 | .one (.mp key)=>(ql σ key).map fun o=>o.2.length
 | _=>none
@[go_sem] theorem abD : R7 σ (.one .gu) = some 0:=rfl
@[go_sem] theorem aeU {key:Nat}:R7 σ (.one (.mp key)) = (ql σ key).map fun o=>o.2.length:=rfl
def R8 : CV → Option Nat
 | .one (.f (.sl rows))=>some rows.length
 | .one .dz=>some 0
 | .one (.own _ n)=>some n
 | _=>none
@[go_sem] theorem ahK {rows:List (List FV)}:R8 (.one (.f (.sl rows))) = some rows.length:=rfl
@[go_sem] theorem ahL : R8 (.one .dz) = some 0:=rfl
@[go_sem] theorem ahM {k n:Nat}:R8 (.one (.own k n)) = some n:=rfl
@[go_sem ↓] theorem ahN : W k u (dL Γ q σ d (.gW x)) ↔ W (fun v=>W (fun n:Nat=>k (.c (.one (.f (.int .i64 (n:Int)))),σ)) ⟨⟩ (R8 v)) ⟨⟩ (val σ x):=by
 simp only [dL,eT,bF]
 refine dN fun v=>?_
 cases v with
 | agg l=>exact dI
 | one p=>cases p with
  | f a=>cases a <;> first | exact dI | exact mX alM
  | _=>first | exact dI | exact mX alM
@[go_sem ↓] theorem ahO {neg:Bool}:W k u (dL Γ q σ d (.Dh neg x)) ↔ W (fun v=>W (fun b=>k (.c (.one (.f (.bool (if neg then !b else b)))),σ)) ⟨⟩ (XO v)) ⟨⟩ (val σ x):=by
 simp only [dL,eT,bF]
 refine dN fun v=>?_
 cases v with
 | agg l=>exact dI
 | one p=>cases p with
  | f a =>
   cases a with
   | sl rows=>cases rows <;> first | exact dI | (cases neg <;> exact mX alM)
   | _=>exact dI
  | dz=>cases neg <;> exact mX alM
  | _=>exact dI
end
end
end Go.Proofs.YtfokaoeinpnagaaGreat.Ev

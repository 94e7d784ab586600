/- A part of the proof of SeekSends: cut, joined and given short names by a program of this session (wip/tools/pack.py); Lean checks it. No condition. -/
import Derived.Test.YtfokaoeinpnagaaGreatPSSdsg
import Derived.Test.YtfokaoeinpnagaaGreatPSSdsh
import Derived.Deep.RegionHeld3
import Derived.WalkSpells
import Derived.Test.YtfokaoeinpnagaaGreatPSSdse
import Derived.ProofKit
import Derived.OpenShut
import Derived.SizedLaws
import Derived.ChangeArms
import Derived.ChangeSlices
import Derived.Carry
import Derived.Test.YtfokaoeinpnagaaGreatPSSdsf
import Derived.Test.YtfokaoeinpnagaaGreatPSSdsd
set_option linter.unusedSectionVars false
set_option linter.unusedSimpArgs false
set_option linter.unusedVariables false
set_option maxHeartbeats 16000000
set_option maxRecDepth 100000
namespace Go.Proofs.YtfokaoeinpnagaaGreat.ZQ
section
open Go.RowKit Go.Proofs.YtfokaoeinpnagaaGreatW.aX Go.Proofs.YtfokaoeinpnagaaGreatW.dL Go.Proofs.YtfokaoeinpnagaaGreatW.eO
attribute [local go_sem] jU jV lD lF jm jo jW jX
def bV.agg (a b c:Int):Value:=.agg #[.int .i64 a,.int .i64 b,.int .i64 c]
def bV.tab : List (Int × Value):=[(1,bV.agg 4 0 0),(28,bV.agg 16 0 0),(2,bV.agg 0 1 0),(5,bV.agg 0 1 0),(12,bV.agg 0 1 0),(6,bV.agg 0 2 20),(15,bV.agg 2 1 0),(33,bV.agg 6 1 0)]
theorem bV.calls (w:World):Calls Tryz.prog 129 #[] w fun e w'=>∃ g,e = .returned (.map (some g)) ∧ Mi.In w.heap.size w w' g bV.tab:=by
 have hmm:=@run_makeMap Tryz.prog
 have hi:=ah.mk (Mi.In.made (w:=w))
 generalize hg:w.heap.size = g at hi
 have hg':=ah.mk hg
 go_enter Tryz.func129,Tryz.ntmps129
 go_wp2_with (first | (refine Mi.FQ 207 _ _ _ rfl ?_;refine Mi.ab1 _ rfl _ _ _ 207 rfl 3 205 Tryz.underlying207 Tryz.underlying3 _ _ rfl (ah.out (by assumption)) _ _ rfl rfl rfl ?_;clear hi;intro w1 hi))
 go_ret
 exact ⟨g,rfl,hi.out⟩
def bR.l0 : Nat → ByteArray → Int → Int → Int → Int → Int → Int → Int → ByteArray → ByteArray → List ByteArray → Option (ByteArray × ByteArray × List ByteArray × Bool)
 | 0,_,_,_,_,_,_,_,_,_,_,_=>none
 | k + 1,x0,x1,x2,x37,x38,SA,SB,JB,JC,SC,DI=>if x38 < x37 then ((bq.f k x0 x1).bind fun JD=>(if JD.2.2 = 0 then (if JD.2.1 > x2 then (some ((⟨#[]⟩:ByteArray),(⟨#[]⟩:ByteArray),([]:List ByteArray),false)) else (if DI.length < 8796093022208 then (bR.l0 k x0 JD.2.1 x2 x37 (wrap64 (x38 + 1)) SA SB JB JC SC (DI ++ [JD.1])) else (none))) else (some ((⟨#[]⟩:ByteArray),(⟨#[]⟩:ByteArray),([]:List ByteArray),false)))) else (if 0 ≤ x1 then (if x1 ≤ x2 then (if x2 ≤ (x0.size:Int) then (some (JC,x0.extract (x1:Int).toNat (x2:Int).toNat,DI,(((x0.extract (x1:Int).toNat (x2:Int).toNat).size:Int) == JB))) else (none)) else (none)) else (none))
def bR.f (k:Nat) (a0:ByteArray) (a1:Int) (a2:Int) (eP:Int) (jc:Int) (ko:Int):Option (ByteArray × ByteArray × List ByteArray × Bool):=if (eP ≤ (wrap64 (a2 - a1))) then (if 0 ≤ a1 then (if a1 ≤ (wrap64 (a1 + eP)) then (if (wrap64 (a1 + eP)) ≤ (a0.size:Int) then (bR.l0 k a0 (wrap64 (a1 + eP)) a2 jc 0 eP jc ko (a0.extract (a1:Int).toNat ((wrap64 (a1 + eP)):Int).toNat) (⟨#[]⟩:ByteArray) ([]:List ByteArray)) else (none)) else (none)) else (none)) else (some ((⟨#[]⟩:ByteArray),(⟨#[]⟩:ByteArray),([]:List ByteArray),false))
def bR.T15 : Bool × List (List Nat × List Nat):=(true,[([],[]),([],[]),([1],[1]),([2],[2]),([],[]),([4],[4]),([3,5],[3,5]),([0,0],[0]),([6,7,0,1,2,3,4,5,6,7],[6])])
def bR.B15 : List Nat:=[0,0,2,6,0,16,62,1,255]
theorem bR.ab2 : nG .any (opsOf Tryz.f130 15) = bR.T15:=by kernel_rfl
theorem bR.XL : qN bR.T15.2 bR.B15 = true:=by kernel_rfl
theorem bR.calls (k:Nat) (a0:ByteArray) (a1:Int) (a2:Int) (eP:Int) (jc:Int) (ko:Int) (r1:ByteArray) (r2:ByteArray) (r3:List ByteArray) (r4:Bool) (w:World) (h:bR.f k a0 a1 a2 eP jc ko = some (r1,r2,r3,r4)) :
  Calls Tryz.prog 130 #[.string a0,.int .i64 a1,.int .i64 a2,.agg #[.int .i64 eP,.int .i64 jc,.int .i64 ko]] w fun e w'=>∃ v2_:Value,e = .returned (.tuple #[.agg #[.string r1,.string r2,v2_],.bool r4]) ∧ Kd.R Kd.string 9 w' w.heap.size (fun _=>True) v2_ r3 ∧ Below w.heap.size w w':=by
 have ah7:=Tryz.underlying205
 have ab3:=Tryz.underlying191
 have HB:=ah.mk (Below.refl w.heap.size w)
 have H:(if (eP ≤ (wrap64 (a2 - a1))) then (if 0 ≤ a1 then (if a1 ≤ (wrap64 (a1 + eP)) then (if (wrap64 (a1 + eP)) ≤ (a0.size:Int) then (bR.l0 k a0 (wrap64 (a1 + eP)) a2 jc 0 eP jc ko (a0.extract (a1:Int).toNat ((wrap64 (a1 + eP)):Int).toNat) (⟨#[]⟩:ByteArray) ([]:List ByteArray)) else (none)) else (none)) else (none)) else (some ((⟨#[]⟩:ByteArray),(⟨#[]⟩:ByteArray),([]:List ByteArray),false))) = some (r1,r2,r3,r4):=h
 clear h
 by_cases c5:(eP ≤ (wrap64 (a2 - a1)))
 ·rw [ajd c5] at H
  have KP:decide (eP ≤ (wrap64 (a2 - a1))) = true:=ajf c5
  (try (have SE:decide (eP ≤ ((a2 - a1))) = true:=by have h_:decide (eP ≤ (wrap64 (a2 - a1))) = true:=ajf c5;rw [B.jP (by omega) (by omega)] at h_;exact h_))
  clear c5
  by_cases c6:0 ≤ a1
  ·rw [ajd c6] at H
   have Hu:=ajn c6
   have KJ:decide (0 ≤ a1) = true:=ajf c6
   clear c6
   by_cases c7:a1 ≤ (wrap64 (a1 + eP))
   ·rw [ajd c7] at H
    have abR:=ajn c7
    have abS:decide (a1 ≤ (wrap64 (a1 + eP))) = true:=ajf c7
    by_cases c8:(wrap64 (a1 + eP)) ≤ (a0.size:Int)
    ·rw [ajd c8] at H
     have KL:=ajn c8
     have KM:decide ((wrap64 (a1 + eP)) ≤ (a0.size:Int)) = true:=ajf c8
     have H':=ah.mk H
     clear H
     go_enter Tryz.func130,Tryz.ntmps130
     go_wp2_with (first | ((with_reducible refine mU (N:=7) rfl ?_);refine kZ ?hg (N:=7) ?hd (cs:=#[.int .i64 eP,.int .i64 jc,.int .i64 ko]) (t:=205) ?hr ?_;(case hd=>rfl);(case hg=>rfl);(case hr=>first | (go_simp;done) | (go_simp;rfl));intro fM hg w9 oz hb;have fK:=ah.mk (bL (by repeat first | exact HB.out | apply ak | apply aj | apply au) hb);have jJ:=ah.mk (oz);have nW:=ah.mk ((by rw [hg];exact (dB (by repeat first | exact HB.out | apply ak | apply aj | apply au)):w.heap.size ≤ fM));have oW:=ah.mk ((by rw [hg];exact (dB (by repeat first | exact HB.out | apply ak | apply aj | apply au)):w.heap.size ≤ fM));clear HB;have HB:=fK;have dJ:=jJ;have ab4:=nW;have jk:=oW;clear fK jJ nW oW;clear hb oz hg) | ((with_reducible refine mU (N:=8) rfl ?_);refine kZ ?hg (N:=8) ?hd (cs:=#[.string (⟨#[]⟩:ByteArray),.string (⟨#[]⟩:ByteArray),.slice none 0 0]) (t:=191) ?hr ?_;(case hd=>rfl);(case hg=>rfl);(case hr=>first | (go_simp;done) | (go_simp;rfl));intro dF hg w10 oz hb;have fK:=ah.mk (dY (g:=fM) (o:=.cells #[.int .i64 eP,.int .i64 jc,.int .i64 ko] 205 (0,0)) (by (with_reducible repeat (first | refine aR ?_ _ | refine aW ?_ | refine aN ?_ _));exact dJ.out) hb);have jJ:=ah.mk (bL (by repeat (first | (with_reducible first | exact HB.out | apply ak | apply aj | apply au | refine aZ ?_ jk.out) | exact HB.out)) hb);have nW:=ah.mk (oz);have oW:=ah.mk ((by rw [hg];exact (dB (by repeat (first | (with_reducible first | exact HB.out | apply ak | apply aj | apply au | refine aZ ?_ jk.out) | exact HB.out))):w.heap.size ≤ dF));have rz:=ah.mk ((by rw [hg];exact (dB (by repeat (first | (with_reducible first | exact HB.out | apply ak | apply aj | apply au | refine aZ ?_ jk.out) | exact HB.out))):w.heap.size ≤ dF));have O7:=ah.mk ((by rw [hg];exact Nat.ne_of_lt (jN (g:=fM) (o:=.cells #[.int .i64 eP,.int .i64 jc,.int .i64 ko] 205 (0,0)) (by (with_reducible repeat (first | refine aR ?_ _ | refine aW ?_ | refine aN ?_ _));exact dJ.out)):fM ≠ dF));have O8:=ah.mk ((by rw [hg];exact Nat.ne_of_gt (jN (g:=fM) (o:=.cells #[.int .i64 eP,.int .i64 jc,.int .i64 ko] 205 (0,0)) (by (with_reducible repeat (first | refine aR ?_ _ | refine aW ?_ | refine aN ?_ _));exact dJ.out)):dF ≠ fM));clear dJ;clear HB;have dJ:=fK;have HB:=jJ;have dD:=nW;have ab5:=oW;have kP:=rz;have fF:=O7;have kF:=O8;clear fK jJ nW oW rz O7 O8;clear hb oz hg) | ((with_reducible refine mU (N:=10) rfl ?_);refine kZ ?hg (N:=10) ?hd (cs:=#[.string (⟨#[]⟩:ByteArray),.string (⟨#[]⟩:ByteArray),.slice none 0 0]) (t:=191) ?hr ?_;(case hd=>rfl);(case hg=>rfl);(case hr=>first | (go_simp;done) | (go_simp;rfl));intro fD hg U0 oz hb;have fK:=ah.mk (dY (g:=fM) (o:=.cells #[.int .i64 eP,.int .i64 jc,.int .i64 ko] 205 (0,0)) (by (with_reducible repeat (first | refine aR ?_ _ | refine aW ?_ | refine aN ?_ _));exact dJ.out) hb);have jJ:=ah.mk (dY (g:=dF) (o:=.cells #[.string (⟨#[]⟩:ByteArray),.string (⟨#[]⟩:ByteArray),.slice none 0 0] 191 (0,0)) (by (with_reducible repeat (first | refine aR ?_ _ | refine aW ?_ | refine aN ?_ _));exact dD.out) hb);have nW:=ah.mk (bL (by repeat (first | (with_reducible first | exact HB.out | apply ak | apply aj | apply au | refine aZ ?_ jk.out | refine aZ ?_ kP.out) | exact HB.out)) hb);have oW:=ah.mk (oz);have rz:=ah.mk ((by rw [hg];exact (dB (by repeat (first | (with_reducible first | exact HB.out | apply ak | apply aj | apply au | refine aZ ?_ jk.out | refine aZ ?_ kP.out) | exact HB.out))):w.heap.size ≤ fD));have O7:=ah.mk ((by rw [hg];exact (dB (by repeat (first | (with_reducible first | exact HB.out | apply ak | apply aj | apply au | refine aZ ?_ jk.out | refine aZ ?_ kP.out) | exact HB.out))):w.heap.size ≤ fD));have O8:=ah.mk ((by rw [hg];exact Nat.ne_of_lt (jN (g:=fM) (o:=.cells #[.int .i64 eP,.int .i64 jc,.int .i64 ko] 205 (0,0)) (by (with_reducible repeat (first | refine aR ?_ _ | refine aW ?_ | refine aN ?_ _));exact dJ.out)):fM ≠ fD));have n7_:=ah.mk ((by rw [hg];exact Nat.ne_of_gt (jN (g:=fM) (o:=.cells #[.int .i64 eP,.int .i64 jc,.int .i64 ko] 205 (0,0)) (by (with_reducible repeat (first | refine aR ?_ _ | refine aW ?_ | refine aN ?_ _));exact dJ.out)):fD ≠ fM));have n8_:=ah.mk ((by rw [hg];exact Nat.ne_of_lt (jN (g:=dF) (o:=.cells #[.string (⟨#[]⟩:ByteArray),.string (⟨#[]⟩:ByteArray),.slice none 0 0] 191 (0,0)) (by (with_reducible repeat (first | refine aR ?_ _ | refine aW ?_ | refine aN ?_ _));exact dD.out)):dF ≠ fD));have n9_:=ah.mk ((by rw [hg];exact Nat.ne_of_gt (jN (g:=dF) (o:=.cells #[.string (⟨#[]⟩:ByteArray),.string (⟨#[]⟩:ByteArray),.slice none 0 0] 191 (0,0)) (by (with_reducible repeat (first | refine aR ?_ _ | refine aW ?_ | refine aN ?_ _));exact dD.out)):fD ≠ dF));clear dJ;clear dD;clear HB;have dJ:=fK;have dD:=jJ;have HB:=nW;have dW:=oW;have ab6:=rz;have oC:=O7;have kG:=O8;have oD:=n7_;have gX:=n8_;have eZ:=n9_;clear fK jJ nW oW rz O7 O8 n7_ n8_ n9_;clear hb oz hg;have ah8:=fF.out;have ah9:=kF.out;have aia:=kG.out;have aib:=oD.out;have SF:U0.cell? ⟨fM,0,none⟩ = some (.int .i64 eP):=(bN dJ.out 0).trans rfl;have SG:U0.cell? ⟨fM,1,none⟩ = some (.int .i64 jc):=(bN dJ.out 1).trans rfl;have SH:U0.cell? ⟨fM,2,none⟩ = some (.int .i64 ko):=(bN dJ.out 2).trans rfl;have SI:=bI dJ.out 0;have SL:=bI dJ.out 1;have SN:=bI dJ.out 2;have aic:=eZ.out;have aie:=gX.out;have SQ:U0.cell? ⟨fD,0,none⟩ = some (.string (⟨#[]⟩:ByteArray)):=(bN dW.out 0).trans rfl;have SS:U0.cell? ⟨fD,1,none⟩ = some (.string (⟨#[]⟩:ByteArray)):=(bN dW.out 1).trans rfl;have SX:U0.cell? ⟨fD,2,none⟩ = some (.slice none 0 0):=(bN dW.out 2).trans rfl;have SY:=bI dW.out 0;have S9:=bI dW.out 1;have Ta:=bI dW.out 2))
     go_loopg [1,38] k (fun kq v1 v38 w'=>∃ (lU:Int) (uK:Int) (gI:ByteArray) (fG:ByteArray) (iD:List ByteArray) (jd:Value),v1 = .int .i64 lU ∧ v38 = .int .i64 uK ∧ ah (bR.l0 kq a0 lU a2 jc uK eP jc ko (a0.extract (a1:Int).toNat ((wrap64 (a1 + eP)):Int).toNat) (⟨#[]⟩:ByteArray) iD = some (r1,r2,r3,r4)) ∧ ah (kq ≤ k) ∧ ah (Kd.R Kd.string 9 w' w.heap.size (fun _=>True) jd iD) ∧ ah (w'.heap[fM]? = some (.cells #[.int .i64 eP,.int .i64 jc,.int .i64 ko] 205 (0,0))) ∧ ah (w'.heap[dF]? = some (.cells #[.string gI,.string fG,(.slice none 0 0)] 191 (0,0))) ∧ ah (w'.heap[fD]? = some (.cells #[.string (a0.extract (a1:Int).toNat ((wrap64 (a1 + eP)):Int).toNat),.string (⟨#[]⟩:ByteArray),jd] 191 (0,0))) ∧ ah (Below w.heap.size w w'))
     case atStart=>exact ⟨(wrap64 (a1 + eP)),(0),((⟨#[]⟩:ByteArray)),((⟨#[]⟩:ByteArray)),(([]:List ByteArray)),(.slice none 0 0),(by first | rfl | (simp;done) | (simp [*];done) | (simp [B.dS];done) | (simp [B.dU];done)),(by first | rfl | (simp;done) | (simp [*];done) | (simp [B.dS];done) | (simp [B.dU];done)),H',⟨aji _⟩,⟨by first | exact Kd.ku _ _ _ _ _ | exact Kd.mW _ _ _ _ _ | exact Kd.mX _ _ _ _ _ | exact Kd.mR _ _ _ _ _ | exact Kd.mV _ _ _ _ _⟩,⟨by (with_reducible repeat (first | refine aR ?_ _ | refine aW ?_ | refine aN ?_ _));refine oP ?_ kG.out _;(with_reducible repeat (first | refine aR ?_ _ | refine aW ?_ | refine aN ?_ _));exact dJ.out⟩,⟨by (with_reducible repeat (first | refine aR ?_ _ | refine aW ?_ | refine aN ?_ _));refine oP ?_ gX.out _;(with_reducible repeat (first | refine aR ?_ _ | refine aW ?_ | refine aN ?_ _));exact dD.out⟩,⟨by (with_reducible repeat (first | refine aR ?_ _ | refine aW ?_ | refine aN ?_ _));refine iw (cs:=#[.string (⟨#[]⟩:ByteArray),.string (⟨#[]⟩:ByteArray),.slice none 0 0]) ?_ 0 _ rfl;(with_reducible repeat (first | refine aR ?_ _ | refine aW ?_ | refine aN ?_ _));exact dW.out⟩,⟨by repeat (first | (with_reducible first | exact HB.out | apply ak | apply aj | apply au | refine aZ ?_ jk.out | refine aZ ?_ kP.out | refine aZ ?_ oC.out) | exact HB.out)⟩⟩
     case round =>
      clear H'
      try clear c1
      try clear p2
      try clear c5
      try clear KP
      try clear SE
      try clear c6
      try clear Hu
      try clear KJ
      try clear p6
      try clear c7
      try clear abR
      try clear abS
      try clear c8
      try clear KL
      try clear KM
      try clear c12
      try clear c13
      try clear c15
      try clear SF
      try clear SG
      try clear SH
      try clear SQ
      try clear SS
      try clear SX
      try clear SI
      try clear SL
      try clear SN
      try clear SY
      try clear S9
      try clear Ta
      obtain ⟨lU,uK,gI,fG,iD,jd,rfl,rfl,HA,P7,dP,dJ,dD,dW,HB⟩:=hrel
      cases gk with
      | zero=>exact absurd HA.out (by simp [bR.l0])
      | succ k1 =>
       have H:=HA.out
       clear HA
       simp only [bR.l0] at H
       by_cases c17:uK < jc
       ·rw [ajd c17] at H
        have ab7:decide (uK < jc) = true:=ajf c17
        clear c17
        replace H:=zbm H
        obtain ⟨⟨Ia,Al,t127⟩,ab8,H⟩:=H
        replace H:(if t127 = 0 then (if Al > a2 then (some ((⟨#[]⟩:ByteArray),(⟨#[]⟩:ByteArray),([]:List ByteArray),false)) else (if iD.length < 8796093022208 then (bR.l0 k1 a0 Al a2 jc (wrap64 (uK + 1)) eP jc ko (a0.extract (a1:Int).toNat ((wrap64 (a1 + eP)):Int).toNat) (⟨#[]⟩:ByteArray) (iD ++ [Ia])) else (none))) else (some ((⟨#[]⟩:ByteArray),(⟨#[]⟩:ByteArray),([]:List ByteArray),false))) = some (r1,r2,r3,r4):=H
        have A18:=ah.mk ab8
        clear ab8
        by_cases c19:t127 = 0
        ·rw [ajd c19] at H
         have ab9:(t127 == 0) = true:=ajN.mpr c19
         have acd:(t127 != 0) = false:=akE.mpr c19
         clear c19
         by_cases c20:Al > a2
         ·rw [ajd c20] at H
          have ace:decide (a2 < Al) = true:=ajf c20
          clear c20
          simp only [ajq,ajr] at H
          obtain ⟨rfl,rfl,rfl,rfl⟩:=H
          go_wp2_with (first | ((with_reducible refine bS (f:=146) rfl ?_);refine gJ (some 43) rfl rfl Tryz.func146 (by kernel_rfl) rfl #[.string a0,.int .i64 lU] rfl (by (try simp only [ajM,ajp,ajs]) <;> rfl) ?_;(with_reducible refine (bq.calls k1 a0 lU Ia Al t127 _ A18.out).mono ?_);rintro e w21 ⟨rfl,hb⟩;refine ⟨_,rfl,?_⟩;have fK:=ah.mk (Kd.lC (by (with_reducible repeat (first | apply Kd.fZ | apply Kd.gT | apply Kd.gZ));exact dP.out) hb);have jJ:=ah.mk (dY (g:=fM) (o:=.cells #[.int .i64 eP,.int .i64 jc,.int .i64 ko] 205 (0,0)) (by (with_reducible repeat (first | refine aR ?_ _ | refine aW ?_ | refine aN ?_ _));exact dJ.out) hb);have nW:=ah.mk (dY (g:=dF) (o:=.cells #[.string gI,.string fG,.slice none 0 0] 191 (0,0)) (by (with_reducible repeat (first | refine aR ?_ _ | refine aW ?_ | refine aN ?_ _));exact dD.out) hb);have oW:=ah.mk (dY (g:=fD) (o:=.cells #[.string (a0.extract (a1:Int).toNat ((wrap64 (a1 + eP)):Int).toNat),.string (⟨#[]⟩:ByteArray),jd] 191 (0,0)) (by (with_reducible repeat (first | refine aR ?_ _ | refine aW ?_ | refine aN ?_ _));exact dW.out) hb);have rz:=ah.mk (bL (by repeat (first | (with_reducible first | exact HB.out | apply ak | apply aj | apply au | refine aZ ?_ jk.out | refine aZ ?_ kP.out | refine aZ ?_ oC.out) | exact HB.out)) hb);clear dP;clear dJ;clear dD;clear dW;clear HB;have dP:=fK;have dJ:=jJ;have dD:=nW;have dW:=oW;have HB:=rz;clear fK jJ nW oW rz;(try clear hb);(try clear hb2);(try clear hk);(try clear hi);have aif:=kF.out;have aii:=fF.out;have aij:=gX.out;have aik:=eZ.out;have adU:w21.cell? ⟨dF,0,none⟩ = some (.string gI):=(bN dD.out 0).trans rfl;have adV:w21.cell? ⟨dF,1,none⟩ = some (.string fG):=(bN dD.out 1).trans rfl;have adW:w21.cell? ⟨dF,2,none⟩ = some (.slice none 0 0):=(bN dD.out 2).trans rfl;have adX:=bI dD.out 0;have adY:=bI dD.out 1;have adZ:=bI dD.out 2))
          refine bodyPost_ret (kg rfl _ _ dF 191 #[.string (⟨#[]⟩:ByteArray),.string (⟨#[]⟩:ByteArray),.slice none 0 0] (0,0) _ rfl (by (with_reducible repeat (first | refine aR ?_ _ | refine aW ?_ | refine aN ?_ _));refine iw (cs:=#[.string (⟨#[]⟩:ByteArray),.string (⟨#[]⟩:ByteArray),.slice none 0 0]) ?_ 2 _ rfl;(with_reducible repeat (first | refine aR ?_ _ | refine aW ?_ | refine aN ?_ _));refine iw (cs:=#[.string (⟨#[]⟩:ByteArray),.string fG,.slice none 0 0]) ?_ 1 _ rfl;(with_reducible repeat (first | refine aR ?_ _ | refine aW ?_ | refine aN ?_ _));refine iw (cs:=#[.string gI,.string fG,.slice none 0 0]) ?_ 0 _ rfl;(with_reducible repeat (first | refine aR ?_ _ | refine aW ?_ | refine aN ?_ _));exact dD.out) Tryz.underlying191 rfl (by kernel_rfl)) rfl ?_
          exact ⟨_,by first | rfl | (simp [aJ,aK] <;> rfl) | (simp [*,aJ,aK] <;> rfl),by first | exact Kd.ku _ _ _ _ _ | exact Kd.mW _ _ _ _ _ | exact Kd.mX _ _ _ _ _ | exact Kd.mR _ _ _ _ _ | exact Kd.mV _ _ _ _ _,by repeat (first | (with_reducible first | exact HB.out | apply ak | apply aj | apply au | refine aZ ?_ jk.out | refine aZ ?_ kP.out | refine aZ ?_ oC.out) | exact HB.out)⟩
         ·rw [aje c20] at H
          have ace:decide (a2 < Al) = false:=ajh c20
          clear c20
          by_cases NR:iD.length < 8796093022208
          ·rw [ajd NR] at H
           have acf:=ah.mk NR
           clear NR
           obtain ⟨Tc,hy128⟩:∃ y_:List ByteArray,y_ = (iD ++ [Ia]):=⟨_,rfl⟩
           replace H:(bR.l0 k1 a0 Al a2 jc (wrap64 (uK + 1)) eP jc ko (a0.extract (a1:Int).toNat ((wrap64 (a1 + eP)):Int).toNat) (⟨#[]⟩:ByteArray) Tc) = some (r1,r2,r3,r4):=by first | (rw [hy128];with_reducible exact H) | (have Hy:=(Option.bind_some _ _).symm.trans H;rw [hy128];with_reducible exact Hy) | (have Hy:=(Option.bind_some _ _).symm.trans H;with_reducible exact Hy) | with_reducible exact H | (rw [hy128];exact H) | exact H
           have acg:=ah.mk hy128
           clear hy128
           have H':=ah.mk H
           clear H
           go_wp2_with (first | ((with_reducible refine bS (f:=146) rfl ?_);refine gJ (some 43) rfl rfl Tryz.func146 (by kernel_rfl) rfl #[.string a0,.int .i64 lU] rfl (by (try simp only [ajM,ajp,ajs]) <;> rfl) ?_;(with_reducible refine (bq.calls k1 a0 lU Ia Al t127 _ A18.out).mono ?_);rintro e w26 ⟨rfl,hb⟩;refine ⟨_,rfl,?_⟩;have fK:=ah.mk (Kd.lC (by (with_reducible repeat (first | apply Kd.fZ | apply Kd.gT | apply Kd.gZ));exact dP.out) hb);have jJ:=ah.mk (dY (g:=fM) (o:=.cells #[.int .i64 eP,.int .i64 jc,.int .i64 ko] 205 (0,0)) (by (with_reducible repeat (first | refine aR ?_ _ | refine aW ?_ | refine aN ?_ _));exact dJ.out) hb);have nW:=ah.mk (dY (g:=dF) (o:=.cells #[.string gI,.string fG,.slice none 0 0] 191 (0,0)) (by (with_reducible repeat (first | refine aR ?_ _ | refine aW ?_ | refine aN ?_ _));exact dD.out) hb);have oW:=ah.mk (dY (g:=fD) (o:=.cells #[.string (a0.extract (a1:Int).toNat ((wrap64 (a1 + eP)):Int).toNat),.string (⟨#[]⟩:ByteArray),jd] 191 (0,0)) (by (with_reducible repeat (first | refine aR ?_ _ | refine aW ?_ | refine aN ?_ _));exact dW.out) hb);have rz:=ah.mk (bL (by repeat (first | (with_reducible first | exact HB.out | apply ak | apply aj | apply au | refine aZ ?_ jk.out | refine aZ ?_ kP.out | refine aZ ?_ oC.out) | exact HB.out)) hb);clear dP;clear dJ;clear dD;clear dW;clear HB;have dP:=fK;have dJ:=jJ;have dD:=nW;have dW:=oW;have HB:=rz;clear fK jJ nW oW rz;(try clear hb);(try clear hb2);(try clear hk);(try clear hi);have ail:=oD.out;have ain:=kG.out;have aio:=eZ.out;have aip:=gX.out;have ad1:w26.cell? ⟨fD,0,none⟩ = some (.string (a0.extract (a1:Int).toNat ((wrap64 (a1 + eP)):Int).toNat)):=(bN dW.out 0).trans rfl;have ad2:w26.cell? ⟨fD,1,none⟩ = some (.string (⟨#[]⟩:ByteArray)):=(bN dW.out 1).trans rfl;have ad3:w26.cell? ⟨fD,2,none⟩ = some (jd):=(bN dW.out 2).trans rfl;have ad4:=bI dW.out 0;have ad5:=bI dW.out 1;have ad6:=bI dW.out 2) | ((with_reducible refine uE (b:=.append) (xs:=#[.tmp 56,.tmp 58]) rfl ?_);at_builtin;refine Kd.Fh Kd.string (w0:=w) w.heap.size rfl (.tmp 56) (.tmp 58) 40 9 (.string ⟨#[]⟩) 16 rfl Tryz.underlying40 Jp rfl (by decide) (by omega) jd iD Ia [.string Ia] (fun _=>True) (fun _=>False) rfl rfl ?aP (fun _ hk=>hk.elim) ?aF ?aO ?aB ?aS ?aL ?_;(case aP=>exact rfl);(case aB=>exact (by repeat (first | (with_reducible first | exact HB.out | apply ak | apply aj | apply au | refine aZ ?_ jk.out | refine aZ ?_ kP.out | refine aZ ?_ oC.out) | exact HB.out)));(case aF=>exact (fun _ _=>trivial));(case aO=>exact (by (with_reducible repeat (first | apply Kd.fZ | apply Kd.gT | apply Kd.gZ));exact dP.out));(case aS=>exact (dB (by repeat (first | (with_reducible first | exact HB.out | apply ak | apply aj | apply au | refine aZ ?_ jk.out | refine aZ ?_ kP.out | refine aZ ?_ oC.out) | exact HB.out))));(case aL=>have:=acf.out;omega);intro ai6 w30 ho hb hg hat;rw [← acg.out] at ho;have fK:=ah.mk (vE (g:=fM) (o:=.cells #[.int .i64 eP,.int .i64 jc,.int .i64 ko] 205 (0,0)) (by (with_reducible repeat (first | refine aR ?_ _ | refine aW ?_ | refine aN ?_ _));exact dJ.out) hg (Kd.Xu dP.out dJ.out (by decide)));have jJ:=ah.mk (vE (g:=dF) (o:=.cells #[.string gI,.string fG,.slice none 0 0] 191 (0,0)) (by (with_reducible repeat (first | refine aR ?_ _ | refine aW ?_ | refine aN ?_ _));exact dD.out) hg (Kd.Xu dP.out dD.out (by decide)));have nW:=ah.mk (vE (g:=fD) (o:=.cells #[.string (a0.extract (a1:Int).toNat ((wrap64 (a1 + eP)):Int).toNat),.string (⟨#[]⟩:ByteArray),jd] 191 (0,0)) (by (with_reducible repeat (first | refine aR ?_ _ | refine aW ?_ | refine aN ?_ _));exact dW.out) hg (Kd.Xu dP.out dW.out (by decide)));have oW:=ah.mk (hb);have rz:=ah.mk (ho);clear dJ;clear dD;clear dW;clear HB;clear dP;have dJ:=fK;have dD:=jJ;have dW:=nW;have HB:=oW;have U4:=rz;clear fK jJ nW oW rz;clear ho hb hg hat;obtain ⟨ach,aci,agG⟩:=Kd.uw U4.out;subst agG;have ad7:w30.cell? ⟨fD,0,none⟩ = some (.string (a0.extract (a1:Int).toNat ((wrap64 (a1 + eP)):Int).toNat)):=(bN dW.out 0).trans rfl;have ad8:w30.cell? ⟨fD,1,none⟩ = some (.string (⟨#[]⟩:ByteArray)):=(bN dW.out 1).trans rfl;have ad9:w30.cell? ⟨fD,2,none⟩ = some (jd):=(bN dW.out 2).trans rfl;have aea:=bI dW.out 0;have aeb:=bI dW.out 1;have aec:=bI dW.out 2))
           go_roundg k1
           case measure=>have:=P7.out;omega
           case rel=>exact ⟨(Al),(wrap64 (uK + 1)),(gI),(fG),(Tc),(.slice ach Tc.length aci),(by first | rfl | (simp;done) | (simp [*];done) | (simp [B.dS];done) | (simp [B.dU];done)),(by first | rfl | (simp;done) | (simp [*];done) | (simp [B.dS];done) | (simp [B.dU];done)),H',⟨by have:=P7.out;omega⟩,⟨by (with_reducible repeat (first | apply Kd.fZ | apply Kd.gT | apply Kd.gZ));exact Kd.qp (Kd.uo (p:=⟨fD,2,none⟩) (Kd.uq U4.out dW.out (by decide)) (fun _ hk=>hk.2) (.slice ach Tc.length aci)) (fun _ hk=>trivial)⟩,⟨by (with_reducible repeat (first | refine aR ?_ _ | refine aW ?_ | refine aN ?_ _));refine oP ?_ kG.out _;(with_reducible repeat (first | refine aR ?_ _ | refine aW ?_ | refine aN ?_ _));exact dJ.out⟩,⟨by (with_reducible repeat (first | refine aR ?_ _ | refine aW ?_ | refine aN ?_ _));refine oP ?_ gX.out _;(with_reducible repeat (first | refine aR ?_ _ | refine aW ?_ | refine aN ?_ _));exact dD.out⟩,⟨by (with_reducible repeat (first | refine aR ?_ _ | refine aW ?_ | refine aN ?_ _));refine iw (cs:=#[.string (a0.extract (a1:Int).toNat ((wrap64 (a1 + eP)):Int).toNat),.string (⟨#[]⟩:ByteArray),jd]) ?_ 2 _ rfl;(with_reducible repeat (first | refine aR ?_ _ | refine aW ?_ | refine aN ?_ _));exact dW.out⟩,⟨by repeat (first | (with_reducible first | exact HB.out | apply ak | apply aj | apply au | refine aZ ?_ jk.out | refine aZ ?_ kP.out | refine aZ ?_ oC.out) | exact HB.out)⟩⟩
          ·rw [aje NR] at H
           exact absurd H (by simp)
        ·rw [aje c19] at H
         have ab9:(t127 == 0) = false:=akd.mpr c19
         have acd:(t127 != 0) = true:=akm.mpr c19
         simp only [ajq,ajr] at H
         obtain ⟨rfl,rfl,rfl,rfl⟩:=H
         go_wp2_with (first | ((with_reducible refine bS (f:=146) rfl ?_);refine gJ (some 43) rfl rfl Tryz.func146 (by kernel_rfl) rfl #[.string a0,.int .i64 lU] rfl (by (try simp only [ajM,ajp,ajs]) <;> rfl) ?_;(with_reducible refine (bq.calls k1 a0 lU Ia Al t127 _ A18.out).mono ?_);rintro e w33 ⟨rfl,hb⟩;refine ⟨_,rfl,?_⟩;have fK:=ah.mk (Kd.lC (by (with_reducible repeat (first | apply Kd.fZ | apply Kd.gT | apply Kd.gZ));exact dP.out) hb);have jJ:=ah.mk (dY (g:=fM) (o:=.cells #[.int .i64 eP,.int .i64 jc,.int .i64 ko] 205 (0,0)) (by (with_reducible repeat (first | refine aR ?_ _ | refine aW ?_ | refine aN ?_ _));exact dJ.out) hb);have nW:=ah.mk (dY (g:=dF) (o:=.cells #[.string gI,.string fG,.slice none 0 0] 191 (0,0)) (by (with_reducible repeat (first | refine aR ?_ _ | refine aW ?_ | refine aN ?_ _));exact dD.out) hb);have oW:=ah.mk (dY (g:=fD) (o:=.cells #[.string (a0.extract (a1:Int).toNat ((wrap64 (a1 + eP)):Int).toNat),.string (⟨#[]⟩:ByteArray),jd] 191 (0,0)) (by (with_reducible repeat (first | refine aR ?_ _ | refine aW ?_ | refine aN ?_ _));exact dW.out) hb);have rz:=ah.mk (bL (by repeat (first | (with_reducible first | exact HB.out | apply ak | apply aj | apply au | refine aZ ?_ jk.out | refine aZ ?_ kP.out | refine aZ ?_ oC.out) | exact HB.out)) hb);clear dP;clear dJ;clear dD;clear dW;clear HB;have dP:=fK;have dJ:=jJ;have dD:=nW;have dW:=oW;have HB:=rz;clear fK jJ nW oW rz;(try clear hb);(try clear hb2);(try clear hk);(try clear hi);have aiq:=kF.out;have air:=fF.out;have ais:=gX.out;have ait:=eZ.out;have aed:w33.cell? ⟨dF,0,none⟩ = some (.string gI):=(bN dD.out 0).trans rfl;have aee:w33.cell? ⟨dF,1,none⟩ = some (.string fG):=(bN dD.out 1).trans rfl;have aef:w33.cell? ⟨dF,2,none⟩ = some (.slice none 0 0):=(bN dD.out 2).trans rfl;have aeg:=bI dD.out 0;have aeh:=bI dD.out 1;have aei:=bI dD.out 2))
         refine bodyPost_ret (kg rfl _ _ dF 191 #[.string (⟨#[]⟩:ByteArray),.string (⟨#[]⟩:ByteArray),.slice none 0 0] (0,0) _ rfl (by (with_reducible repeat (first | refine aR ?_ _ | refine aW ?_ | refine aN ?_ _));refine iw (cs:=#[.string (⟨#[]⟩:ByteArray),.string (⟨#[]⟩:ByteArray),.slice none 0 0]) ?_ 2 _ rfl;(with_reducible repeat (first | refine aR ?_ _ | refine aW ?_ | refine aN ?_ _));refine iw (cs:=#[.string (⟨#[]⟩:ByteArray),.string fG,.slice none 0 0]) ?_ 1 _ rfl;(with_reducible repeat (first | refine aR ?_ _ | refine aW ?_ | refine aN ?_ _));refine iw (cs:=#[.string gI,.string fG,.slice none 0 0]) ?_ 0 _ rfl;(with_reducible repeat (first | refine aR ?_ _ | refine aW ?_ | refine aN ?_ _));exact dD.out) Tryz.underlying191 rfl (by kernel_rfl)) rfl ?_
         exact ⟨_,by first | rfl | (simp [aJ,aK] <;> rfl) | (simp [*,aJ,aK] <;> rfl),by first | exact Kd.ku _ _ _ _ _ | exact Kd.mW _ _ _ _ _ | exact Kd.mX _ _ _ _ _ | exact Kd.mR _ _ _ _ _ | exact Kd.mV _ _ _ _ _,by repeat (first | (with_reducible first | exact HB.out | apply ak | apply aj | apply au | refine aZ ?_ jk.out | refine aZ ?_ kP.out | refine aZ ?_ oC.out) | exact HB.out)⟩
       ·rw [aje c17] at H
        have ab7:decide (uK < jc) = false:=ajh c17
        clear c17
        by_cases c37:0 ≤ lU
        ·rw [ajd c37] at H
         have aiu:=ajn c37
         have aiv:decide (0 ≤ lU) = true:=ajf c37
         clear c37
         by_cases c38:lU ≤ a2
         ·rw [ajd c38] at H
          have aiw:=ajn c38
          have aix:decide (lU ≤ a2) = true:=ajf c38
          clear c38
          by_cases P5:a2 ≤ (a0.size:Int)
          ·rw [ajd P5] at H
           have aiy:=ajn P5
           have aiz:decide (a2 ≤ (a0.size:Int)) = true:=ajf P5
           clear P5
           simp only [ajq,ajr] at H
           obtain ⟨rfl,rfl,rfl,rfl⟩:=H
           have aiA:=oD.out
           have aiB:=kG.out
           have aiC:=eZ.out
           have aiD:=gX.out
           have aej:wr.cell? ⟨fD,0,none⟩ = some (.string (a0.extract (a1:Int).toNat ((wrap64 (a1 + eP)):Int).toNat)):=(bN dW.out 0).trans rfl
           have aek:wr.cell? ⟨fD,1,none⟩ = some (.string (⟨#[]⟩:ByteArray)):=(bN dW.out 1).trans rfl
           have ael:wr.cell? ⟨fD,2,none⟩ = some (jd):=(bN dW.out 2).trans rfl
           have aem:=bI dW.out 0
           have aen:=bI dW.out 1
           have aeo:=bI dW.out 2
           try go_wp2
           have fK:ah (Kd.R Kd.string 9 (wr.setCell ⟨fD,1,none⟩ (.string (a0.extract (lU:Int).toNat (a2:Int).toNat))) w.heap.size (fun _=>True) jd iD):=⟨by (with_reducible repeat (first | apply Kd.fZ | apply Kd.gT | apply Kd.gZ));exact Kd.qp (Kd.uo (p:=⟨fD,1,none⟩) (Kd.uq dP.out dW.out (by decide)) (fun _ hk=>hk.2) (.string (a0.extract (lU:Int).toNat (a2:Int).toNat))) (fun _ hk=>trivial)⟩
           have jJ:ah ((wr.setCell ⟨fD,1,none⟩ (.string (a0.extract (lU:Int).toNat (a2:Int).toNat))).heap[fM]? = some (.cells #[.int .i64 eP,.int .i64 jc,.int .i64 ko] 205 (0,0))):=⟨by (with_reducible repeat (first | refine aR ?_ _ | refine aW ?_ | refine aN ?_ _));refine oP ?_ kG.out _;(with_reducible repeat (first | refine aR ?_ _ | refine aW ?_ | refine aN ?_ _));exact dJ.out⟩
           have nW:ah ((wr.setCell ⟨fD,1,none⟩ (.string (a0.extract (lU:Int).toNat (a2:Int).toNat))).heap[dF]? = some (.cells #[.string gI,.string fG,.slice none 0 0] 191 (0,0))):=⟨by (with_reducible repeat (first | refine aR ?_ _ | refine aW ?_ | refine aN ?_ _));refine oP ?_ gX.out _;(with_reducible repeat (first | refine aR ?_ _ | refine aW ?_ | refine aN ?_ _));exact dD.out⟩
           have oW:ah ((wr.setCell ⟨fD,1,none⟩ (.string (a0.extract (lU:Int).toNat (a2:Int).toNat))).heap[fD]? = some (.cells #[.string (a0.extract (a1:Int).toNat ((wrap64 (a1 + eP)):Int).toNat),.string (a0.extract (lU:Int).toNat (a2:Int).toNat),jd] 191 (0,0))):=⟨by (with_reducible repeat (first | refine aR ?_ _ | refine aW ?_ | refine aN ?_ _));refine iw (cs:=#[.string (a0.extract (a1:Int).toNat ((wrap64 (a1 + eP)):Int).toNat),.string (⟨#[]⟩:ByteArray),jd]) ?_ 1 _ rfl;(with_reducible repeat (first | refine aR ?_ _ | refine aW ?_ | refine aN ?_ _));exact dW.out⟩
           have rz:ah (Below w.heap.size w (wr.setCell ⟨fD,1,none⟩ (.string (a0.extract (lU:Int).toNat (a2:Int).toNat)))):=⟨by repeat (first | (with_reducible first | exact HB.out | apply ak | apply aj | apply au | refine aZ ?_ jk.out | refine aZ ?_ kP.out | refine aZ ?_ oC.out) | exact HB.out)⟩
           (try clear dP)
           (try clear dJ)
           (try clear dD)
           (try clear dW)
           (try clear HB)
           generalize (wr.setCell ⟨fD,1,none⟩ (.string (a0.extract (lU:Int).toNat (a2:Int).toNat))) = w43 at fK jJ nW oW rz ⊢
           have dP:=fK
           have dJ:=jJ
           have dD:=nW
           have dW:=oW
           have HB:=rz
           clear fK jJ nW oW rz
           have fK:=ah.mk (Kd.gZ dP.out)
           have jJ:=ah.mk (aW dJ.out)
           have nW:=ah.mk (aW dD.out)
           have oW:=ah.mk (aW dW.out)
           have rz:=ah.mk (au HB.out)
           clear dP
           clear dJ
           clear dD
           clear dW
           clear HB
           have dP:=fK
           have dJ:=jJ
           have dD:=nW
           have dW:=oW
           have HB:=rz
           clear fK jJ nW oW rz
           obtain ⟨XM,XO,acj⟩:=Kd.uw dP.out
           (first | subst acj | (injection acj with f1_ f2_ f3_;have f4_:=f1_.symm;have f5_:=f3_.symm;clear f1_ f2_ f3_;subst f4_;subst f5_))
           refine Ow (n:=9) (S:=fun w'=>w'.cell? ⟨fD,0,none⟩ = some (.string (a0.extract (a1:Int).toNat ((wrap64 (a1 + eP)):Int).toNat)) ∧ w'.cell? ⟨fD,1,none⟩ = some (.string (a0.extract (lU:Int).toNat (a2:Int).toNat)) ∧ w'.cell? ⟨fD,2,none⟩ = some (.slice XM iD.length XO) ∧ w'.cell? ⟨fM,0,none⟩ = some (.int .i64 eP) ∧ w'.cell? ⟨fM,1,none⟩ = some (.int .i64 jc) ∧ w'.cell? ⟨fM,2,none⟩ = some (.int .i64 ko)) (ds:=[]) #[false,false,false,false,false,false,false,false,false] (by kernel_rfl) rfl rfl ⟨(bN dW.out 0).trans rfl,(bN dW.out 1).trans rfl,(bN dW.out 2).trans rfl,(bN dJ.out 0).trans rfl,(bN dJ.out 1).trans rfl,(bN dJ.out 2).trans rfl⟩ (fun hHeld=>?_);refine Bw bR.ab2 bR.XL (fun wT HW_=>?_)
           generalize w43.drew = w44 at dP dJ dD dW HB hHeld ⊢
           refine lW (i:=1) (N:=some 69) (v:=?_) (a':=?_) #[false,true,false,false,false,false,false,false,false] rfl rfl (jO wT.out (by kernel_rfl)) (fun _ _ _ h=>h) (Or.inl ⟨by rfl,?_⟩) ?_ ?_
           rotate_left
           ·intro w'
            go_simp
            with_reducible rfl
           rotate_left
           ·simp only [Act.put,ajS,List.set_cons_zero,List.set_cons_succ,iF,jg]
            rfl
           refine lW (i:=4) (N:=some 72) (v:=?_) (a':=?_) #[false,true,false,false,true,false,false,false,false] rfl rfl (jO wT.out (by kernel_rfl)) (fun _ _ _ h=>h) (Or.inl ⟨by rfl,?_⟩) ?_ ?_
           rotate_left
           ·intro w'
            go_simp
            with_reducible rfl
           rotate_left
           ·simp only [Act.put,ajS,List.set_cons_zero,List.set_cons_succ,iF,jg]
            rfl
           refine Fg (i:=0) (N:=some 68) (v:=?_) (a':=?_) #[true,true,false,false,true,false,false,false,false] rfl rfl (y9 wT.out HW_.out (by kernel_rfl)) (fun _ _ _ h=>h) (Or.inl ⟨by rfl,?_⟩) hHeld ?_ ?_
           rotate_left
           ·rintro w' ⟨s0,s1,s2,s3,s4,s5⟩
            go_simp
            with_reducible rfl
           rotate_left
           ·simp only [Act.put,ajS,List.set_cons_zero,List.set_cons_succ,iF,jg]
            rfl
           refine Fg (i:=2) (N:=some 70) (v:=?_) (a':=?_) #[true,true,true,false,true,false,false,false,false] rfl rfl (y9 wT.out HW_.out (by kernel_rfl)) (fun _ _ _ h=>h) (Or.inl ⟨by rfl,?_⟩) hHeld ?_ ?_
           rotate_left
           ·rintro w' ⟨s0,s1,s2,s3,s4,s5⟩
            go_simp
            with_reducible rfl
           rotate_left
           ·simp only [Act.put,ajS,List.set_cons_zero,List.set_cons_succ,iF,jg]
            rfl
           refine lW (i:=3) (N:=some 71) (v:=?_) (a':=?_) #[true,true,true,true,true,false,false,false,false] rfl rfl (jO wT.out (by kernel_rfl)) (fun _ _ _ h=>h) (Or.inl ⟨by rfl,?_⟩) ?_ ?_
           rotate_left
           ·intro w'
            go_simp
            with_reducible rfl
           rotate_left
           ·simp only [Act.put,ajS,List.set_cons_zero,List.set_cons_succ,iF,jg]
            rfl
           refine Fg (i:=5) (N:=some 73) (v:=?_) (a':=?_) #[true,true,true,true,true,true,false,false,false] rfl rfl (y9 wT.out HW_.out (by kernel_rfl)) (fun _ _ _ h=>h) (Or.inl ⟨by rfl,?_⟩) hHeld ?_ ?_
           rotate_left
           ·rintro w' ⟨s0,s1,s2,s3,s4,s5⟩
            go_simp
            with_reducible rfl
           rotate_left
           ·simp only [Act.put,ajS,List.set_cons_zero,List.set_cons_succ,iF,jg]
            rfl
           refine lW (i:=6) (N:=some 74) (v:=?_) (a':=?_) #[true,true,true,true,true,true,true,false,false] rfl rfl (jO wT.out (by kernel_rfl)) (fun _ _ _ h=>h) (Or.inl ⟨by rfl,?_⟩) ?_ ?_
           rotate_left
           ·intro w'
            go_simp
            with_reducible rfl
           rotate_left
           ·simp only [Act.put,ajS,List.set_cons_zero,List.set_cons_succ,iF,jg]
            rfl
           refine XA (i:=7) (N:=none) #[true,true,true,true,true,true,true,true,false] rfl rfl (Hq wT.out (by kernel_rfl)) (by decide) (fun K hK=>?_)
           have ai7:w44.cell? ⟨dF,0,none⟩ = some (.string gI):=(bN dD.out 0).trans rfl
           have aiE:=bI dD.out 0
           have aep:=fF.out
           have aer:=eZ.out
           have aes:=kF.out
           have aeu:=gX.out
           have ai8:w44.cell? ⟨dF,1,none⟩ = some (.string fG):=(bN dD.out 1).trans rfl
           have aiF:=bI dD.out 1
           have aev:=fF.out
           have aew:=eZ.out
           have aex:=kF.out
           have aey:=gX.out
           have ai9:w44.cell? ⟨dF,2,none⟩ = some (.slice none 0 0):=(bN dD.out 2).trans rfl
           have aiG:=bI dD.out 2
           have aez:=fF.out
           have aeA:=eZ.out
           have aeB:=kF.out
           have aeC:=gX.out
           refine abB (w1:=?_) (by rfl) rfl ?_ ?_
           rotate_left
           ·go_simp
            rfl
           refine hK.out _ _ ⟨((cell_far (p:=⟨dF,_,none⟩) eZ.out _).trans (((cell_far (p:=⟨dF,_,none⟩) eZ.out _).trans (((cell_far (p:=⟨dF,_,none⟩) eZ.out _).trans (hHeld.1)))))),((cell_far (p:=⟨dF,_,none⟩) eZ.out _).trans (((cell_far (p:=⟨dF,_,none⟩) eZ.out _).trans (((cell_far (p:=⟨dF,_,none⟩) eZ.out _).trans (hHeld.2.1)))))),((cell_far (p:=⟨dF,_,none⟩) eZ.out _).trans (((cell_far (p:=⟨dF,_,none⟩) eZ.out _).trans (((cell_far (p:=⟨dF,_,none⟩) eZ.out _).trans (hHeld.2.2.1)))))),((cell_far (p:=⟨dF,_,none⟩) fF.out _).trans (((cell_far (p:=⟨dF,_,none⟩) fF.out _).trans (((cell_far (p:=⟨dF,_,none⟩) fF.out _).trans (hHeld.2.2.2.1)))))),((cell_far (p:=⟨dF,_,none⟩) fF.out _).trans (((cell_far (p:=⟨dF,_,none⟩) fF.out _).trans (((cell_far (p:=⟨dF,_,none⟩) fF.out _).trans (hHeld.2.2.2.2.1)))))),((cell_far (p:=⟨dF,_,none⟩) fF.out _).trans (((cell_far (p:=⟨dF,_,none⟩) fF.out _).trans (((cell_far (p:=⟨dF,_,none⟩) fF.out _).trans (hHeld.2.2.2.2.2))))))⟩ (fun hHeld=>?_)
           clear hK K
           refine lW (i:=8) (N:=some 9) (v:=?_) (a':=?_) #[true,true,true,true,true,true,true,true,true] rfl rfl (jO wT.out (by kernel_rfl)) (fun _ _ _ h=>h) (Or.inl ⟨by rfl,?_⟩) ?_ ?_
           rotate_left
           ·intro w'
            go_simp
            with_reducible rfl
           rotate_left
           ·simp only [Act.put,ajS,List.set_cons_zero,List.set_cons_succ,iF,jg]
            rfl
           refine UL (Jm wT.out (by kernel_rfl)) ?_
           try go_wp2
           refine bodyPost_ret (kg rfl _ _ dF 191 #[.string (a0.extract (a1:Int).toNat ((wrap64 (a1 + eP)):Int).toNat),.string (a0.extract (lU:Int).toNat (a2:Int).toNat),.slice XM iD.length XO] (0,0) _ rfl (by (with_reducible repeat (first | refine aR ?_ _ | refine aW ?_ | refine aN ?_ _));refine iw (cs:=#[.string (a0.extract (a1:Int).toNat ((wrap64 (a1 + eP)):Int).toNat),.string (a0.extract (lU:Int).toNat (a2:Int).toNat),.slice none 0 0]) ?_ 2 _ rfl;(with_reducible repeat (first | refine aR ?_ _ | refine aW ?_ | refine aN ?_ _));refine iw (cs:=#[.string (a0.extract (a1:Int).toNat ((wrap64 (a1 + eP)):Int).toNat),.string fG,.slice none 0 0]) ?_ 1 _ rfl;(with_reducible repeat (first | refine aR ?_ _ | refine aW ?_ | refine aN ?_ _));refine iw (cs:=#[.string gI,.string fG,.slice none 0 0]) ?_ 0 _ rfl;(with_reducible repeat (first | refine aR ?_ _ | refine aW ?_ | refine aN ?_ _));exact dD.out) Tryz.underlying191 rfl (by kernel_rfl)) rfl ?_
           exact ⟨_,by first | rfl | (simp [aJ,aK] <;> rfl) | (simp [*,aJ,aK] <;> rfl),by (with_reducible repeat (first | apply Kd.fZ | apply Kd.gT | apply Kd.gZ));exact Kd.qp (Kd.uo (p:=⟨dF,2,none⟩) (Kd.uo (p:=⟨dF,1,none⟩) (Kd.uo (p:=⟨dF,0,none⟩) (Kd.uq dP.out dD.out (by decide)) (fun _ hk=>hk.2) (.string (a0.extract (a1:Int).toNat ((wrap64 (a1 + eP)):Int).toNat))) (fun _ hk=>hk.2) (.string (a0.extract (lU:Int).toNat (a2:Int).toNat))) (fun _ hk=>hk.2) (.slice XM iD.length XO)) (fun _ hk=>trivial),by repeat (first | (with_reducible first | exact HB.out | apply ak | apply aj | apply au | refine aZ ?_ jk.out | refine aZ ?_ kP.out | refine aZ ?_ oC.out) | exact HB.out)⟩
          ·rw [aje P5] at H
           exact absurd H (by simp)
         ·rw [aje c38] at H
          exact absurd H (by simp)
        ·rw [aje c37] at H
         exact absurd H (by simp)
    ·rw [aje c8] at H
     exact absurd H (by simp)
   ·rw [aje c7] at H
    exact absurd H (by simp)
  ·rw [aje c6] at H
   exact absurd H (by simp)
 ·rw [aje c5] at H
  have KP:decide (eP ≤ (wrap64 (a2 - a1))) = false:=ajh c5
  (try (have SE:decide (eP ≤ ((a2 - a1))) = false:=by have h_:decide (eP ≤ (wrap64 (a2 - a1))) = false:=ajh c5;rw [B.jP (by omega) (by omega)] at h_;exact h_))
  clear c5
  simp only [ajq,ajr] at H
  obtain ⟨rfl,rfl,rfl,rfl⟩:=H
  go_enter Tryz.func130,Tryz.ntmps130
  go_wp2_with (first | ((with_reducible refine mU (N:=7) rfl ?_);refine kZ ?hg (N:=7) ?hd (cs:=#[.int .i64 eP,.int .i64 jc,.int .i64 ko]) (t:=205) ?hr ?_;(case hd=>rfl);(case hg=>rfl);(case hr=>first | (go_simp;done) | (go_simp;rfl));intro fM hg w49 oz hb;have fK:=ah.mk (bL (by repeat first | exact HB.out | apply ak | apply aj | apply au) hb);have jJ:=ah.mk (oz);have nW:=ah.mk ((by rw [hg];exact (dB (by repeat first | exact HB.out | apply ak | apply aj | apply au)):w.heap.size ≤ fM));have oW:=ah.mk ((by rw [hg];exact (dB (by repeat first | exact HB.out | apply ak | apply aj | apply au)):w.heap.size ≤ fM));clear HB;have HB:=fK;have dJ:=jJ;have ab4:=nW;have jk:=oW;clear fK jJ nW oW;clear hb oz hg) | ((with_reducible refine mU (N:=8) rfl ?_);refine kZ ?hg (N:=8) ?hd (cs:=#[.string (⟨#[]⟩:ByteArray),.string (⟨#[]⟩:ByteArray),.slice none 0 0]) (t:=191) ?hr ?_;(case hd=>rfl);(case hg=>rfl);(case hr=>first | (go_simp;done) | (go_simp;rfl));intro dF hg w50 oz hb;have fK:=ah.mk (dY (g:=fM) (o:=.cells #[.int .i64 eP,.int .i64 jc,.int .i64 ko] 205 (0,0)) (by (with_reducible repeat (first | refine aR ?_ _ | refine aW ?_ | refine aN ?_ _));exact dJ.out) hb);have jJ:=ah.mk (bL (by repeat (first | (with_reducible first | exact HB.out | apply ak | apply aj | apply au | refine aZ ?_ jk.out) | exact HB.out)) hb);have nW:=ah.mk (oz);have oW:=ah.mk ((by rw [hg];exact (dB (by repeat (first | (with_reducible first | exact HB.out | apply ak | apply aj | apply au | refine aZ ?_ jk.out) | exact HB.out))):w.heap.size ≤ dF));have rz:=ah.mk ((by rw [hg];exact (dB (by repeat (first | (with_reducible first | exact HB.out | apply ak | apply aj | apply au | refine aZ ?_ jk.out) | exact HB.out))):w.heap.size ≤ dF));have O7:=ah.mk ((by rw [hg];exact Nat.ne_of_lt (jN (g:=fM) (o:=.cells #[.int .i64 eP,.int .i64 jc,.int .i64 ko] 205 (0,0)) (by (with_reducible repeat (first | refine aR ?_ _ | refine aW ?_ | refine aN ?_ _));exact dJ.out)):fM ≠ dF));have O8:=ah.mk ((by rw [hg];exact Nat.ne_of_gt (jN (g:=fM) (o:=.cells #[.int .i64 eP,.int .i64 jc,.int .i64 ko] 205 (0,0)) (by (with_reducible repeat (first | refine aR ?_ _ | refine aW ?_ | refine aN ?_ _));exact dJ.out)):dF ≠ fM));clear dJ;clear HB;have dJ:=fK;have HB:=jJ;have dD:=nW;have ab5:=oW;have kP:=rz;have fF:=O7;have kF:=O8;clear fK jJ nW oW rz O7 O8;clear hb oz hg) | ((with_reducible refine mU (N:=10) rfl ?_);refine kZ ?hg (N:=10) ?hd (cs:=#[.string (⟨#[]⟩:ByteArray),.string (⟨#[]⟩:ByteArray),.slice none 0 0]) (t:=191) ?hr ?_;(case hd=>rfl);(case hg=>rfl);(case hr=>first | (go_simp;done) | (go_simp;rfl));intro fD hg Ze oz hb;have fK:=ah.mk (dY (g:=fM) (o:=.cells #[.int .i64 eP,.int .i64 jc,.int .i64 ko] 205 (0,0)) (by (with_reducible repeat (first | refine aR ?_ _ | refine aW ?_ | refine aN ?_ _));exact dJ.out) hb);have jJ:=ah.mk (dY (g:=dF) (o:=.cells #[.string (⟨#[]⟩:ByteArray),.string (⟨#[]⟩:ByteArray),.slice none 0 0] 191 (0,0)) (by (with_reducible repeat (first | refine aR ?_ _ | refine aW ?_ | refine aN ?_ _));exact dD.out) hb);have nW:=ah.mk (bL (by repeat (first | (with_reducible first | exact HB.out | apply ak | apply aj | apply au | refine aZ ?_ jk.out | refine aZ ?_ kP.out) | exact HB.out)) hb);have oW:=ah.mk (oz);have rz:=ah.mk ((by rw [hg];exact (dB (by repeat (first | (with_reducible first | exact HB.out | apply ak | apply aj | apply au | refine aZ ?_ jk.out | refine aZ ?_ kP.out) | exact HB.out))):w.heap.size ≤ fD));have O7:=ah.mk ((by rw [hg];exact (dB (by repeat (first | (with_reducible first | exact HB.out | apply ak | apply aj | apply au | refine aZ ?_ jk.out | refine aZ ?_ kP.out) | exact HB.out))):w.heap.size ≤ fD));have O8:=ah.mk ((by rw [hg];exact Nat.ne_of_lt (jN (g:=fM) (o:=.cells #[.int .i64 eP,.int .i64 jc,.int .i64 ko] 205 (0,0)) (by (with_reducible repeat (first | refine aR ?_ _ | refine aW ?_ | refine aN ?_ _));exact dJ.out)):fM ≠ fD));have n7_:=ah.mk ((by rw [hg];exact Nat.ne_of_gt (jN (g:=fM) (o:=.cells #[.int .i64 eP,.int .i64 jc,.int .i64 ko] 205 (0,0)) (by (with_reducible repeat (first | refine aR ?_ _ | refine aW ?_ | refine aN ?_ _));exact dJ.out)):fD ≠ fM));have n8_:=ah.mk ((by rw [hg];exact Nat.ne_of_lt (jN (g:=dF) (o:=.cells #[.string (⟨#[]⟩:ByteArray),.string (⟨#[]⟩:ByteArray),.slice none 0 0] 191 (0,0)) (by (with_reducible repeat (first | refine aR ?_ _ | refine aW ?_ | refine aN ?_ _));exact dD.out)):dF ≠ fD));have n9_:=ah.mk ((by rw [hg];exact Nat.ne_of_gt (jN (g:=dF) (o:=.cells #[.string (⟨#[]⟩:ByteArray),.string (⟨#[]⟩:ByteArray),.slice none 0 0] 191 (0,0)) (by (with_reducible repeat (first | refine aR ?_ _ | refine aW ?_ | refine aN ?_ _));exact dD.out)):fD ≠ dF));clear dJ;clear dD;clear HB;have dJ:=fK;have dD:=jJ;have HB:=nW;have dW:=oW;have ab6:=rz;have oC:=O7;have kG:=O8;have oD:=n7_;have gX:=n8_;have eZ:=n9_;clear fK jJ nW oW rz O7 O8 n7_ n8_ n9_;clear hb oz hg;have aiH:=fF.out;have aiI:=kF.out;have aiJ:=kG.out;have aiK:=oD.out;have aeD:Ze.cell? ⟨fM,0,none⟩ = some (.int .i64 eP):=(bN dJ.out 0).trans rfl;have aeE:Ze.cell? ⟨fM,1,none⟩ = some (.int .i64 jc):=(bN dJ.out 1).trans rfl;have aeF:Ze.cell? ⟨fM,2,none⟩ = some (.int .i64 ko):=(bN dJ.out 2).trans rfl;have aeG:=bI dJ.out 0;have aeH:=bI dJ.out 1;have aeI:=bI dJ.out 2;have aiL:=gX.out;have aiM:=eZ.out;have aeJ:Ze.cell? ⟨dF,0,none⟩ = some (.string (⟨#[]⟩:ByteArray)):=(bN dD.out 0).trans rfl;have aeK:Ze.cell? ⟨dF,1,none⟩ = some (.string (⟨#[]⟩:ByteArray)):=(bN dD.out 1).trans rfl;have aeL:Ze.cell? ⟨dF,2,none⟩ = some (.slice none 0 0):=(bN dD.out 2).trans rfl;have aeM:=bI dD.out 0;have aeN:=bI dD.out 1;have aeO:=bI dD.out 2))
  refine bodyPost_ret (kg rfl _ _ dF 191 #[.string (⟨#[]⟩:ByteArray),.string (⟨#[]⟩:ByteArray),.slice none 0 0] (0,0) _ rfl (by (with_reducible repeat (first | refine aR ?_ _ | refine aW ?_ | refine aN ?_ _));refine iw (cs:=#[.string (⟨#[]⟩:ByteArray),.string (⟨#[]⟩:ByteArray),.slice none 0 0]) ?_ 2 _ rfl;(with_reducible repeat (first | refine aR ?_ _ | refine aW ?_ | refine aN ?_ _));refine iw (cs:=#[.string (⟨#[]⟩:ByteArray),.string (⟨#[]⟩:ByteArray),.slice none 0 0]) ?_ 1 _ rfl;(with_reducible repeat (first | refine aR ?_ _ | refine aW ?_ | refine aN ?_ _));refine iw (cs:=#[.string (⟨#[]⟩:ByteArray),.string (⟨#[]⟩:ByteArray),.slice none 0 0]) ?_ 0 _ rfl;(with_reducible repeat (first | refine aR ?_ _ | refine aW ?_ | refine aN ?_ _));exact dD.out) Tryz.underlying191 rfl (by kernel_rfl)) rfl ?_
  exact ⟨_,by first | rfl | (simp [aJ,aK] <;> rfl) | (simp [*,aJ,aK] <;> rfl),by first | exact Kd.ku _ _ _ _ _ | exact Kd.mW _ _ _ _ _ | exact Kd.mX _ _ _ _ _ | exact Kd.mR _ _ _ _ _ | exact Kd.mV _ _ _ _ _,by repeat (first | (with_reducible first | exact HB.out | apply ak | apply aj | apply au | refine aZ ?_ jk.out | refine aZ ?_ kP.out | refine aZ ?_ oC.out) | exact HB.out)⟩
theorem iQ.keep {a b:ByteArray} {v:Value} {l:List ByteArray} {base g:Nat} {ok:Nat → Prop} {w w1 w2:World}
  (h:(w1.cell? ⟨g,0,none⟩ = some (.string a) ∧ w1.cell? ⟨g,1,none⟩ = some (.string b) ∧ w1.cell? ⟨g,2,none⟩ = some v) ∧ ah (Below g w w1 ∧ g < w1.heap.size ∧ Kd.R Kd.string 9 w1 base ok v l)) (hb:Below w1.heap.size w1 w2) :
  (w2.cell? ⟨g,0,none⟩ = some (.string a) ∧ w2.cell? ⟨g,1,none⟩ = some (.string b) ∧ w2.cell? ⟨g,2,none⟩ = some v) ∧ ah (Below g w w2 ∧ g < w2.heap.size ∧ Kd.R Kd.string 9 w2 base ok v l):=by
 obtain ⟨⟨c0,c1,c2⟩,⟨h1,h2,h3⟩⟩:=h
 have hs:=hb.size
 exact ⟨⟨(hb.cell h2).trans c0,(hb.cell h2).trans c1,(hb.cell h2).trans c2⟩,⟨h1.trans (hb.mono (by omega)),by omega,Kd.lC h3 hb⟩⟩
theorem iQ.calls (a b:ByteArray) (v:Value) (l:List ByteArray) (base:Nat) (ok:Nat → Prop) (w:World) (hr:Kd.R Kd.string 9 w base ok v l) (hl:l.length ≤ 1000000) (hz:a.size + (strings_Join.cat l).size + b.size ≤ 140737488355328) :
  Calls Tryz.prog 147 #[.agg #[.string a,.string b,v]] w fun e w'=>e = .returned (.string (a ++ strings_Join.cat l ++ b)) ∧ Below w.heap.size w w':=by
 have HB:=ah.mk (ak (Below.refl w.heap.size w) (.cells #[.string a,.string b,v] 191 (0,0)))
 have HR:=ah.mk (Kd.fZ hr (.cells #[.string a,.string b,v] 191 (0,0)))
 have HC:(w.alloc (.cells #[.string a,.string b,v] 191 (0,0))).cell? ⟨w.heap.size,0,none⟩ = some (.string a) ∧ (w.alloc (.cells #[.string a,.string b,v] 191 (0,0))).cell? ⟨w.heap.size,1,none⟩ = some (.string b) ∧ (w.alloc (.cells #[.string a,.string b,v] 191 (0,0))).cell? ⟨w.heap.size,2,none⟩ = some v:=by
  refine ⟨?_,?_,?_⟩ <;> (rw [Lib.cell_of_heap (heap_alloc_new w _)];rfl)
 have HC0:=ah.mk HC
 clear HC
 have HC:=HC0
 clear HC0
 have hs:w.heap.size < (w.alloc (.cells #[.string a,.string b,v] 191 (0,0))).heap.size:=by show _ < (w.heap.push _).size;rw [ako];omega
 have HS:=ah.mk hs
 have HZ:=ah.mk hz
 have HL:=ah.mk hl
 clear hs hz hr hl
 go_enter Tryz.func147,Tryz.ntmps147
 go_wp2
 generalize w.alloc (.cells #[.string a,.string b,v] 191 (0,0)) = w1 at *
 generalize hgg:w.heap.size = g at *
 have hgg:=ah.mk hgg
 have hf1:a.size + (strings_Join.cat l).size ≤ 9223372036854775807:=by have:=HZ.out;omega
 have hf2:a.size + (strings_Join.cat l).size + b.size ≤ 9223372036854775807:=by have:=HZ.out;omega
 have c0:=HC.out.1
 have c1:=HC.out.2.1
 have c2:=HC.out.2.2
 go_region_held (fun w'=>(w'.cell? ⟨g,0,none⟩ = some (.string a) ∧ w'.cell? ⟨g,1,none⟩ = some (.string b) ∧ w'.cell? ⟨g,2,none⟩ = some v) ∧ ah (Below g w w' ∧ g < w'.heap.size ∧ Kd.R Kd.string 9 w' base ok v l)) ((first | assumption | exact iQ.keep ⟨⟨c0,c1,c2⟩,⟨HB.out,HS.out,HR.out⟩⟩ (iI (Below.refl _ _)) | exact iQ.keep (by assumption) (by assumption))) ((first | (go_at_call 156;refine (strings_Join.calls v l base ok _ (Kd.gZ HR.out) HL.out (by have:=HZ.out;omega)).mono ?_;rintro e w' ⟨rfl,hb'⟩)))
 all_goals
  rename_i hx
  go_wp2
  go_ret
  exact ⟨rfl,hgg.out ▸ hx.2.out.1⟩
def dK.l0 : Nat → ByteArray → Option (Bool)
 | 0,_=>none
 | k + 1,x0=>if x0.toList = ([]:List UInt8) then (some true) else (if 0 < (x0.size:Int) then (if (wrap64 (1 + (wrap64 (bt x0 0)))) > (x0.size:Int) then (some false) else (if 0 ≤ (wrap64 (1 + (wrap64 (bt x0 0)))) then (if (wrap64 (1 + (wrap64 (bt x0 0)))) ≤ (x0.size:Int) then (dK.l0 k (x0.extract ((wrap64 (1 + (wrap64 (bt x0 0)))):Int).toNat x0.size)) else (none)) else (none))) else (none))
def dK.f (k:Nat) (a0:ByteArray):Option (Bool):=if a0.toList = ([]:List UInt8) then (some false) else (dK.l0 k a0)
theorem dK.calls (k:Nat) (a0:ByteArray) (r:Bool) (w:World) (h:dK.f k a0 = some r) :
  Calls Tryz.prog 152 #[.string a0] w fun e w'=>e = .returned (.bool r) ∧ bQ w w':=by
 have H:(if a0.toList = ([]:List UInt8) then (some false) else (dK.l0 k a0)) = some r:=h
 clear h
 by_cases c2:a0.toList = ([]:List UInt8)
 ·rw [ajd c2] at H
  have Ai:(a0.toList == ([]:List UInt8)) = true:=ajN.mpr c2
  have KI:(a0.toList != ([]:List UInt8)) = false:=akE.mpr c2
  have acn:a0.toList.isEmpty = true:=List.isEmpty_iff.mpr c2
  clear c2
  obtain rfl:=ajE H
  go_enter Tryz.func152,Tryz.ntmps152
  go_wp2
  go_ret
  exact ⟨by first | rfl | (simp;done) | (simp [*];done),by repeat (first | exact bQ.refl _ | apply bQ.step)⟩
 ·rw [aje c2] at H
  have Ai:(a0.toList == ([]:List UInt8)) = false:=akd.mpr c2
  have KI:(a0.toList != ([]:List UInt8)) = true:=akm.mpr c2
  have acn:a0.toList.isEmpty = false:=ajX.mpr (fun h_=>c2 (List.isEmpty_iff.mp h_))
  have H':=ah.mk H
  clear H
  go_enter Tryz.func152,Tryz.ntmps152
  go_wp2
  go_loopg [0] k (fun kq v0 w'=>∃ (bF:ByteArray),v0 = .string bF ∧ ah (dK.l0 kq bF = some r) ∧ ah (kq ≤ k) ∧ bQ w w')
  case atStart=>exact ⟨(a0),(by first | rfl | (simp;done) | (simp [*];done) | (simp [B.dS];done) | (simp [B.dU];done)),H',⟨aji _⟩,by repeat (first | exact bQ.refl _ | apply bQ.step)⟩
  case round =>
   clear H'
   try clear c1
   try clear c2
   try clear Ai
   try clear KI
   try clear acn
   try clear p2
   obtain ⟨bF,rfl,HA,P7,⟨m1,rfl⟩⟩:=hrel
   cases gk with
   | zero=>exact absurd HA.out (by simp [dK.l0])
   | succ k1 =>
    have H:=HA.out
    clear HA
    simp only [dK.l0] at H
    by_cases c3:bF.toList = ([]:List UInt8)
    ·rw [ajd c3] at H
     have vI:(bF.toList == ([]:List UInt8)) = true:=ajN.mpr c3
     have Hz:(bF.toList != ([]:List UInt8)) = false:=akE.mpr c3
     have OL:bF.toList.isEmpty = true:=List.isEmpty_iff.mpr c3
     clear c3
     obtain rfl:=ajE H
     go_wp2
     go_ret
     exact ⟨by first | rfl | (simp;done) | (simp [*];done),by repeat (first | exact bQ.refl _ | apply bQ.step)⟩
    ·rw [aje c3] at H
     have vI:(bF.toList == ([]:List UInt8)) = false:=akd.mpr c3
     have Hz:(bF.toList != ([]:List UInt8)) = true:=akm.mpr c3
     have OL:bF.toList.isEmpty = false:=ajX.mpr (fun h_=>c3 (List.isEmpty_iff.mp h_))
     by_cases c4:0 < (bF.size:Int)
     ·rw [ajd c4] at H
      have zf:decide (0 < (bF.size:Int)) = true:=ajf c4
      have Ht:decide (0 < bF.size) = true:=ajf (by omega)
      clear c4
      by_cases c6:(wrap64 (1 + (wrap64 (bt bF 0)))) > (bF.size:Int)
      ·rw [ajd c6] at H
       have Hu:decide ((bF.size:Int) < (wrap64 (1 + (wrap64 (bt bF 0))))) = true:=ajf c6
       (try (have KJ:decide ((bF.size:Int) < ((1 + ((bt bF 0))))) = true:=by have h_:decide ((bF.size:Int) < (wrap64 (1 + (wrap64 (bt bF 0))))) = true:=ajf c6;rw [B.jP (by omega) (by omega)] at h_;rw [B.jP (by omega) (by omega)] at h_;exact h_))
       clear c6
       obtain rfl:=ajE H
       have p5:0 ≤ (0:Int):=(by omega)
       have q5:0 < bF.size:=(by have:(0:Int) < (bF.size:Int):=ajC (by first | (with_reducible assumption) | assumption);omega)
       have hx5:∀ h:0 < bF.size,((bF[0]'h).toNat:Int) = bt bF 0:=pE bF 0
       clear p5
       have qi5:(0 < (bF.size:Int)) = True:=ajn (ajC (by first | (with_reducible assumption) | assumption))
       replace q5:=ajn q5
       go_wp2
       go_ret
       exact ⟨by first | rfl | (simp;done) | (simp [*];done),by repeat (first | exact bQ.refl _ | apply bQ.step)⟩
      ·rw [aje c6] at H
       have Hu:decide ((bF.size:Int) < (wrap64 (1 + (wrap64 (bt bF 0))))) = false:=ajh c6
       (try (have KJ:decide ((bF.size:Int) < ((1 + ((bt bF 0))))) = false:=by have h_:decide ((bF.size:Int) < (wrap64 (1 + (wrap64 (bt bF 0))))) = false:=ajh c6;rw [B.jP (by omega) (by omega)] at h_;rw [B.jP (by omega) (by omega)] at h_;exact h_))
       clear c6
       obtain ⟨Td,K3⟩:∃ j_:Int,(wrap64 (1 + (wrap64 (bt bF 0)))) = j_:=⟨_,rfl⟩
       replace H:(if 0 ≤ (Td) then (if (Td) ≤ (bF.size:Int) then (dK.l0 k1 (bF.extract ((Td):Int).toNat bF.size)) else (none)) else (none)) = some r:=by first | (rw [K3] at H;exact H) | (simp only [K3] at H ⊢;exact H)
       (try rw [K3] at Hu)
       (try rw [K3] at KJ)
       have aiN:(IntKind.i64.wrap (1 + (wrap64 (bt bF 0)))) = Td:=(iF _).trans K3
       by_cases c8:0 ≤ (Td)
       ·rw [ajd c8] at H
        have KL:=ajn c8
        have KM:decide (0 ≤ (Td)) = true:=ajf c8
        clear c8
        by_cases c9:(Td) ≤ (bF.size:Int)
        ·rw [ajd c9] at H
         have Hw:=ajn c9
         have OG:decide ((Td) ≤ (bF.size:Int)) = true:=ajf c9
         clear c9
         have H':=ah.mk H
         clear H
         have p5:0 ≤ (0:Int):=(by omega)
         have q5:0 < bF.size:=(by have:(0:Int) < (bF.size:Int):=ajC (by first | (with_reducible assumption) | assumption);omega)
         have hx5:∀ h:0 < bF.size,((bF[0]'h).toNat:Int) = bt bF 0:=pE bF 0
         clear p5
         have qi5:(0 < (bF.size:Int)) = True:=ajn (ajC (by first | (with_reducible assumption) | assumption))
         replace q5:=ajn q5
         go_wp2
         go_roundg k1
         case measure=>have:=P7.out;omega
         case rel=>exact ⟨(bF.extract ((Td):Int).toNat bF.size),(by first | rfl | (simp;done) | (simp only [← K3] <;> (first | rfl | simp)) | (simp [*];done)),H',⟨by have:=P7.out;omega⟩,by repeat (first | exact bQ.refl _ | apply bQ.step)⟩
        ·rw [aje c9] at H
         exact absurd H (by simp)
       ·rw [aje c8] at H
        exact absurd H (by simp)
     ·rw [aje c4] at H
      exact absurd H (by simp)
def aA.D6 (k:Int):Option (Int × Int × Int) :=
 if k = 1 then some (4,0,0) else if k = 28 then some (16,0,0) else if k = 2 then some (0,1,0) else if k = 5 then some (0,1,0) else if k = 12 then some (0,1,0) else if k = 6 then some (0,2,20) else if k = 15 then some (2,1,0) else if k = 33 then some (6,1,0) else none
theorem aA.xw (k:Int):Mi.sU k bV.tab = (aA.D6 k).map fun s=>bV.agg s.1 s.2.1 s.2.2:=by
 unfold aA.D6 bV.tab
 simp only [Mi.sU]
 repeat' split
 all_goals rfl
def aA.fin (k:Nat) (kind:Int) (d:ByteArray) (is:Bool):Option (ByteArray × Int) :=
 if is = true then (if kind = 16 then ((dK.f k d).bind fun b=>if b = true then (if (d.size:Int) > 65535 then some (⟨#[]⟩,4) else some (d,0)) else some (⟨#[]⟩,4)) else (if (d.size:Int) > 65535 then some (⟨#[]⟩,4) else some (d,0))) else some (⟨#[]⟩,4)
def aA.g (k:Nat) (a0:ByteArray) (a1 a2 a3:Int) (s:Int × Int × Int):Option (ByteArray × Int) :=
 (bR.f k a0 a1 (wrap64 (a1 + a2)) s.1 s.2.1 s.2.2).bind fun p=>if p.1.size + (strings_Join.cat p.2.2.1).size + p.2.1.size ≤ 140737488355328 then (if p.2.2.1.length ≤ 1000000 then aA.fin k a3 (p.1 ++ strings_Join.cat p.2.2.1 ++ p.2.1) p.2.2.2 else none) else none
def aA.f (k:Nat) (a0:ByteArray) (a1 a2 a3:Int):Option (ByteArray × Int) :=
 (eU.f a0 a1 a2).bind fun t=>if t.2 = true then (match aA.D6 a3 with | some s=>aA.g k a0 a1 a2 a3 s | none=>aA.fin k a3 t.1 true) else some (⟨#[]⟩,2)
theorem aA.BH {k:Nat} {kind:Int} {d:ByteArray} {r:ByteArray × Int} (h:aA.fin k kind d true = some r) (hk:kind = 16) :
  ∃ b,dK.f k d = some b ∧ (if b = true then (if (d.size:Int) > 65535 then some ((⟨#[]⟩:ByteArray),(4:Int)) else some (d,0)) else some (⟨#[]⟩,4)) = some r:=by
 unfold aA.fin at h
 rw [ajd rfl,ajd hk] at h
 exact zbm h
theorem aA.qO {k:Nat} {kind:Int} {d:ByteArray} {r:ByteArray × Int} (h:aA.fin k kind d true = some r) (hk:¬ kind = 16) :
  (if (d.size:Int) > 65535 then some ((⟨#[]⟩:ByteArray),(4:Int)) else some (d,0)) = some r:=by
 unfold aA.fin at h
 rw [ajd rfl,aje hk] at h
 exact h
theorem aA.XP {k:Nat} {kind:Int} {d:ByteArray} {r:ByteArray × Int} (h:aA.fin k kind d false = some r):r = (⟨#[]⟩,4):=by
 unfold aA.fin at h
 rw [aje akc] at h
 exact (ajE h).symm
theorem aA.slc {v:Value} {l:List ByteArray} {base:Nat} {ok:Nat → Prop} {w:World} (hr:Kd.R Kd.string 9 w base ok v l):∃ A n c,v = .slice A n c:=by
 rcases (Kd.uy hr).2 with ⟨rfl,_⟩ | ⟨g,cap,cur,rfl,_⟩
 ·exact ⟨_,_,_,rfl⟩
 ·exact ⟨_,_,_,rfl⟩
theorem aA.mD {b:Bool} {d r1:ByteArray} {r2:Int} (h:(if b = true then (if (d.size:Int) > 65535 then some ((⟨#[]⟩:ByteArray),(4:Int)) else some (d,0)) else some (⟨#[]⟩,4)) = some (r1,r2)) :
  (b = true → 65535 < (d.size:Int) → r1 = ⟨#[]⟩ ∧ r2 = 4) ∧ (b = true → (d.size:Int) ≤ 65535 → r1 = d ∧ r2 = 0) ∧ (b = false → r1 = ⟨#[]⟩ ∧ r2 = 4):=by
 refine ⟨fun h1 h2=>?_,fun h1 h2=>?_,fun h1=>?_⟩
 ·rw [ajd h1,ajd h2] at h;cases h;exact ⟨rfl,rfl⟩
 ·rw [ajd h1,aje (by omega)] at h;cases h;exact ⟨rfl,rfl⟩
 ·rw [h1,aje akc] at h;cases h;exact ⟨rfl,rfl⟩
theorem aA.qP {d r1:ByteArray} {r2:Int} (h:(if (d.size:Int) > 65535 then some ((⟨#[]⟩:ByteArray),(4:Int)) else some (d,0)) = some (r1,r2)) :
  (65535 < (d.size:Int) → r1 = ⟨#[]⟩ ∧ r2 = 4) ∧ ((d.size:Int) ≤ 65535 → r1 = d ∧ r2 = 0):=by
 refine ⟨fun h2=>?_,fun h2=>?_⟩
 ·rw [ajd h2] at h;cases h;exact ⟨rfl,rfl⟩
 ·rw [aje (by omega)] at h;cases h;exact ⟨rfl,rfl⟩
theorem aA.calls (k:Nat) (a0:ByteArray) (a1 a2 a3:Int) (r1:ByteArray) (r2:Int) (w:World) (h:aA.f k a0 a1 a2 a3 = some (r1,r2)) :
  Calls Tryz.prog 145 #[.string a0,.int .i64 a1,.int .i64 a2,.int .i64 a3] w fun e w'=>e = .returned (.tuple #[.string r1,.int .i64 r2]) ∧ Below w.heap.size w w':=by
 have HB:=ah.mk (Below.refl w.heap.size w)
 obtain ⟨⟨t1,t2⟩,ht,h'⟩:=zbm h
 clear h
 have HT:=ah.mk ht
 clear ht
 cases t2 with
 | false =>
  rw [aje akc] at h'
  obtain ⟨rfl,rfl⟩:=ajr .. ▸ ajE h'
  go_enter Tryz.func145,Tryz.ntmps145
  go_wp2_with (first | (go_at_call 136;refine (eU.calls _ _ _ _ _ _ HT.out).mono ?_;rintro e w1 ⟨rfl,hd1⟩))
  go_ret2
  exact ⟨rfl,hd1.below⟩
 | true =>
  replace h':(match aA.D6 a3 with | some s=>aA.g k a0 a1 a2 a3 s | none=>aA.fin k a3 t1 true) = some (r1,r2):=h'
  cases hsh:aA.D6 a3 with
  | none =>
   rw [hsh] at h'
   have HH:=ah.mk (show aA.fin k a3 t1 true = some (r1,r2) from h')
   clear h'
   have hfn:Mi.sU a3 bV.tab = none:=by rw [aA.xw,hsh];rfl
   go_enter Tryz.func145,Tryz.ntmps145
   go_wp2_with (first
    | (go_at_call 136;refine (eU.calls _ _ _ _ _ _ HT.out).mono ?_;rintro e w1 ⟨rfl,hd1⟩)
    | (go_at_call 129;refine (bV.calls _).mono ?_;rintro e w2 ⟨g,rfl,hin⟩;have hl:=Mi.look (P:=Tryz.prog) hin.at_ 207 3 205 Tryz.underlying207 Tryz.underlying3 _ (Tryz.zeroValue205 w2) a3;rw [hfn] at hl;have hB2:=ah.mk ((HB.out.trans hd1.below).trans (hin.O6.mono hd1.below.size));clear hin)
    | (go_at_call 152;obtain ⟨b,hb,hx⟩:=aA.BH HH.out (by assumption);have hx:=ah.mk hx;refine (dK.calls _ _ _ _ hb).mono ?_;rintro e w3 ⟨rfl,hd3⟩))
   all_goals
    go_ret2
    first
     | (have hq:=(aA.mD hx.out).1 (by assumption) (by assumption);obtain ⟨rfl,rfl⟩:=hq;exact ⟨rfl,(ak hB2.out _).trans (hd3.below.mono (by have:=hB2.out.size;simp only [World.alloc,ako];omega))⟩)
     | (have hq:=(aA.mD hx.out).2.1 (by assumption) (by assumption);obtain ⟨rfl,rfl⟩:=hq;exact ⟨rfl,(ak hB2.out _).trans (hd3.below.mono (by have:=hB2.out.size;simp only [World.alloc,ako];omega))⟩)
     | (have hq:=(aA.mD hx.out).2.2 (by first | assumption | simpa using ‹¬ b = true›);obtain ⟨rfl,rfl⟩:=hq;exact ⟨rfl,(ak hB2.out _).trans (hd3.below.mono (by have:=hB2.out.size;simp only [World.alloc,ako];omega))⟩)
     | (have hq:=(aA.qP (aA.qO HH.out (by assumption))).1 (by assumption);obtain ⟨rfl,rfl⟩:=hq;exact ⟨rfl,ak hB2.out _⟩)
     | (have hq:=(aA.qP (aA.qO HH.out (by assumption))).2 (by assumption);obtain ⟨rfl,rfl⟩:=hq;exact ⟨rfl,ak hB2.out _⟩)
  | some s =>
   obtain ⟨s0,s1,s2⟩:=s
   rw [hsh] at h'
   replace h':aA.g k a0 a1 a2 a3 (s0,s1,s2) = some (r1,r2):=h'
   unfold aA.g at h'
   obtain ⟨⟨p1,p2,p3,p4⟩,hp,h'⟩:=zbm h'
   replace h':(if p1.size + (strings_Join.cat p3).size + p2.size ≤ 140737488355328 then (if p3.length ≤ 1000000 then aA.fin k a3 (p1 ++ strings_Join.cat p3 ++ p2) p4 else none) else none) = some (r1,r2):=h'
   have hp:=ah.mk (show bR.f k a0 a1 (wrap64 (a1 + a2)) s0 s1 s2 = some (p1,p2,p3,p4) from hp)
   by_cases z1:p1.size + (strings_Join.cat p3).size + p2.size ≤ 140737488355328
   ·rw [ajd z1] at h'
    by_cases z2:p3.length ≤ 1000000
    ·rw [ajd z2] at h'
     have HH:=ah.mk h'
     have z1:=ah.mk z1
     have z2:=ah.mk z2
     clear h'
     have hfn:Mi.sU a3 bV.tab = some (bV.agg s0 s1 s2):=by rw [aA.xw,hsh];rfl
     cases p4
     all_goals
      go_enter Tryz.func145,Tryz.ntmps145
      go_wp2_with (first
       | (go_at_call 136;refine (eU.calls _ _ _ _ _ _ HT.out).mono ?_;rintro e w1 ⟨rfl,hd1⟩)
       | (go_at_call 129;refine (bV.calls _).mono ?_;rintro e w2 ⟨g,rfl,hin⟩;have hl:=Mi.look (P:=Tryz.prog) hin.at_ 207 3 205 Tryz.underlying207 Tryz.underlying3 _ (Tryz.zeroValue205 w2) a3;rw [hfn] at hl;replace hl:=show _ = Result.ok (Value.tuple #[.agg #[.int .i64 s0,.int .i64 s1,.int .i64 s2],.bool true]) w2 from hl;have hB2:=ah.mk ((HB.out.trans hd1.below).trans (hin.O6.mono hd1.below.size));clear hin)
       | (go_at_call 130;refine (bR.calls _ _ _ _ _ _ _ _ _ _ _ _ hp.out).mono ?_;rintro e w3 ⟨v,rfl,hv,hb3⟩;obtain ⟨vA,vn,vc,rfl⟩:=aA.slc hv;have hB3:=ah.mk ((ak hB2.out _).trans (hb3.mono (by have:=hB2.out.size;simp only [World.alloc,ako];omega)));have hv:=ah.mk hv;clear hb3)
       | (go_at_call 147;refine (iQ.calls _ _ _ p3 _ _ _ (Kd.fZ hv.out _) z2.out z1.out).mono ?_;rintro e w4 ⟨rfl,hb4⟩;have hB4:=ah.mk ((ak hB3.out _).trans (hb4.mono (by have:=hB3.out.size;simp only [World.alloc,ako];omega)));clear hb4)
       | (go_at_call 152;obtain ⟨b,hb,hx⟩:=aA.BH HH.out (by assumption);have hx:=ah.mk hx;refine (dK.calls _ _ _ _ hb).mono ?_;rintro e w5 ⟨rfl,hd3⟩))
      all_goals
       go_ret2
       first
        | (have hq:=aA.XP HH.out;cases hq;exact ⟨rfl,hB4.out⟩)
        | (have hq:=(aA.mD hx.out).1 (by first | assumption | (simp only [ajx,Int.natCast_add];assumption)) (by first | assumption | (simp only [ajx,Int.natCast_add];assumption));obtain ⟨rfl,rfl⟩:=hq;exact ⟨rfl,hB4.out.trans (hd3.below.mono hB4.out.size)⟩)
        | (have hq:=(aA.mD hx.out).2.1 (by first | assumption | (simp only [ajx,Int.natCast_add];assumption)) (by first | assumption | (simp only [ajx,Int.natCast_add];assumption));obtain ⟨rfl,rfl⟩:=hq;exact ⟨rfl,hB4.out.trans (hd3.below.mono hB4.out.size)⟩)
        | (have hq:=(aA.mD hx.out).2.2 (by first | assumption | simpa using ‹¬ b = true›);obtain ⟨rfl,rfl⟩:=hq;exact ⟨rfl,hB4.out.trans (hd3.below.mono hB4.out.size)⟩)
        | (have hq:=(aA.qP (aA.qO HH.out (by first | assumption | (simp only [ajx,Int.natCast_add];assumption)))).1 (by first | assumption | (simp only [ajx,Int.natCast_add];assumption));obtain ⟨rfl,rfl⟩:=hq;exact ⟨rfl,hB4.out⟩)
        | (have hq:=(aA.qP (aA.qO HH.out (by first | assumption | (simp only [ajx,Int.natCast_add];assumption)))).2 (by first | assumption | (simp only [ajx,Int.natCast_add];assumption));obtain ⟨rfl,rfl⟩:=hq;exact ⟨rfl,hB4.out⟩)
    ·rw [aje z2] at h';cases h'
   ·rw [aje z1] at h';cases h'
def je.f (k:Nat) (a0:Int) (a1:ByteArray):Option (Bool):=if (a1.size:Int) > 65535 then (some false) else ((aA.f k a1 0 (a1.size:Int) a0).bind fun FR=>(if FR.2 = 0 then (some (FR.1.toList == a1.toList)) else (some false)))
theorem je.calls (k:Nat) (a0:Int) (a1:ByteArray) (r:Bool) (w:World) (h:je.f k a0 a1 = some r) :
  Calls Tryz.prog 128 #[.int .i64 a0,.string a1] w fun e w'=>e = .returned (.bool r) ∧ Below w.heap.size w w':=by
 have HB:=ah.mk (Below.refl w.heap.size w)
 have H:(if (a1.size:Int) > 65535 then (some false) else ((aA.f k a1 0 (a1.size:Int) a0).bind fun FR=>(if FR.2 = 0 then (some (FR.1.toList == a1.toList)) else (some false)))) = some r:=h
 clear h
 by_cases c3:(a1.size:Int) > 65535
 ·rw [ajd c3] at H
  have vI:decide (65535 < (a1.size:Int)) = true:=ajf c3
  have Hz:decide (65535 < a1.size) = true:=ajf (by omega)
  clear c3
  obtain rfl:=ajE H
  go_enter Tryz.func128,Tryz.ntmps128
  go_wp2
  go_ret
  exact ⟨by first | rfl | (simp [aJ,aK] <;> rfl) | (simp [*,aJ,aK] <;> rfl),by repeat (first | exact HB.out | apply ak | apply aj | apply au)⟩
 ·rw [aje c3] at H
  have vI:decide (65535 < (a1.size:Int)) = false:=ajh c3
  have Hz:decide (65535 < a1.size) = false:=ajh (by omega)
  clear c3
  replace H:=zbm H
  obtain ⟨⟨t131,FT⟩,OI,H⟩:=H
  replace H:(if FT = 0 then (some (t131.toList == a1.toList)) else (some false)) = some r:=H
  have A4:=ah.mk OI
  clear OI
  by_cases c5:FT = 0
  ·rw [ajd c5] at H
   have KP:(FT == 0) = true:=ajN.mpr c5
   have SE:(FT != 0) = false:=akE.mpr c5
   clear c5
   obtain rfl:=ajE H
   go_enter Tryz.func128,Tryz.ntmps128
   go_wp2_with (first | ((with_reducible refine bS (f:=145) rfl ?_);refine gJ (some 15) rfl rfl Tryz.func145 (by kernel_rfl) rfl #[.string a1,.int .i64 0,.int .i64 (a1.size:Int),.int .i64 a0] rfl (by (try simp only [ajM,ajp,ajs]);first | done | rfl | (simp only [ajG,ajv];rfl) | (simp only [ajx,Int.natCast_add];rfl) | (rw [B.jP] <;> first | rfl | omega | (simp only [aj4,ajz,Int.not_lt,Nat.not_lt,gt_iff_lt] at * <;> omega))) ?_;(with_reducible refine (aA.calls k a1 0 (a1.size:Int) a0 t131 FT _ A4.out).mono ?_);rintro e w6 ⟨rfl,hb⟩;refine ⟨_,rfl,?_⟩;have fK:=ah.mk (bL (by repeat first | exact HB.out | apply ak | apply aj | apply au) hb);clear HB;have HB:=fK;clear fK;(try clear hb);(try clear hb2);(try clear hk);(try clear hi)))
   go_ret
   exact ⟨by first | rfl | (simp [aJ,aK] <;> rfl) | (simp [*,aJ,aK] <;> rfl),by repeat (first | exact HB.out | apply ak | apply aj | apply au)⟩
  ·rw [aje c5] at H
   have KP:(FT == 0) = false:=akd.mpr c5
   have SE:(FT != 0) = true:=akm.mpr c5
   obtain rfl:=ajE H
   go_enter Tryz.func128,Tryz.ntmps128
   go_wp2_with (first | ((with_reducible refine bS (f:=145) rfl ?_);refine gJ (some 15) rfl rfl Tryz.func145 (by kernel_rfl) rfl #[.string a1,.int .i64 0,.int .i64 (a1.size:Int),.int .i64 a0] rfl (by (try simp only [ajM,ajp,ajs]);first | done | rfl | (simp only [ajG,ajv];rfl) | (simp only [ajx,Int.natCast_add];rfl) | (rw [B.jP] <;> first | rfl | omega | (simp only [aj4,ajz,Int.not_lt,Nat.not_lt,gt_iff_lt] at * <;> omega))) ?_;(with_reducible refine (aA.calls k a1 0 (a1.size:Int) a0 t131 FT _ A4.out).mono ?_);rintro e w7 ⟨rfl,hb⟩;refine ⟨_,rfl,?_⟩;have fK:=ah.mk (bL (by repeat first | exact HB.out | apply ak | apply aj | apply au) hb);clear HB;have HB:=fK;clear fK;(try clear hb);(try clear hb2);(try clear hk);(try clear hi)))
   go_ret
   exact ⟨by first | rfl | (simp [aJ,aK] <;> rfl) | (simp [*,aJ,aK] <;> rfl),by repeat (first | exact HB.out | apply ak | apply aj | apply au)⟩
def bW.f (k:Nat) (a0:Int) (a1:ByteArray):Option (ByteArray × ByteArray × List ByteArray × Bool) :=
 (je.f k a0 a1).bind fun c=>if c = true then (match aA.D6 a0 with | some s=>bR.f k a1 0 (a1.size:Int) s.1 s.2.1 s.2.2 | none=>some (a1,⟨#[]⟩,[],true)) else some (⟨#[]⟩,⟨#[]⟩,[],false)
theorem bW.three {w w1:World} {g B:Nat} {a b c a' b' c':Value} (bk:w1.heap[g]? = some (.cells #[a',b',c'] 191 (0,0))) :
  (((w1.setCell ⟨g,0,none⟩ a).setCell ⟨g,1,none⟩ b).setCell ⟨g,2,none⟩ c).heap[g]? = some (.cells #[a,b,c] 191 (0,0)) ∧
  (Below B w w1 → B ≤ g → Below B w (((w1.setCell ⟨g,0,none⟩ a).setCell ⟨g,1,none⟩ b).setCell ⟨g,2,none⟩ c)) ∧
  (∀ v l base ok,Kd.R Kd.string 9 w1 base ok v l → Kd.R Kd.string 9 (((w1.setCell ⟨g,0,none⟩ a).setCell ⟨g,1,none⟩ b).setCell ⟨g,2,none⟩ c) base ok v l):=by
 have b1:=iw bk 0 a (cs':=#[a,b',c']) rfl
 have b2:=iw b1 1 b (cs':=#[a,b,c']) rfl
 have b3:=iw b2 2 c (cs':=#[a,b,c]) rfl
 refine ⟨b3,fun h hg=>((h.setCell hg _).setCell hg _).setCell hg _,fun v l base ok h=>?_⟩
 exact Kd.Ol (Kd.Ol (Kd.Ol h bk (by decide) 0 a) b1 (by decide) 1 b) b2 (by decide) 2 c
theorem bW.facts {w1:World} {g:Nat} {a b c:Value} (bk:w1.heap[g]? = some (.cells #[a,b,c] 191 (0,0))) :
  (w1.cell? ⟨g,0,none⟩ = some a ∧ w1.cell? ⟨g,1,none⟩ = some b ∧ w1.cell? ⟨g,2,none⟩ = some c) ∧ w1.frozen? ⟨g,0,none⟩ = false ∧ w1.frozen? ⟨g,1,none⟩ = false ∧ w1.frozen? ⟨g,2,none⟩ = false :=
 ⟨⟨bN bk 0,bN bk 1,bN bk 2⟩,bI bk 0,bI bk 1,bI bk 2⟩
theorem bW.calls (k:Nat) (a0:Int) (a1:ByteArray) (r1 r2:ByteArray) (r3:List ByteArray) (r4:Bool) (w:World) (h:bW.f k a0 a1 = some (r1,r2,r3,r4)) :
  Calls Tryz.prog 112 #[.int .i64 a0,.string a1] w fun e w'=>∃ v2_:Value,e = .returned (.tuple #[.agg #[.string r1,.string r2,v2_],.bool r4]) ∧ Kd.R Kd.string 9 w' w.heap.size (fun _=>True) v2_ r3 ∧ Below w.heap.size w w':=by
 obtain ⟨c,hc,h'⟩:=zbm h
 clear h
 have HC:=ah.mk hc
 clear hc
 cases c with
 | false =>
  rw [aje akc] at h'
  cases h'
  go_enter Tryz.func112,Tryz.ntmps112
  go_wp2_with (first
   | (go_at_call 128;refine (je.calls _ _ _ _ _ HC.out).mono ?_;rintro e w1 ⟨rfl,hd1⟩;have bk:=dY (uj w _) hd1;obtain ⟨⟨k0,k1,k2⟩,f0,f1,f2⟩:=bW.facts bk;have bk:=ah.mk bk;have hB1:=ah.mk ((ak (Below.refl w.heap.size w) _).trans (hd1.mono (by simp only [World.alloc,ako];omega)));clear hd1))
  refine bodyPost_ret (kg rfl _ _ w.heap.size 191 #[.string ⟨#[]⟩,.string ⟨#[]⟩,.slice none 0 0] (0,0) _ rfl (bW.three (w:=w) (B:=0) bk.out).1 Tryz.underlying191 rfl (by kernel_rfl)) rfl ?_
  exact ⟨_,rfl,Kd.ku _ _ _ _ _,(bW.three bk.out).2.1 hB1.out (aji _)⟩
 | true =>
  replace h':(match aA.D6 a0 with | some s=>bR.f k a1 0 (a1.size:Int) s.1 s.2.1 s.2.2 | none=>some (a1,⟨#[]⟩,[],true)) = some (r1,r2,r3,r4):=h'
  cases hsh:aA.D6 a0 with
  | none =>
   rw [hsh] at h'
   cases h'
   have hfn:Mi.sU a0 bV.tab = none:=by rw [aA.xw,hsh];rfl
   go_enter Tryz.func112,Tryz.ntmps112
   go_wp2_with (first
    | (go_at_call 128;refine (je.calls _ _ _ _ _ HC.out).mono ?_;rintro e w1 ⟨rfl,hd1⟩;have bk:=dY (uj w _) hd1;obtain ⟨⟨k0,k1,k2⟩,f0,f1,f2⟩:=bW.facts bk;have bk:=ah.mk bk;have hB1:=ah.mk ((ak (Below.refl w.heap.size w) _).trans (hd1.mono (by simp only [World.alloc,ako];omega)));clear hd1)
    | (go_at_call 129;refine (bV.calls _).mono ?_;rintro e w2 ⟨g,rfl,hin⟩;clear k0 k1 k2 f0 f1 f2;have hl:=Mi.look (P:=Tryz.prog) hin.at_ 207 3 205 Tryz.underlying207 Tryz.underlying3 _ (Tryz.zeroValue205 w2) a0;rw [hfn] at hl;replace hl:=show _ = Result.ok (Value.tuple #[.agg #[.int .i64 0,.int .i64 0,.int .i64 0],.bool false]) w2 from hl;have hB2:=ah.mk (hB1.out.trans (hin.O6.mono hB1.out.size));have bk:=ah.mk (aN (dY bk.out hin.O6) (.cells #[.int .i64 0,.int .i64 0,.int .i64 0] 205 (0,0)));obtain ⟨⟨k0,k1,k2⟩,f0,f1,f2⟩:=bW.facts bk.out;clear hin))
   refine bodyPost_ret (kg rfl _ _ w.heap.size 191 #[.string a1,.string ⟨#[]⟩,.slice none 0 0] (0,0) _ rfl (bW.three (w:=w) (B:=0) bk.out).1 Tryz.underlying191 rfl (by kernel_rfl)) rfl ?_
   exact ⟨_,rfl,Kd.ku _ _ _ _ _,(bW.three bk.out).2.1 (ak hB2.out _) (aji _)⟩
  | some s =>
   obtain ⟨s0,s1,s2⟩:=s
   rw [hsh] at h'
   have hp:=ah.mk (show bR.f k a1 0 (a1.size:Int) s0 s1 s2 = some (r1,r2,r3,r4) from h')
   clear h'
   have hfn:Mi.sU a0 bV.tab = some (bV.agg s0 s1 s2):=by rw [aA.xw,hsh];rfl
   go_enter Tryz.func112,Tryz.ntmps112
   go_wp2_with (first
    | (go_at_call 128;refine (je.calls _ _ _ _ _ HC.out).mono ?_;rintro e w1 ⟨rfl,hd1⟩;have bk:=dY (uj w _) hd1;obtain ⟨⟨k0,k1,k2⟩,f0,f1,f2⟩:=bW.facts bk;have bk:=ah.mk bk;have hB1:=ah.mk ((ak (Below.refl w.heap.size w) _).trans (hd1.mono (by simp only [World.alloc,ako];omega)));clear hd1)
    | (go_at_call 129;refine (bV.calls _).mono ?_;rintro e w2 ⟨g,rfl,hin⟩;clear k0 k1 k2 f0 f1 f2;have hl:=Mi.look (P:=Tryz.prog) hin.at_ 207 3 205 Tryz.underlying207 Tryz.underlying3 _ (Tryz.zeroValue205 w2) a0;rw [hfn] at hl;replace hl:=show _ = Result.ok (Value.tuple #[.agg #[.int .i64 s0,.int .i64 s1,.int .i64 s2],.bool true]) w2 from hl;have hB2:=ah.mk (hB1.out.trans (hin.O6.mono hB1.out.size));have bk:=ah.mk (aN (dY bk.out hin.O6) (.cells #[.int .i64 s0,.int .i64 s1,.int .i64 s2] 205 (0,0)));obtain ⟨⟨k0,k1,k2⟩,f0,f1,f2⟩:=bW.facts bk.out;clear hin)
    | (go_at_call 130;refine (bR.calls _ _ _ _ _ _ _ _ _ _ _ _ hp.out).mono ?_;rintro e w3 ⟨v,rfl,hv,hb3⟩;clear k0 k1 k2 f0 f1 f2;obtain ⟨vA,vn,vc,rfl⟩:=aA.slc hv;have hB3:=ah.mk ((ak hB2.out _).trans (hb3.mono (by have:=hB2.out.size;simp only [World.alloc,ako];omega)));have hv:=ah.mk (Kd.nM hv (by have:=hB2.out.size;simp only [World.alloc,ako];omega:w.heap.size ≤ _));have bk:=ah.mk (dY bk.out hb3);obtain ⟨⟨k0,k1,k2⟩,f0,f1,f2⟩:=bW.facts bk.out;clear hb3))
   refine bodyPost_ret (kg rfl _ _ w.heap.size 191 #[.string r1,.string r2,.slice vA vn vc] (0,0) _ rfl (bW.three (w:=w) (B:=0) bk.out).1 Tryz.underlying191 rfl (by kernel_rfl)) rfl ?_
   exact ⟨_,rfl,(bW.three (w:=w) (B:=0) bk.out).2.2 _ _ _ _ hv.out,(bW.three bk.out).2.1 hB3.out (aji _)⟩
def eH.all (k:Nat):List ByteArray → Option (List ByteArray)
 | []=>some []
 | x :: l=>(ng.f k x).bind fun y=>(eH.all k l).bind fun m=>some (y :: m)
def eH.fin (p1 p2:ByteArray) (m:List ByteArray):Option ByteArray :=
 if p1.size + (strings_Join.cat m).size + p2.size ≤ 140737488355328 then (if m.length ≤ 1000000 then some (p1 ++ strings_Join.cat m ++ p2) else none) else none
def eH.f (k:Nat) (a0:Int) (a1:ByteArray):Option ByteArray :=
 (bW.f k a0 a1).bind fun p=>(eH.all k p.2.2.1).bind fun m=>eH.fin p.1 p.2.1 m
theorem eH.zw {k:Nat}:∀ {l m:List ByteArray},eH.all k l = some m → m.length = l.length
 | [],m,h=>by cases h;rfl
 | x :: l,m,h=>by
  rw [eH.all] at h
  obtain ⟨y,_,h⟩:=zbm h
  obtain ⟨m',h',h⟩:=zbm h
  cases h
  rw [List.length_cons,List.length_cons,eH.zw h']
theorem eH.calls (k:Nat) (a0:Int) (a1:ByteArray) (r:ByteArray) (w:World) (h:eH.f k a0 a1 = some r) :
  Calls Tryz.prog 132 #[.int .i64 a0,.string a1] w fun e w'=>e = .returned (.string r) ∧ Below w.heap.size w w':=by
 obtain ⟨⟨p1,p2,l,p4⟩,hp,h'⟩:=zbm h
 clear h
 obtain ⟨m,hm,h'⟩:=zbm h'
 replace hm:eH.all k l = some m:=hm
 replace h':eH.fin p1 p2 m = some r:=h'
 have hml:=eH.zw hm
 have HP:=ah.mk hp
 have HM:=ah.mk hm
 have HF:=ah.mk h'
 have HL:=ah.mk hml
 clear hp hm h' hml
 go_enter Tryz.func132,Tryz.ntmps132
 go_wp2_with (first
  | (go_at_call 112;refine (bW.calls _ _ _ _ _ _ _ _ HP.out).mono ?_;rintro e w1 ⟨v,rfl,hv,hb1⟩;obtain ⟨vA,vn,vc,rfl⟩:=aA.slc hv;obtain ⟨rfl,_,hcc⟩:=Kd.qw hv;have hmx:=ah.mk (Kd.UK hcc);clear hcc;have hv2:=ah.mk (Kd.fZ hv (.cells #[.string p1,.string p2,.slice vA l.length vc] 191 (0,0)));have hb2:=ah.mk (ak hb1 (.cells #[.string p1,.string p2,.slice vA l.length vc] 191 (0,0)));have bk2:=ah.mk (uj w1 (.cells #[.string p1,.string p2,.slice vA l.length vc] 191 (0,0)));have hge:=ah.mk hb1.size;clear hv hb1))
 generalize hw1:w1.alloc (.cells #[.string p1,.string p2,.slice vA l.length vc] 191 (0,0)) = w2 at *
 generalize hg:w1.heap.size = g at *
 clear hw1 hg
 go_loopw [18] (fun v18 wr=>∃ (j:Nat) (cur:List ByteArray),v18 = .int .i64 j ∧ j ≤ l.length ∧ ah (cur.length = l.length ∧ ∃ mm,eH.all k (cur.drop j) = some mm ∧ m = cur.take j ++ mm) ∧ ah (wr.heap[g]? = some (.cells #[.string p1,.string p2,.slice vA l.length vc] 191 (0,0))) ∧ ah (Kd.R Kd.string 9 wr w.heap.size (fun _=>True) (.slice vA l.length vc) cur) ∧ ah (Below w.heap.size w wr)) (fun v18 _=>l.length - (intOf v18).toNat)
 case atStart=>exact ⟨0,l,rfl,ajT _,⟨rfl,m,HM.out,rfl⟩,bk2,hv2,hb2⟩
 case round =>
  clear HM hv2 hb2 bk2
  obtain ⟨j,cur,rfl,hj,hc,bk,hR,hB⟩:=hrel
  by_cases hlt:j < l.length
  ·obtain ⟨hcl,mm,hmm,hmt⟩:=hc.out
   have hjc:j < cur.length:=by omega
   rw [akH hjc,eH.all] at hmm
   obtain ⟨y,hy,hmm⟩:=zbm hmm
   obtain ⟨m',hm',hmm⟩:=zbm hmm
   obtain rfl:mm = y :: m':=(ajE hmm).symm
   have hnew:=ah.mk (show (cur.set j y).length = l.length ∧ ∃ mm,eH.all k ((cur.set j y).drop (j + 1)) = some mm ∧ m = (cur.set j y).take (j + 1) ++ mm from by
    refine ⟨by rw [akP];exact hcl,m',?_,?_⟩
    ·rw [List.drop_set_of_lt (by omega)];exact hm'
    ·have e:(cur.set j y).take (j + 1) = cur.take j ++ [y]:=by
      rw [List.take_succ_eq_append_getElem (by rw [akP];exact hjc),List.getElem_set_self,List.take_set_of_le (aji j)]
     rw [hmt,e,aj0];rfl)
   obtain ⟨gr,cap,e0,_,_,cells,hcells⟩:=Kd.Xw hR.out (by omega)
   injection e0 with e1 e2 e3
   subst e1 e3
   have hne:=ah.mk (show g ≠ gr from Xq bk.out hcells (by decide))
   have hxc:=Kd.Dk ByteArray.empty hR.out (j:Int) (by omega) (by omega)
   have hxe:Ad ByteArray.empty cur (j:Int) = cur[j]:=by
    unfold Ad
    rw [Int.toNat_natCast,ajB,ajt hjc]
    rfl
   rw [hxe,Int.toNat_natCast] at hxc
   have HY:=ah.mk hy
   have c0:=hxc.1
   have c1:=(bW.facts bk.out).1.2.2
   have hlt2:=ah.mk hlt
   have p0:(0 ≤ (j:Int)) = True:=ajn (by omega)
   have q0:((j:Int) < (l.length:Int)) = True:=ajn (by omega)
   generalize cur[j] = x at *
   clear hmm hm' hmt hy hxe hxc hcells hc e2 hlt hjc hcl
   go_wp2
   go_region_with (first | (go_at_call 68;refine (ng.calls _ _ _ _ HY.out).mono ?_;rintro e w3 ⟨rfl,hb3⟩;have bk3:=dY (aW bk.out) hb3;have Te:=Kd.lC (Kd.gZ hR.out) hb3;have hB3:=ah.mk ((iI hB.out).trans (hb3.mono hB.out.size));have d0:=(Kd.Dk ByteArray.empty Te (j:Int) (by omega) (by have:=hlt2.out;omega)).1;have d1:=(Kd.Dk ByteArray.empty Te (j:Int) (by omega) (by have:=hlt2.out;omega)).2;rw [Int.toNat_natCast] at d0 d1;have d2:=(bW.facts bk3).1.2.2;have bk3:=ah.mk bk3;have Te:=ah.mk Te;clear hb3))
   all_goals
    have hfin:=Kd.Xz Te.out (j:Int) y
    rw [Int.toNat_natCast] at hfin
    have bk4:=ah.mk (oP (p:=⟨gr,j,none⟩) bk3.out hne.out (.string y))
    have hR4:=ah.mk hfin.1
    have hB4:=ah.mk (hB3.out.grown hfin.2 hB3.out.size (fun k e=>by cases e;exact Kd.Xv Te.out gr rfl))
    clear hfin
    generalize w3.setCell ⟨gr,j,none⟩ (.string y) = w4 at *
    clear c0 c1 d0 d1 d2 p0 q0
    have hw:=(show wrap64 ((j:Int) + 1) = ((j + 1:Nat):Int) from by have hlt:=hlt2.out;have hm9:=hmx.out;rw [B.jP (by omega) (by omega)];omega)
    have hw:=ah.mk hw
    go_wp2
    go_roundw
    case rel=>have hlt:=hlt2.out;have hm9:=hmx.out;exact ⟨j + 1,cur.set j y,by rw [hw.out],hlt2.out,hnew,bk4,hR4,hB4⟩
    case measure=>have hlt:=hlt2.out;have hm9:=hmx.out;rw [hw.out];simp only [intOf];omega
  ·obtain rfl:j = l.length:=by omega
   have hcm:m = cur:=by
    obtain ⟨hcl,mm,hmm,hmt⟩:=hc.out
    rw [← hcl,List.drop_length] at hmm
    cases hmm
    rw [hmt,← hcl,aj1,akg]
   subst hcm
   have q0:((l.length:Int) < (l.length:Int)) = False:=eq_false (by omega)
   obtain ⟨⟨k0,k1,k2⟩,_,_,_⟩:=bW.facts bk.out
   have hF:=HF.out
   unfold eH.fin at hF
   by_cases z1:p1.size + (strings_Join.cat m).size + p2.size ≤ 140737488355328
   ·rw [ajd z1] at hF
    by_cases z2:m.length ≤ 1000000
    ·rw [ajd z2] at hF
     obtain rfl:=ajE hF
     have z1:=ah.mk z1
     have z2:=ah.mk z2
     clear hF HF
     go_wp2_with (first
      | (go_at_call 147;refine (iQ.calls _ _ _ m _ _ _ hR.out z2.out z1.out).mono ?_;rintro e w4 ⟨rfl,hb4⟩;have hB4:=ah.mk (hB.out.trans (hb4.mono hB.out.size));clear hb4))
     go_ret
     exact ⟨rfl,hB4.out⟩
    ·rw [aje z2] at hF;cases hF
   ·rw [aje z1] at hF;cases hF
def nu.f (k:Nat) (a0:Int) (a1:ByteArray):Option (List ByteArray):=(bW.f k a0 a1).bind fun O9=>(some O9.2.2.1)
theorem nu.calls (k:Nat) (a0:Int) (a1:ByteArray) (r:List ByteArray) (w:World) (h:nu.f k a0 a1 = some r) :
  Calls Tryz.prog 81 #[.int .i64 a0,.string a1] w fun e w'=>∃ UQ:Value,e = .returned (UQ) ∧ Kd.R Kd.string 9 w' w.heap.size (fun _=>True) UQ r ∧ Below w.heap.size w w':=by
 have ab3:=Tryz.underlying191
 have HB:=ah.mk (Below.refl w.heap.size w)
 have H:((bW.f k a0 a1).bind fun O9=>(some O9.2.2.1)) = some r:=h
 clear h
 replace H:=zbm H
 obtain ⟨⟨aco,acp,XQ,t138⟩,A30,H⟩:=H
 replace H:(some XQ) = some r:=H
 have A3:=ah.mk A30
 clear A30
 obtain rfl:=ajE H
 go_enter Tryz.func81,Tryz.ntmps81
 go_wp2_with (first | ((with_reducible refine bS (f:=112) rfl ?_);refine gJ (some 10) rfl rfl Tryz.func112 (by kernel_rfl) rfl #[.int .i64 a0,.string a1] rfl (by (try simp only [ajM,ajp,ajs]) <;> rfl) ?_;(with_reducible refine (bW.calls k a0 a1 aco acp XQ t138 _ A3.out).mono ?_);rintro e w4 ⟨aja,rfl,ho0,hb⟩;refine ⟨_,rfl,?_⟩;have fK:=ah.mk (Kd.nM ho0 (dB (by repeat first | exact HB.out | apply ak | apply aj | apply au)));have jJ:=ah.mk (bL (by repeat first | exact HB.out | apply ak | apply aj | apply au) hb);clear HB;have FU:=fK;have HB:=jJ;clear fK jJ;(try clear hb);(try clear hb2);(try clear hk);(try clear hi);(try clear ho0)) | ((with_reducible refine mU (N:=5) rfl ?_);refine kZ ?hg (N:=5) ?hd (cs:=#[.string (⟨#[]⟩:ByteArray),.string (⟨#[]⟩:ByteArray),.slice none 0 0]) (t:=191) ?hr ?_;(case hd=>rfl);(case hg=>rfl);(case hr=>first | (go_simp;done) | (go_simp;rfl));intro wF hg w5 oz hb;have fK:=ah.mk (Kd.lC (by (with_reducible repeat (first | apply Kd.fZ | apply Kd.gT | apply Kd.gZ));exact FU.out) hb);have jJ:=ah.mk (bL (by repeat first | exact HB.out | apply ak | apply aj | apply au) hb);have nW:=ah.mk (oz);have oW:=ah.mk ((by rw [hg];exact (dB (by repeat first | exact HB.out | apply ak | apply aj | apply au)):w.heap.size ≤ wF));have rz:=ah.mk ((by rw [hg];exact (dB (by repeat first | exact HB.out | apply ak | apply aj | apply au)):w.heap.size ≤ wF));clear FU;clear HB;have FU:=fK;have HB:=jJ;have zx:=nW;have aiO:=oW;have acr:=rz;clear fK jJ nW oW rz;clear hb oz hg;have agH:w5.cell? ⟨wF,0,none⟩ = some (.string (⟨#[]⟩:ByteArray)):=(bN zx.out 0).trans rfl;have agI:w5.cell? ⟨wF,1,none⟩ = some (.string (⟨#[]⟩:ByteArray)):=(bN zx.out 1).trans rfl;have agJ:w5.cell? ⟨wF,2,none⟩ = some (.slice none 0 0):=(bN zx.out 2).trans rfl;have agK:=bI zx.out 0;have agL:=bI zx.out 1;have agM:=bI zx.out 2;obtain ⟨Ao7,co7,eo7⟩:=Kd.uw FU.out;subst eo7))
 go_ret
 exact ⟨_,by first | rfl | (simp [aJ,aK] <;> rfl) | (simp [*,aJ,aK] <;> rfl),by (with_reducible repeat (first | apply Kd.fZ | apply Kd.gT | apply Kd.gZ));exact Kd.qp (Kd.uo (p:=⟨wF,2,none⟩) (Kd.uo (p:=⟨wF,1,none⟩) (Kd.uo (p:=⟨wF,0,none⟩) (Kd.uq FU.out zx.out (by decide)) (fun _ hk=>hk.2) (.string aco)) (fun _ hk=>hk.2) (.string acp)) (fun _ hk=>hk.2) (.slice Ao7 XQ.length co7)) (fun _ hk=>trivial),by repeat (first | (with_reducible first | exact HB.out | apply ak | apply aj | apply au | refine aZ ?_ acr.out) | exact HB.out)⟩
end
section
open Go.RowKit Go.Proofs.YtfokaoeinpnagaaGreatW.aX Go.Proofs.YtfokaoeinpnagaaGreatW.dL Go.Proofs.YtfokaoeinpnagaaGreatW.eO
attribute [local go_sem] jU jV lD lF jm jo jW jX
theorem agN (d:Nat) (w:World) (x0 y0:Int) (x1 y1:Int) (x2 y2:Int) :
  (Op.equalIn (d + 2) 198 (.agg #[.int .i64 x0,.int .i64 x1,.int .i64 x2]) (.agg #[.int .i64 y0,.int .i64 y1,.int .i64 y2])).run Tryz.prog w = .ok (x0 == y0 && (x1 == y1 && (x2 == y2))) w:=by
 refine B.OB Tryz.underlying198 (by kernel_rfl) (by kernel_rfl) ?_
 show (Op.eqItems _ 3 1 _ _ [0,1,2]).run _ _ = _
 refine B.Fp (by go_simp;rfl) (by go_simp;rfl) (by go_simp) ?_
 refine B.Fp (by go_simp;rfl) (by go_simp;rfl) (by go_simp) ?_
 exact B.OA (by go_simp;rfl) (by go_simp;rfl) (by go_simp)
end
section
open Go.RowKit Go.Proofs.YtfokaoeinpnagaaGreatW.aX Go.Proofs.YtfokaoeinpnagaaGreatW.dL Go.Proofs.YtfokaoeinpnagaaGreatW.eO Go.Proofs.YtfokaoeinpnagaaGreat.B
def BI (msg:ByteArray) (i:Int):ByteArray × Int × Int:=(bq.f (rounds i) msg i).getD (⟨#[]⟩,0,0)
theorem U5 (msg:ByteArray) (i:Int) (hm:msg.size ≤ 100000):bq.f (rounds i) msg i = some (BI msg i):=by
 obtain ⟨R,h1,_⟩:=KW (rounds i) msg i hm (aji _)
 unfold BI;rw [h1];rfl
theorem acs (k:Nat) (msg:ByteArray) (i:Int) (hm:msg.size ≤ 100000) (hk:rounds i ≤ k):bq.f k msg i = some (BI msg i):=FP hk (U5 msg i hm)
theorem FX (msg:ByteArray) (i:Int) (hm:msg.size ≤ 100000) :
  ((BI msg i).2.2 = 0 ∧ gP (BI msg i).1 = true ∧ 0 ≤ i ∧ i < (BI msg i).2.1 ∧ (BI msg i).2.1 ≤ (msg.size:Int)) ∨ (((BI msg i).2.2 = 2 ∨ (BI msg i).2.2 = 3) ∧ (BI msg i).1 = ⟨#[]⟩ ∧ (BI msg i).2.1 = 0):=H8 hm (U5 msg i hm)
def LC (msg:ByteArray) (e:Int):Nat → Int → List ByteArray → Option (List ByteArray × Int)
 | 0,i,l=>some (l,i)
 | n + 1,i,l=>if (BI msg i).2.2 = 0 then (if (BI msg i).2.1 > e then none else LC msg e n (BI msg i).2.1 (l ++ [(BI msg i).1])) else none
theorem qQ (msg:ByteArray) (e:Int) (hm:msg.size ≤ 100000):∀ (n:Nat) (i:Int) (l:List ByteArray) (R:List ByteArray × Int),LC msg e n i l = some R → i ≤ e → i ≤ R.2 ∧ R.2 ≤ e ∧ R.1.length = l.length + n ∧ (∃ l',R.1 = l ++ l' ∧ ∀ x ∈ l',gP x = true)
 | 0,i,l,R,h,hi=>by cases h;exact ⟨aj7 _,hi,rfl,[],by simp,by simp⟩
 | n + 1,i,l,R,h,hi=>by
  rw [LC] at h
  by_cases h0:(BI msg i).2.2 = 0
  ·rw [ajd h0] at h
   by_cases h1:(BI msg i).2.1 > e
   ·rw [ajd h1] at h;cases h
   ·rw [aje h1] at h
    obtain ⟨a1,a2,a3,l',a4,a5⟩:=qQ msg e hm n _ _ R h (by omega)
    rcases FX msg i hm with ⟨_,b2,_,b4,_⟩ | ⟨b1,_⟩
    ·refine ⟨by omega,a2,by rw [a3,ajl,List.length_singleton];omega,(BI msg i).1 :: l',by rw [a4];simp,?_⟩
     intro x hx
     rcases ajw.mp hx with rfl | hx
     ·exact b2
     ·exact a5 x hx
    ·omega
  ·rw [aje h0] at h;cases h
def K0 : Nat:=101000
theorem K4 {msg:ByteArray} {i:Int} {k:Nat} (hm:msg.size ≤ 100000) (hi:i ≤ (msg.size:Int)) (hk:K0 ≤ k):rounds i ≤ k:=by unfold rounds;unfold K0 at hk;omega
theorem DJ (msg:ByteArray) (e s0 s1 s2:Int) (a b:ByteArray) (hm:msg.size ≤ 100000) (he:e ≤ (msg.size:Int)) (h2:0 ≤ s2 ∧ s2 ≤ 1000) (c:Int) (hc:c ≤ 100):∀ (n k:Nat) (i x:Int) (l:List ByteArray),K0 + n ≤ k → x + n = c → 0 ≤ x → 0 ≤ i → i ≤ e → l.length + n ≤ 1000 →
  bR.l0 (k + 1) msg i e c x s0 s1 s2 a b l = (match LC msg e n i l with
   | some R=>some (a,msg.extract R.2.toNat e.toNat,R.1,(((msg.extract R.2.toNat e.toNat).size:Int) == s2))
   | none=>some (⟨#[]⟩,⟨#[]⟩,[],false))
 | 0,k,i,x,l,hk,hx,hx0,hi,hie,hl=>by
  rw [bR.l0,aje (by omega),ajd hi,ajd hie,ajd he,LC]
 | n + 1,k,i,x,l,hk,hx,hx0,hi,hie,hl=>by
  obtain ⟨k,rfl⟩:∃ m,k = m + 1:=⟨k - 1,by omega⟩
  rw [bR.l0,ajd (by omega),acs (k + 1) msg i hm (K4 hm (by omega) (by omega)),LC]
  simp only [Option.bind_some]
  by_cases h0:(BI msg i).2.2 = 0
  ·rw [ajd h0,ajd h0]
   by_cases h1:(BI msg i).2.1 > e
   ·rw [ajd h1,ajd h1]
   ·rcases FX msg i hm with ⟨_,_,_,b4,_⟩ | ⟨b1,_⟩
    ·rw [aje h1,aje h1,ajd (by omega),jP (by omega) (by omega)]
     exact DJ msg e s0 s1 s2 a b hm he h2 c hc n k _ (x + 1) _ (by omega) (by omega) (by omega) (by omega) (by omega) (by rw [ajl,List.length_singleton];omega)
    ·omega
  ·rw [aje h0,aje h0]
def U6 (s:ByteArray):Nat → Int → Bool
 | 0,_=>false
 | k + 1,i=>if i < (s.size:Int) then U6 s k (i + 1 + bt s i) else decide (i = s.size)
def Pb (s:ByteArray):Bool:=decide (0 < s.size) && U6 s (s.size + 1) 0
theorem XR (s:ByteArray) {k:Nat} {i:Int} (h:(s.size:Int) < i):U6 s k i = false:=by
 cases k with
 | zero=>rfl
 | succ k=>rw [U6,aje (by omega)];simp;omega
theorem Pf (s:ByteArray) (hs:s.size ≤ 100000) (d:Nat):∀ (k m:Nat) (i:Int),0 ≤ i → i ≤ (s.size:Int) → s.size - i.toNat ≤ d → d + 1 ≤ k → d + 1 ≤ m → dK.l0 k (s.extract i.toNat s.size) = some (U6 s m i):=by
 induction d with
 | zero =>
  intro k m i h0 h1 h2 hk hm
  obtain ⟨k,rfl⟩:∃ j,k = j + 1:=⟨k - 1,by omega⟩
  obtain ⟨m,rfl⟩:∃ j,m = j + 1:=⟨m - 1,by omega⟩
  rw [dK.l0,ajd (toList_nil.mpr (by rw [ajO];omega)),U6,aje (by omega),ajf (by omega)]
 | succ d ih =>
  intro k m i h0 h1 h2 hk hm
  obtain ⟨k,rfl⟩:∃ j,k = j + 1:=⟨k - 1,by omega⟩
  obtain ⟨m,rfl⟩:∃ j,m = j + 1:=⟨m - 1,by omega⟩
  have hz:(s.extract i.toNat s.size).size = s.size - i.toNat:=by rw [ajO];omega
  by_cases hi:i < (s.size:Int)
  ·have hb:bt (s.extract i.toNat s.size) 0 = bt s i:=by
    rw [mY (by omega) (by omega)];congr 1;omega
   have hr:=gK s i
   rw [dK.l0,aje (by rw [toList_nil];omega),ajd (by omega),hb,jP (n:=bt s i) (by omega) (by omega),jP (n:=1 + bt s i) (by omega) (by omega),U6,ajd hi]
   by_cases h3:1 + bt s i > ((s.extract i.toNat s.size).size:Int)
   ·rw [ajd h3,XR s (by omega)]
   ·rw [aje h3,ajd (by omega),ajd (by omega)]
    have e:(s.extract i.toNat s.size).extract (1 + bt s i).toNat (s.extract i.toNat s.size).size = s.extract (i + 1 + bt s i).toNat s.size:=by
     rw [ByteArray.extract_extract,hz]
     congr 1 <;> omega
    rw [e]
    exact ih k m _ (by omega) (by omega) (by omega) (by omega) (by omega)
  ·rw [dK.l0,ajd (toList_nil.mpr (by omega)),U6,aje hi,ajf (by omega)]
theorem Pg (k:Nat) (hk:K0 ≤ k) (s:ByteArray) (hs:s.size ≤ 100000):dK.f k s = some (Pb s):=by
 unfold dK.f Pb
 by_cases h:s.toList = ([]:List UInt8)
 ·rw [ajd h];rw [toList_nil] at h;rw [h];rfl
 ·rw [aje h]
  rw [toList_nil] at h
  unfold K0 at hk
  have:=Pf s hs s.size k (s.size + 1) 0 (by omega) (by omega) (by omega) (by omega) (by omega)
  rw [show (0:Int).toNat = 0 from rfl,ak9] at this
  rw [this,ajf (by omega),Bool.true_and]
end
section
open Go.RowKit Go.Proofs.YtfokaoeinpnagaaGreatW.aX Go.Proofs.YtfokaoeinpnagaaGreatW.dL Go.Proofs.YtfokaoeinpnagaaGreatW.eO Go.Proofs.YtfokaoeinpnagaaGreat.B
theorem FY {n:ByteArray} (h:gP n = true):n.size ≤ 255:=by
 obtain ⟨l,_,_,hz⟩:=lG.mp h;exact hz
theorem zA : ∀ {l:List ByteArray},(∀ x ∈ l,gP x = true) → (strings_Join.cat l).size ≤ 255 * l.length
 | [],_=>ajT _
 | x :: l,h=>by
  have h1:=FY (h x (by simp))
  have h2:=zA (l:=l) (fun y hy=>h y (by simp [hy]))
  rw [strings_Join.cat,ajx,List.length_cons]
  omega
def Am (d:ByteArray):ByteArray × Int:=if (d.size:Int) > 65535 then (⟨#[]⟩,4) else (d,0)
theorem BJ (d:ByteArray):(if (d.size:Int) > 65535 then some ((⟨#[]⟩:ByteArray),(4:Int)) else some (d,0)) = some (Am d):=by
 unfold Am;split <;> rfl
def Tf (msg:ByteArray) (i size:Int) (s:Int × Int × Int):ByteArray × Int :=
 if s.1 ≤ size then (match LC msg (i + size) s.2.1.toNat (i + s.1) [] with
  | some R=>if R.2 + s.2.2 = i + size then Am (msg.extract i.toNat (i + s.1).toNat ++ strings_Join.cat R.1 ++ msg.extract R.2.toNat (i + size).toNat) else (⟨#[]⟩,4)
  | none=>(⟨#[]⟩,4)) else (⟨#[]⟩,4)
def Ib (msg:ByteArray) (i size kind:Int):ByteArray × Int :=
 if iP msg i size then (match aA.D6 kind with
  | some s=>Tf msg i size s
  | none=>if kind = 16 then (if Pb (msg.extract i.toNat (i + size).toNat) = true then Am (msg.extract i.toNat (i + size).toNat) else (⟨#[]⟩,4)) else Am (msg.extract i.toNat (i + size).toNat))
 else (⟨#[]⟩,2)
theorem qR {kind:Int} {s:Int × Int × Int} (h:aA.D6 kind = some s):0 ≤ s.1 ∧ s.1 ≤ 16 ∧ 0 ≤ s.2.1 ∧ s.2.1 ≤ 2 ∧ 0 ≤ s.2.2 ∧ s.2.2 ≤ 20 ∧ kind ≠ 16 ∧ (s.1 = 0 → s.2.1 = 0 → False):=by
 unfold aA.D6 at h
 repeat' split at h
 all_goals (first | (cases h;subst_vars;decide) | cases h)
theorem XT (k:Nat) (hk:K0 ≤ k) (kind:Int) (hkind:kind ≠ 16) (d:ByteArray):aA.fin k kind d true = some (Am d):=by
 unfold aA.fin
 rw [ajd rfl,aje hkind,BJ]
theorem vK (k:Nat) (kind:Int) (d:ByteArray):aA.fin k kind d false = some (⟨#[]⟩,4):=by
 unfold aA.fin;rw [aje akc]
theorem K5 (msg:ByteArray) (i size kind:Int) (k:Nat) (hk:K0 ≤ k) (hm:msg.size ≤ 100000) (f:ByteArray → Option Bool) (hf:∀ s,s.size ≤ 100000 → f s = some (Pb s)) (t:ByteArray) (ht:t.size ≤ 100000) :
  (if kind = 16 then ((f t).bind fun b=>if b = true then (if (t.size:Int) > 65535 then some ((⟨#[]⟩:ByteArray),(4:Int)) else some (t,0)) else some (⟨#[]⟩,4)) else (if (t.size:Int) > 65535 then some (⟨#[]⟩,4) else some (t,0))) =
   some (if kind = 16 then (if Pb t = true then Am t else (⟨#[]⟩,4)) else Am t):=by
 rw [hf t ht,BJ]
 simp only [Option.bind_some]
 split
 ·split <;> rfl
 ·rfl
theorem K6 (k:Nat) (hk:K0 + 10 ≤ k) (msg:ByteArray) (i size kind:Int) (hm:msg.size ≤ 100000) (ht:iP msg i size) (s:Int × Int × Int) (hs:aA.D6 kind = some s):aA.g k msg i size kind s = some (Tf msg i size s):=by
 obtain ⟨h0,h1,h2⟩:=ht
 obtain ⟨a1,a2,a3,a4,a5,a6,a7,a8⟩:=qR hs
 obtain ⟨s0,s1,s2⟩:=s
 simp only at a1 a2 a3 a4 a5 a6 a8
 have e1:wrap64 (i + size) = i + size:=jP (by omega) (by omega)
 have e2:wrap64 (i + size - i) = size:=by rw [jP (by omega) (by omega)];omega
 have e3:wrap64 (i + s0) = i + s0:=jP (by omega) (by omega)
 unfold aA.g bR.f Tf
 simp only [e1,e2,e3]
 by_cases c:s0 ≤ size
 ·rw [ajd c,ajd c,ajd h0,ajd (by omega),ajd (by omega)]
  obtain ⟨k,rfl⟩:∃ j,k = j + 1:=⟨k - 1,by omega⟩
  rw [DJ msg (i + size) s0 s1 s2 _ _ hm h2 ⟨a5,by omega⟩ s1 (by omega) s1.toNat k (i + s0) 0 [] (by omega) (by omega) (aj7 _) (by omega) (by omega) (by simp only [List.length_nil];omega)]
  have hz:(msg.extract i.toNat (i + s0).toNat).size ≤ 16:=by rw [ajO];omega
  cases hr:LC msg (i + size) s1.toNat (i + s0) [] with
  | none =>
   simp only [Option.bind_some]
   rw [ajd (by decide),ajd (by decide),vK]
  | some R =>
   obtain ⟨b1,b2,b3,l',b4,b5⟩:=qQ msg _ hm _ _ _ R hr (by omega)
   have hcz:=zA b5
   rw [List.nil_append] at b4
   rw [← b4] at hcz
   rw [List.length_nil,ajI] at b3
   have hbz:(msg.extract R.2.toNat (i + size).toNat).size = (i + size - R.2).toNat:=by rw [ajO];omega
   simp only [Option.bind_some]
   rw [ajd (by omega),ajd (by omega)]
   by_cases d:R.2 + s2 = i + size
   ·rw [ajd d,show (((msg.extract R.2.toNat (i + size).toNat).size:Int) == s2) = true from ajN.mpr (by omega),XT k.succ (by omega) kind a7]
   ·rw [aje d,show (((msg.extract R.2.toNat (i + size).toNat).size:Int) == s2) = false from akd.mpr (by omega),vK]
 ·rw [aje c,aje c]
  simp only [Option.bind_some]
  rw [ajd (by decide),ajd (by decide),vK]
theorem XU (k:Nat) (hk:K0 + 10 ≤ k) (msg:ByteArray) (i size kind:Int) (hm:msg.size ≤ 100000):aA.f k msg i size kind = some (Ib msg i size kind):=by
 unfold aA.f Ib
 rw [uJ msg i size (by omega)]
 simp only [Option.bind_some]
 by_cases ht:iP msg i size
 ·rw [ajd ht,ajd ht]
  simp only [ajL]
  cases hs:aA.D6 kind with
  | some s=>exact K6 k hk msg i size kind hm ht s hs
  | none =>
   have hz:(msg.extract i.toNat (i + size).toNat).size ≤ 100000:=by rw [ajO];omega
   have:=K5 msg i size kind k (by omega) hm (dK.f k) (fun s h=>Pg k (by omega) s h) _ hz
   unfold aA.fin
   rw [ajd rfl]
   exact this
 ·rw [aje ht,aje ht];rfl
end
section
open Go.RowKit Go.Proofs.YtfokaoeinpnagaaGreatW.aX Go.Proofs.YtfokaoeinpnagaaGreatW.dL Go.Proofs.YtfokaoeinpnagaaGreatW.eO Go.Proofs.YtfokaoeinpnagaaGreat.B
def DY (kind:Int) (d:ByteArray):Bool:=decide (d.size ≤ 65535) && (decide ((Ib d 0 d.size kind).2 = 0) && decide ((Ib d 0 d.size kind).1 = d))
theorem DK {kind:Int} {d:ByteArray}:DY kind d = true ↔ d.size ≤ 65535 ∧ Ib d 0 d.size kind = (d,0):=by
 unfold DY
 simp only [ajk,ajz]
 constructor
 ·rintro ⟨h1,h2,h3⟩;exact ⟨h1,Prod.ext h3 h2⟩
 ·rintro ⟨h1,h2⟩;rw [h2];exact ⟨h1,rfl,rfl⟩
theorem BK (k:Nat) (hk:K0 + 10 ≤ k) (kind:Int) (d:ByteArray):je.f k kind d = some (DY kind d):=by
 unfold je.f DY
 by_cases h:(d.size:Int) > 65535
 ·rw [ajd h,ajh (by omega)];rfl
 ·rw [aje h,XU k hk d 0 _ kind (by omega),ajf (by omega),Bool.true_and]
  simp only [Option.bind_some]
  by_cases h0:(Ib d 0 d.size kind).2 = 0
  ·rw [ajd h0,ajf h0,zl,Bool.true_and]
  ·rw [aje h0,ajh h0,Bool.false_and]
theorem Ic (d:ByteArray):iP d 0 d.size:=⟨aj7 _,by omega,by omega⟩
theorem K7 {x d:ByteArray} (h:Am x = (d,0)):x = d ∧ x.size ≤ 65535:=by
 unfold Am at h
 split at h
 ·have:=ajH Prod.snd h;cases this
 ·exact ⟨ajH Prod.fst h,by omega⟩
theorem zB {kind:Int} {d:ByteArray} {s:Int × Int × Int} (h:DY kind d = true) (hs:aA.D6 kind = some s) :
  ∃ R,s.1 ≤ (d.size:Int) ∧ LC d d.size s.2.1.toNat s.1 [] = some R ∧ R.2 + s.2.2 = d.size ∧ d = d.extract 0 s.1.toNat ++ strings_Join.cat R.1 ++ d.extract R.2.toNat d.size ∧ s.1 ≤ R.2 ∧ R.2 ≤ (d.size:Int) ∧ R.1.length = s.2.1.toNat ∧ (∀ x ∈ R.1,gP x = true) ∧ R.2 = s.1 + (strings_Join.cat R.1).size:=by
 obtain ⟨h0,h1⟩:=DK.mp h
 unfold Ib Tf at h1
 rw [ajd (Ic d),hs] at h1
 simp only [Int.zero_add,Int.toNat_natCast] at h1
 obtain ⟨a1,a2,a3,a4,a5,a6,a7,a8⟩:=qR hs
 by_cases c:s.1 ≤ (d.size:Int)
 ·rw [ajd c] at h1
  cases hr:LC d d.size s.2.1.toNat s.1 [] with
  | none=>rw [hr] at h1;have:=ajH Prod.snd h1;cases this
  | some R =>
   rw [hr] at h1
   simp only at h1
   by_cases e:R.2 + s.2.2 = d.size
   ·rw [ajd e] at h1
    obtain ⟨h2,_⟩:=K7 h1
    obtain ⟨b1,b2,b3,l',b4,b5⟩:=qQ d _ (by omega) _ _ _ R hr c
    rw [List.nil_append] at b4
    rw [← b4] at b5
    have hz:=ajH ByteArray.size h2
    simp only [ajx,ajO] at hz
    refine ⟨R,c,rfl,e,h2.symm,b1,b2,by rw [b3];simp,b5,?_⟩
    simp only [show (0:Int).toNat = 0 from rfl] at hz
    omega
   ·rw [aje e] at h1;have:=ajH Prod.snd h1;cases this
 ·rw [aje c] at h1;have:=ajH Prod.snd h1;cases this
def prt (kind:Int) (d:ByteArray):ByteArray × ByteArray × List ByteArray × Bool :=
 if DY kind d = true then (match aA.D6 kind with
  | some s=>(match LC d d.size s.2.1.toNat s.1 [] with
   | some R=>(d.extract 0 s.1.toNat,d.extract R.2.toNat d.size,R.1,true)
   | none=>(⟨#[]⟩,⟨#[]⟩,[],false))
  | none=>(d,⟨#[]⟩,[],true)) else (⟨#[]⟩,⟨#[]⟩,[],false)
theorem wV (k:Nat) (hk:K0 + 20 ≤ k) (d:ByteArray) (hd:d.size ≤ 65535) (s0 s1 s2:Int) (a1:0 ≤ s0) (a3:0 ≤ s1) (a4:s1 ≤ 2) (a5:0 ≤ s2) (a6:s2 ≤ 20) (R:List ByteArray × Int) (c1:s0 ≤ (d.size:Int)) (c2:LC d d.size s1.toNat s0 [] = some R) (c3:R.2 + s2 = d.size) :
  bR.f k d 0 (d.size:Int) s0 s1 s2 = some (d.extract 0 s0.toNat,d.extract R.2.toNat d.size,R.1,true):=by
 unfold bR.f
 have e2:wrap64 ((d.size:Int) - 0) = d.size:=by rw [jP (by omega) (by omega)];omega
 have e3:wrap64 (0 + s0) = s0:=by rw [jP (by omega) (by omega)];omega
 obtain ⟨b1,b2,_⟩:=qQ d _ (by omega) _ _ _ R c2 c1
 have hz:((d.extract R.2.toNat d.size).size:Int) = s2:=by rw [ajO];omega
 obtain ⟨k,rfl⟩:∃ j,k = j + 1:=⟨k - 1,by omega⟩
 have h:=DJ d d.size s0 s1 s2 (d.extract 0 s0.toNat) ⟨#[]⟩ (by omega) (aj7 _) ⟨a5,by omega⟩ s1 (by omega) s1.toNat k s0 0 [] (by omega) (by omega) (aj7 _) a1 c1 (by simp only [List.length_nil];omega)
 rw [c2] at h
 simp only [Int.toNat_natCast] at h
 rw [show (((d.extract R.2.toNat d.size).size:Int) == s2) = true from ajN.mpr hz] at h
 rw [e2,ajd c1,ajd (aj7 _),e3,ajd a1,ajd c1]
 exact h
theorem BL (k:Nat) (hk:K0 + 20 ≤ k) (kind:Int) (d:ByteArray):bW.f k kind d = some (prt kind d):=by
 unfold bW.f prt
 rw [BK k (by omega)]
 simp only [Option.bind_some]
 by_cases h:DY kind d = true
 ·rw [ajd h,ajd h]
  cases hs:aA.D6 kind with
  | none=>rfl
  | some s =>
   obtain ⟨R,c1,c2,c3,c4,c5,c6,c7,c8,c9⟩:=zB h hs
   obtain ⟨a1,a2,a3,a4,a5,a6,a7,a8⟩:=qR hs
   obtain ⟨h0,_⟩:=DK.mp h
   obtain ⟨s0,s1,s2⟩:=s
   simp only at a1 a2 a3 a4 a5 a6 c1 c2 c3 c5
   simp only [c2]
   exact wV k hk d h0 s0 s1 s2 a1 a3 a4 a5 a6 R c1 c2 c3
 ·rw [aje h,aje h]
theorem Ph (k:Nat) (hk:K0 + 20 ≤ k) (kind:Int) (d:ByteArray):nu.f k kind d = some (prt kind d).2.2.1:=by
 unfold nu.f;rw [BL k hk];rfl
theorem vL {kind:Int} {d:ByteArray}:(∀ x ∈ (prt kind d).2.2.1,gP x = true) ∧ (prt kind d).2.2.1.length ≤ 2:=by
 unfold prt
 by_cases h:DY kind d = true
 ·rw [ajd h]
  cases hs:aA.D6 kind with
  | none=>exact ⟨by simp,by simp⟩
  | some s =>
   obtain ⟨R,c1,c2,c3,c4,c5,c6,c7,c8,c9⟩:=zB h hs
   obtain ⟨a1,a2,a3,a4,a5,a6,a7,a8⟩:=qR hs
   simp only [c2]
   exact ⟨c8,by omega⟩
 ·rw [aje h];exact ⟨by simp,by simp⟩
theorem wG (k:Nat) (hk:600 ≤ k) (n:ByteArray) (hs:n.size ≤ 1000000000):ng.f k n = some (if gP n = true then iL n else ⟨#[]⟩):=by
 unfold ng.f
 rw [zi k hk n hs,XG n hs]
 simp only [Option.bind_some]
 split <;> rfl
theorem Ie (k:Nat) (hk:600 ≤ k) (n:ByteArray) (hs:n.size ≤ 1000000000):gM.f k n = some (if gP n = true then iL n else ⟨#[]⟩):=by
 unfold gM.f
 rw [l9 k hk n hs,zk n hs]
 simp only [Option.bind_some]
 split <;> rfl
theorem all_eq (k:Nat) (hk:600 ≤ k):∀ l:List ByteArray,(∀ x ∈ l,gP x = true) → eH.all k l = some (l.map iL)
 | [],_=>rfl
 | x :: l,h=>by
  have hx:=h x (by simp)
  have hz:=FY hx
  rw [eH.all,wG k hk x (by omega),ajd hx]
  simp only [Option.bind_some]
  rw [all_eq k hk l (fun y hy=>h y (by simp [hy]))]
  rfl
theorem uL : ∀ l:List ByteArray,(strings_Join.cat (l.map iL)).size = (strings_Join.cat l).size
 | []=>rfl
 | x :: l=>by rw [ajp,strings_Join.cat,strings_Join.cat,ajx,ajx,lg,uL l]
def lw (kind:Int) (d:ByteArray):ByteArray:=(prt kind d).1 ++ strings_Join.cat ((prt kind d).2.2.1.map iL) ++ (prt kind d).2.1
theorem K8 {kind:Int} {d:ByteArray}:(prt kind d).1.size ≤ 65535 ∧ (prt kind d).2.1.size ≤ 65535:=by
 unfold prt
 by_cases h:DY kind d = true
 ·obtain ⟨h0,_⟩:=DK.mp h
  rw [ajd h]
  cases hs:aA.D6 kind with
  | none=>exact ⟨h0,by show (⟨#[]⟩:ByteArray).size ≤ 65535;decide⟩
  | some s =>
   obtain ⟨R,c1,c2,_⟩:=zB h hs
   simp only [c2]
   simp only [ajO]
   omega
 ·rw [aje h];exact ⟨by decide,by decide⟩
theorem Tg (k:Nat) (hk:K0 + 20 ≤ k) (kind:Int) (d:ByteArray):eH.f k kind d = some (lw kind d):=by
 obtain ⟨p1,p2⟩:=@vL kind d
 obtain ⟨p3,p4⟩:=@K8 kind d
 have hcz:=zA p1
 unfold eH.f
 rw [BL k hk]
 simp only [Option.bind_some]
 rw [all_eq k (by unfold K0 at hk;omega) _ p1]
 simp only [Option.bind_some]
 unfold eH.fin lw
 rw [ajd (by rw [uL];omega),ajd (by rw [ajg];omega)]
end
section
open Go.RowKit Go.Proofs.YtfokaoeinpnagaaGreatW.aX Go.Proofs.YtfokaoeinpnagaaGreatW.dL Go.Proofs.YtfokaoeinpnagaaGreatW.eO Go.Proofs.YtfokaoeinpnagaaGreat.B
theorem numsOf_range (s:ByteArray):∀ x ∈ numsOf s,0 ≤ x ∧ x ≤ 255:=by
 intro x hx
 unfold numsOf at hx
 obtain ⟨b,_,rfl⟩:=ajD.mp hx
 have:=b.toNat_lt
 omega
theorem DU {x:Int} (h:0 ≤ x ∧ x ≤ 255):0 ≤ fE x ∧ fE x ≤ 255:=by unfold fE;split <;> omega
theorem Gb (x:Int):fE (fE x) = fE x:=by
 unfold fE
 by_cases h:65 ≤ x ∧ x ≤ 90
 ·rw [ajd h,aje (by omega)]
 ·rw [aje h,aje h]
theorem wI (xs:List Int) (h:∀ x ∈ xs,0 ≤ x ∧ x ≤ 255):numsOf (strOfNums xs) = xs:=by
 unfold numsOf
 rw [strOfNums_data,akz]
 conv=>rhs;rw [← List.map_id xs]
 refine List.map_congr_left fun x hx=>?_
 have:=h x hx
 simp [UInt8.toNat_ofNat']
 omega
theorem PD (s:ByteArray):numsOf (iL s) = (numsOf s).map fE:=by
 unfold iL
 refine wI _ fun x hx=>?_
 obtain ⟨y,hy,rfl⟩:=ajD.mp hx
 exact DU (numsOf_range s y hy)
theorem Ld (s:ByteArray):iL (iL s) = iL s:=by
 show strOfNums ((numsOf (iL s)).map fE) = strOfNums ((numsOf s).map fE)
 rw [PD,akz]
 exact ajH strOfNums (List.map_congr_left fun x _=>Gb x)
theorem JQ (b:Int) (h:0 ≤ b ∧ b ≤ 63):iL (sg b) = sg b:=by
 have e:numsOf (sg b) = [b]:=wI [b] (by intro x hx;simp only [aj3] at hx;omega)
 unfold iL
 rw [e]
 have:fE b = b:=by unfold fE;rw [aje (by omega)]
 rw [ajp,ajs,this]
 rfl
theorem BP : iL root = root:=by rw [Sw];exact JQ 0 (by omega)
theorem TA {x:ByteArray} (h:xq x):xq (iL x):=by unfold xq at *;rw [lg];exact h
theorem oF : ∀ (l:List ByteArray),(∀ x ∈ l,xq x) → iL (enc l) = enc (l.map iL)
 | [],_=>by rw [kN,ajs,kN,BP]
 | x :: l,h=>by
  have hx:=h x (by simp)
  rw [jD,wE,wE,oF l (fun y hy=>h y (by simp [hy])),ajp,jD,lg,JQ _ (by have:=hx.2;omega)]
theorem JR {l:List ByteArray} (h:∀ x ∈ l,xq x):∀ x ∈ l.map iL,xq x:=by
 intro x hx
 obtain ⟨y,hy,rfl⟩:=ajD.mp hx
 exact TA (h y hy)
theorem xC {n:ByteArray} (h:gP n = true):gP (iL n) = true:=by
 obtain ⟨l,rfl,hok,hz⟩:=lG.mp h
 rw [oF l hok]
 refine Sy (JR hok) ?_
 rw [← oF l hok,lg];exact hz
end
end Go.Proofs.YtfokaoeinpnagaaGreat.ZQ
namespace Go.Proofs.YtfokaoeinpnagaaGreat.Ev
section
open Go Go.RowKit
structure Old (w w':World):Prop where
 os:w'.os = w.os
 output:w'.output = w.output
 size:w.heap.size ≤ w'.heap.size
 block:∀ k,k < w.heap.size → w'.heap[k]? = w.heap[k]?
theorem Old.frame {W w':World} (h:Old W w') (may:MemPlace → Prop):W.keptBut w' may:=by
 refine ⟨h.os,h.output,fun i hi=>?_⟩
 rw [h.block i hi]
 split <;> simp_all
theorem Old.same {W w':World} (h:Old W w') {p:MemPlace} (hp:p.block < W.heap.size):W.sameAt w' p:=by
 cases p with
 | cell b o=>exact World.cell?_of_block (w:=W) (h.block b hp)
 | map b=>exact h.block b hp
theorem Old.trod {H:Type} {enc:TypeId × Value → H} {P:Program} {t:TypeId} (hl:laidOutB P = true) (hr:P.readableRec t = true) (hrow:t < P.types.size) {W W':World} {v:Value} {d:DataW H} {ps:List MemPlace}
  (h:DataW.Trod enc P W 0 (fun _=>true) true t v d ps) (hb:Old W W') (hlt:∀ x ∈ ps,x.block < W.heap.size):DataW.Trod enc P W' 0 (fun b=>decide (b < W.heap.size)) true t v d ps :=
 WideElems.Trod_stays hl hr hrow h (fun x hx=>hb.same (hlt x hx)) (fun x hx=>by simpa using hlt x hx)
theorem Lj {P:Program} {Γ:Env} (kR:iy P Γ) {f:FuncId} {dR pX:List AV} {b:Bool} {vals:List Value} {W:World} (h:Γ f dR = some ([.one (.f (.bool b))],pX)) (ha:fC (fun k=>k < W.heap.size) W dR vals []) :
  Calls P f vals.toArray W fun e W'=>e = .returned (.bool b) ∧ Old W W':=by
 refine (kR f dR _ _ h (fun k=>k < W.heap.size) W vals [] ha akR (by simp) (fun _ h=>h)).mono fun e w' ⟨bD,tK,b1,b2,he,hp⟩=>?_
 refine ⟨?_,hp.kp.1,hp.kp.2,hp.big,fun k hk=>hp.ext k hk (by simp)⟩
 match tK,hp.rs with
 | [v],⟨c1,c2,h1,h2,h3⟩=>rw [he,show v = .bool b from h1.1];rfl
def Im (P:Program) {α:Type} (T:TypeId) (f:α → List FV) (G:α → Prop):Prop :=
 ∀ {H:Type} (enc:TypeId × Value → H) (w:World) (spare:Nat → Bool) (held:Bool) (fuel:Nat) (cs:List Value) (x:DataW H × List MemPlace),
  DataW.trod enc P w 0 spare held fuel T cs = some x → (∀ n ∈ x.1.weights P T,n ≤ reachBytes) → ∃ a:α,cB (fun k=>k < w.heap.size) w (f a) cs ∧ G a
section
variable {P : Program}
theorem oZ {k:IntKind} {T:TypeId} (h:P.underlying T = some (.int k)):Im P T (fun n=>[FV.int k n]) (fun n=>(Lit.int k n).wf = true):=by
 intro H enc w spare held fuel cs x hx _
 obtain ⟨n,rfl,rfl,hw⟩:=DataW.trod_int h hx
 exact ⟨n,⟨by simp only [fA],trivial⟩,hw⟩
theorem JV {T:TypeId} (h:P.underlying T = some .string):Im P T (fun s=>[FV.str s]) (fun s=>s.size ≤ 140737488351232):=by
 intro H enc w spare held fuel cs x hx hz
 obtain ⟨s,rfl,rfl,hw⟩:=DataW.trod_string h hx
 refine ⟨s,⟨by simp only [fA],trivial⟩,?_⟩
 have:=hz s.data.toList.length (by simp [DataW.weights])
 rw [Array.length_toList] at this
 exact this
theorem oG {H:Type} {e:TypeId}:∀ {ds:List (DataW H)} {i:Nat} {d:DataW H},ds[i]? = some d → ∀ n ∈ d.weights P e,n ∈ DataW.weightsAll P e ds
 | [],i,d,h,_,_=>by simp at h
 | d0 :: ds,0,d,h,n,hn=>by
  simp at h;subst h
  exact ajJ.mpr (.inl hn)
 | d0 :: ds,i + 1,d,h,n,hn=>by
  simp at h
  exact ajJ.mpr (.inr (oG h n hn))
theorem wJ {H:Type} {ts:List TypeId} {ds:List (DataW H)} (h:(DataW.weightsEach P ts ds).all (· ≤ reachBytes) = true) {j:Nat} {t:TypeId} {d:DataW H} (ht:ts[j]? = some t) (hd:ds[j]? = some d) :
  ∀ n ∈ d.weights P t,n ≤ reachBytes:=fun n hn=>by
 have:=aju.1 h n (DataW.weights_mem_each ht hd n hn)
 simpa using this
theorem uN {α:Type} {Q:Nat → α → Prop}:∀ n,(∀ i,i < n → ∃ y,Q i y) → ∃ ys:List α,ys.length = n ∧ ∀ i y,ys[i]? = some y → Q i y
 | 0,_=>⟨[],rfl,by simp⟩
 | n + 1,h=>by
  obtain ⟨ys,hl,hq⟩:=uN n (fun i hi=>h i (by omega))
  obtain ⟨y,hy⟩:=h n (by omega)
  refine ⟨ys ++ [y],by simp [hl],fun i z hz=>?_⟩
  by_cases hi:i < n
  ·rw [ak5 (by omega)] at hz
   exact hq i z hz
  ·have hlt:=(aj5.1 hz).1
   simp only [ajl,List.length_singleton] at hlt
   obtain rfl:i = n:=by omega
   rw [List.getElem?_append_right (by omega),hl,Nat.sub_self] at hz
   simp at hz
   subst hz
   exact hy
theorem BR {Fz:Nat → Prop} {w:World} {b:Nat}:∀ (xs:List FV) (cs:List Value) (o:Nat),cB Fz w xs cs → (∀ i u,cs[i]? = some u → w.cell? ⟨b,o + i,none⟩ = some u) → d9 Fz w b o xs
 | [],_,_,_,_=>by simp only [d9]
 | x :: xs,[],_,h,_=>h.elim
 | x :: xs,c :: cs,o,h,hc=>by
  simp only [d9]
  exact ⟨⟨c,hc 0 c rfl,h.1⟩,BR xs cs (o + 1) h.2 fun i u hi=>by rw [show o + 1 + i = o + (i + 1) from by omega];exact hc (i + 1) u hi⟩
theorem zK {Fz:Nat → Prop} {w:World} {sz b:Nat} {α:Type} {f:α → List FV} (hf:∀ a,(f a).length = sz):∀ (l:List α) (o:Nat),(∀ i y,l[i]? = some y → d9 Fz w b (o + i * sz) (f y)) → dn Fz w sz b o (l.map f)
 | [],_,_=>by simp only [ajs,dn]
 | y :: l,o,h=>by
  simp only [ajp,dn]
  refine ⟨hf y,by simpa using h 0 y rfl,zK hf l (o + sz) fun i z hz=>?_⟩
  rw [show o + sz + i * sz = o + (i + 1) * sz from by rw [akJ];omega]
  exact h (i + 1) z hz
theorem Ll (a:Addr) (x y:Nat):(a.add x).add y = a.add (x + y):=by
 unfold Addr.add
 by_cases hx:x = 0
 ·subst hx;simp
 ·by_cases hy:y = 0
  ·subst hy;simp [hx]
  ·simp [hx,hy,Nat.add_assoc]
theorem zL {w:World} {a:Addr} {u:Value} (h:w.cell? a = some u):a = ⟨a.block,a.off,none⟩ ∧ a.block < w.heap.size:=by
 unfold World.cell? at h
 split at h
 ·rename_i c _ _ hb
  split at h
  ·cases h
  ·rename_i hs
   obtain ⟨b,o,s⟩:=a
   cases s with
   | none=>exact ⟨rfl,by have:=(aki.mp hb).1;exact this⟩
   | some s=>simp at hs
 ·cases h
theorem BS {α:Type} {f:α → List FV} {T e:TypeId} {G:α → Prop} (sz:Nat) (h:P.underlying T = some (.slice e)) (hc:P.cellsOf e = sz) (h0:0 < sz) (hf:∀ a,(f a).length = sz) (hby:decide (1 ≤ P.bytesOf e) = true) (hd:Im P e f G) :
  Im P T (fun l:List α=>[FV.sl (l.map f)]) (fun l=>l.length ≤ 140737488351232 ∧ ∀ x ∈ l,G x):=by
 intro H enc w spare held fuel cs x hx hz
 rcases DataW.trod_slice h hx with ⟨rfl,rfl⟩ | ⟨a,len,cap,elems,rest,n,_,rfl,rfl,hb,hl,hm,hlen,hel,_,_⟩
 ·refine ⟨[],⟨?_,trivial⟩,by simp⟩
  simp only [fA]
  exact ⟨none,0,rfl,aji _,by simp,.inl rfl⟩
 ·have hw:∀ m ∈ (elems.length + rest.length) * P.bytesOf e :: (DataW.weightsAll P e (elems.map (·.1)) ++ DataW.weightsAll P e (rest.map (·.1))),m ≤ reachBytes:=by
   intro m hm'
   refine hz m ?_
   simp only [DataW.weights,h,ajg]
   exact hm'
  obtain ⟨ys,hyl,hys⟩:=uN (α:=α) (Q:=fun i y=>∃ c,w.cells? 0 (a.add (i * P.cellsOf e)) (P.cellsOf e) = some c ∧ cB (fun k=>k < w.heap.size) w (f y) c ∧ G y) len (fun i hi=>by
   have h1:=hel i hi
   rw [ajt (by omega),Option.bind_eq_some_iff] at h1
   obtain ⟨c,hc1,hc2⟩:=h1
   obtain ⟨y,hy,hg⟩:=hd enc w spare held n c _ hc2 (fun m hm'=>by
    refine hw m (aj2 _ (ajJ.mpr (.inl ?_)))
    exact oG (i:=i) (d:=(elems[i]'(by omega)).1) (by rw [ajo,ajt (by omega)];rfl) m hm')
   exact ⟨y,c,hc1,hy,hg⟩)
  have hlen1:(elems.length + rest.length) * P.bytesOf e ≤ reachBytes:=hw _ (by simp)
  have hlm:cap ≤ 9223372036854775807:=by unfold maxLen at hm;omega
  refine ⟨ys,⟨?_,trivial⟩,?_,?_⟩
  ·simp only [fA,ajg]
   refine ⟨some a,cap,by rw [hyl],by omega,by omega,?_⟩
   cases hy0:ys with
   | nil=>exact .inl rfl
   | cons y0 ys0 =>
    right
    obtain ⟨c0,k0,_,_⟩:=hys 0 y0 (by rw [hy0];rfl)
    rw [hc] at k0
    obtain ⟨_,kl,kc⟩:=World.cells?_some k0
    have k1:=kc 0 h0
    rw [ajt (by omega)] at k1
    obtain ⟨ea,eb⟩:=zL k1
    have ea0:(a.add (0 * sz)).add 0 = a:=by simp [Addr.add]
    rw [ea0] at ea eb
    refine ⟨a.block,a.off,sz,ajH some ea,eb,?_⟩
    rw [← hy0]
    refine zK hf ys a.off fun i y hi=>?_
    obtain ⟨c,hc1,hk,_⟩:=hys i y hi
    rw [hc] at hc1
    obtain ⟨_,hcl,hcc⟩:=World.cells?_some hc1
    refine BR _ c _ hk fun j u hj=>?_
    have hj':j < sz:=by have:=(aj5.1 hj).1;omega
    have:=hcc j hj'
    rw [Ll,hj] at this
    obtain ⟨e1,_⟩:=zL this
    rw [e1] at this
    have e2:a.add (i * sz + j) = ⟨a.block,a.off + i * sz + j,none⟩:=by
     rw [ea];unfold Addr.add;split
     ·rename_i hz;congr 1;simp only;omega
     ·congr 1;simp only;omega
    rw [e2] at this
    exact this
  ·rw [hyl,← hlen]
   have h1:elems.length * P.bytesOf e ≤ (elems.length + rest.length) * P.bytesOf e:=akK _ (by omega)
   have h2:reachBytes = 140737488351232:=rfl
   have h3:elems.length * 1 ≤ elems.length * P.bytesOf e:=Nat.mul_le_mul_left _ (ajC hby)
   omega
  ·intro y hy
   obtain ⟨i,hi,rfl⟩:=List.mem_iff_getElem.1 hy
   obtain ⟨_,_,_,hg⟩:=hys i _ (ajt hi)
   exact hg
def TH (P:Program) {α:Type} (sz:Nat) (f:α → List FV) (fs:List (TypeId × Nat)) (off:Nat) (G:α → Prop):Prop :=
 ∀ {H:Type} (enc:TypeId × Value → H) (w:World) (spare:Nat → Bool) (held:Bool) (n:Nat) (cs:List Value) (xs:List (DataW H × List MemPlace)),
  (∀ (i:Nat) (f:TypeId × Nat),fs[i]? = some f → DataW.trod enc P w 0 spare held n f.1 ((cs.drop f.2).take (P.cellsOf f.1)) = xs[i]?) → xs.length = fs.length →
  (∀ (i:Nat) (x:DataW H × List MemPlace) (f:TypeId × Nat),xs[i]? = some x → fs[i]? = some f → ∀ m ∈ x.1.weights P f.1,m ≤ reachBytes) → cs.length = off + sz → ∃ a,cB (fun k=>k < w.heap.size) w (f a) (cs.drop off) ∧ G a
theorem qU {α:Type} {sz:Nat} {f:α → List FV} {t:TypeId} {off:Nat} {G:α → Prop} (hd:Im P t f G) (hc:P.cellsOf t = sz):TH P sz f [(t,off)] off G:=by
 intro H enc w spare held n cs xs hf hl hw hn
 match xs,hl with
 | [y],_ =>
  have h1:=hf 0 _ rfl
  have h2:(cs.drop off).take (P.cellsOf t) = cs.drop off:=akQ (by rw [ajG];omega)
  rw [h2] at h1
  exact hd enc w spare held n _ y h1 (hw 0 y _ rfl rfl)
theorem BU {Fz:Nat → Prop} {w:World}:∀ {xs ys:List FV} {cs ds:List Value},cB Fz w xs cs → cB Fz w ys ds → cB Fz w (xs ++ ys) (cs ++ ds)
 | [],_,[],_,_,h=>h
 | [],_,_ :: _,_,h,_=>h.elim
 | _ :: _,_,[],_,h,_=>h.elim
 | x :: xs,ys,c :: cs,ds,h,k=>⟨h.1,BU h.2 k⟩
theorem jq {α β:Type} {sz sz':Nat} {f:α → List FV} {g:β → List FV} {t:TypeId} {fs:List (TypeId × Nat)} {off:Nat} {G:α → Prop} {G':β → Prop} (hd:Im P t f G) (hc:P.cellsOf t = sz)
  (hr:TH P sz' g fs (off + sz) G'):TH P (sz + sz') (fun p:α × β=>f p.1 ++ g p.2) ((t,off) :: fs) off (fun p=>G p.1 ∧ G' p.2):=by
 intro H enc w spare held n cs xs hf hl hw hn
 match xs,hl with
 | y :: ys,hl =>
  have h1:=hf 0 _ rfl
  obtain ⟨a,ha,ga⟩:=hd enc w spare held n _ y h1 (hw 0 y _ rfl rfl)
  obtain ⟨b,hb,gb⟩:=hr enc w spare held n cs ys (fun i f hi=>hf (i + 1) f hi) (by simpa using hl) (fun i x f hx hfi=>hw (i + 1) x f hx hfi) (by omega)
  refine ⟨(a,b),?_,ga,gb⟩
  have e:cs.drop off = (cs.drop off).take (P.cellsOf t) ++ cs.drop (off + sz):=by rw [← List.drop_drop,hc,ak0]
  rw [e]
  exact BU ha hb
theorem pq {α:Type} {sz:Nat} {f:α → List FV} {T:TypeId} {fs:Array Field} {G:α → Prop} (h:P.underlying T = some (.struct fs)) (hc:P.cellsOf T = sz)
  (hd:TH P sz f (fs.toList.map fun f=>(f.type,f.offset)) 0 G):Im P T f G:=by
 intro H enc w spare held fuel cs x hx hz
 obtain ⟨xs,n,_,rfl,hl,hlen,hf⟩:=DataW.trod_struct h hx
 have hd':=hd enc w spare held n cs xs ?_ (by rw [ajg,Array.length_toList];exact hlen) ?_ (by rw [ajI,← hc];exact hl)
 ·obtain ⟨a,ha,ga⟩:=hd'
  exact ⟨a,by simpa using ha,ga⟩
 ·intro i f hi
  rw [ajo,akN] at hi
  obtain ⟨f',hf',rfl⟩:=hi
  exact hf i f' (by rw [← akr];exact hf')
 ·intro i x f hxi hfi m hm
  refine hz m ?_
  simp only [DataW.weights,h]
  refine DataW.weights_mem_each (j:=i) (t:=f.1) (d:=x.1) ?_ ?_ m hm
  ·rw [ajo] at hfi ⊢
   rw [akN] at hfi ⊢
   obtain ⟨f',hf',rfl⟩:=hfi
   exact ⟨f',hf',rfl⟩
  ·rw [ajo,hxi];rfl
theorem uO {α β:Type} {T:TypeId} {f:α → List FV} {f':β → List FV} {G:α → Prop} {G':β → Prop} (g:α → β) (hg:∀ a,f' (g a) = f a) (hG:∀ a,G a → G' (g a)) (hd:Im P T f G):Im P T f' G':=by
 intro H enc w spare held fuel cs x hx hz
 obtain ⟨a,ha,ga⟩:=hd enc w spare held fuel cs x hx hz
 exact ⟨g a,by rw [hg];exact ha,hG a ga⟩
theorem qz {w:World} {r:Reach} {base:Nat} {t:TypeId} {fs:Array Field} {v:Value} (ht:P.underlying t = some (.struct fs)) (h:Value.okWide P w r base t v):∃ cs,v = .agg cs:=by
 simp only [Value.okWide,ht] at h
 obtain ⟨cs,h1,_⟩:=h
 exact ⟨cs,h1⟩
theorem Gd {Fz:Nat → Prop} {w:World}:∀ {xs:List FV} {cs:List Value},cB Fz w xs cs → kQ Fz w (xs.map .f) cs []
 | [],[],_=>rfl
 | [],_ :: _,h=>h.elim
 | _ :: _,[],h=>h.elim
 | x :: xs,c :: cs,h=>⟨[],[],⟨h.1,rfl⟩,Gd h.2,rfl⟩
theorem Gf {Fz:Nat → Prop} {w:World} {xs:List FV} {cs:Array Value} (h:cB Fz w xs cs.toList):pG Fz w (.agg (xs.map .f)) (.agg cs) []:=⟨cs,rfl,Gd h⟩
theorem zM {Fz:Nat → Prop} {w:World} {x:AV} {v:Value} {xs:List AV} {vs:List Value} (h:pG Fz w x v []) (k:fC Fz w xs vs []):fC Fz w (x :: xs) (v :: vs) []:=⟨[],[],h,k,rfl⟩
theorem Lm {Fz:Nat → Prop} {w:World}:fC Fz w [] [] []:=rfl
end
end
section
open Go
attribute [go_sem ↓] GI MX uY GJ GK
attribute [go_sem] gQ
attribute [go_sem ↓] QF MZ V3
section
variable {α β:Type} {k:α → Prop} {u:Tok k}
@[go_sem ↓] theorem ae4 {c:Prop} [Decidable c] {a b:Option α}:W k u (if c then a else b) ↔ (c → W k u a) ∧ (¬ c → W k u b):=Z8
end
def Kk : CV → Option (Nat × Nat)
 | .one (.ptr k o)=>some (k,o)
 | _=>none
def qX : CV → Option ByteArray
 | .one (.f (.str s))=>some s
 | _=>none
def M4 : CV → Option (List PL)
 | .agg l=>some l
 | _=>none
def V4 : PV → Option (List CV)
 | .uQ l=>some l
 | _=>none
@[go_sem] theorem aac {l:List CV}:V4 (.uQ l) = some l:=rfl
def fav (off:Nat):CV → Option CV
 | .one (.ptr key o)=>some (.one (.ptr key (o + off)))
 | .one (.fp cs)=>some (.one (.fp (cs.drop off)))
 | .one (.rp key z i o)=>some (.one (.rp key z i (o + off)))
 | _=>none
@[go_sem] theorem acH {off k o:Nat}:fav off (.one (.ptr k o)) = some (.one (.ptr k (o + off))):=rfl
@[go_sem] theorem ae5 {off:Nat} {cs:List FV}:fav off (.one (.fp cs)) = some (.one (.fp (cs.drop off))):=rfl
@[go_sem] theorem ae6 {off k z i o:Nat}:fav off (.one (.rp k z i o)) = some (.one (.rp k z i (o + off))):=rfl
def V5 : CV → Option Bool
 | .one .bY=>some true
 | .one (.f (.sl (_ :: _)))=>some false
 | _=>none
@[go_sem] theorem ae7 : V5 (.one .bY) = some true:=rfl
@[go_sem] theorem ae8 {r:List FV} {l:List (List FV)}:V5 (.one (.f (.sl (r :: l)))) = some false:=rfl
section
variable {α : Type}
@[go_sem] theorem get_nil {i:Nat}:get ([]:List (Nat × α)) i = none:=rfl
@[go_sem] theorem aad {k:Nat} {v:α} {l:List (Nat × α)} {i:Nat}:get ((k,v) :: l) i = if k = i then some v else get l i:=rfl
@[go_sem] theorem acI {i:Nat}:rem ([]:List (Nat × α)) i = []:=rfl
@[go_sem] theorem aae {k:Nat} {v:α} {l:List (Nat × α)} {i:Nat}:rem ((k,v) :: l) i = if k = i then rem l i else (k,v) :: rem l i:=rfl
@[go_sem] theorem acJ {i:Nat} {v:α}:put ([]:List (Nat × α)) i v = [(i,v)]:=rfl
@[go_sem] theorem aaf {k:Nat} {w:α} {l:List (Nat × α)} {i:Nat} {v:α}:put ((k,w) :: l) i v = if k = i then (i,v) :: rem l i else (k,w) :: put l i v:=rfl
def M5 (k:Nat) (r:List (Nat × α)):Option α → List (Nat × α)
 | some v=>(k,v) :: r
 | none=>r
@[go_sem] theorem V6 {k:Nat} {v:α} {r:List (Nat × α)}:M5 k r (some v) = (k,v) :: r:=rfl
@[go_sem] theorem V7 {k:Nat} {r:List (Nat × α)}:M5 k r none = r:=rfl
@[go_sem] theorem aag {l:List (Nat × α)}:pick [] l = []:=rfl
@[go_sem] theorem Yq {k:Nat} {ks:List Nat} {l:List (Nat × α)}:pick (k :: ks) l = M5 k (pick ks l) (get l k):=by
 unfold pick
 rw [List.filterMap_cons]
 cases get l k <;> rfl
end
section
variable {Γ : Env} {F d:Nat} {q:Bool} {σ:St}
section
variable {k : Out × St → Prop} {u:Tok k}
@[go_sem ↓] theorem ae9 : W k u (ev Γ F .skip σ) ↔ k (.jf,σ):=by simp only [ev];exact gQ
@[go_sem ↓] theorem ag1 {is:List G} {ks:List Nat}:W k u (ev Γ F (.reg is ks) σ) ↔ W (fun s=>W k ⟨⟩ (some (.jf,⟨pick ks s.tm,s.ob⟩))) ⟨⟩ (wL Γ false is σ):=by simp only [ev,dQ,bU,bB]
@[go_sem ↓] theorem ag2 {pre:List (G × List Nat)} {lX:List Nat} {jQ rest:List G} {ks:List Nat}:W k u (ev Γ F (.sH pre lX jQ rest ks) σ) ↔ W (fun s=>W k ⟨⟩ (some (.jf,⟨pick ks s.tm,s.ob⟩))) ⟨⟩ (Yl Γ pre lX jQ rest σ):=by simp only [ev,dQ,bU,bB]
@[go_sem ↓] theorem aah {gs:List G} {ks mE:List Nat} {r:St}:kT Γ gs ks mE σ r [] ↔ True:=ajj
@[go_sem ↓] theorem Yr {gs:List G} {ks mE:List Nat} {r:St} {o:List Nat} {os:List (List Nat)}:kT Γ gs ks mE σ r (o :: os) ↔ W (fun s=>W (fun t=>t = r) ⟨⟩ (some (⟨pick ks s.tm,pick mE s.ob⟩:St))) ⟨⟩ (wL Γ false (o.map fun i=>gs.getD i default) σ) ∧ kT Γ gs ks mE σ r os:=by
 conv=>lhs;unfold kT
 simp only [dQ,V,ajq,exists_eq_left']
@[go_sem ↓] theorem aai {gs:List G} {o:List Nat} {os:List (List Nat)} {ks mE:List Nat}:W k u (ev Γ F (.any gs (o :: os) ks mE) σ) ↔ W (fun s=>W (fun r=>kT Γ gs ks mE σ r os ∧ W k ⟨⟩ (some (.jf,r))) ⟨⟩ (some (⟨pick ks s.tm,pick mE s.ob⟩:St))) ⟨⟩ (wL Γ false (o.map fun i=>gs.getD i default) σ):=by
 simp only [ev,evO,dQ,aQ,bM,bB]
@[go_sem ↓] theorem ag3 {a b:CC}:W k u (ev Γ F (.seq a b) σ) ↔ W (fun p=>match p.1 with
  | .jf=>W k ⟨⟩ (ev Γ F b p.2)
  | o=>k (o,p.2)) ⟨⟩ (ev Γ F a σ):=by
 simp only [ev,dQ,aQ]
 refine cZ fun p=>?_
 obtain ⟨o,s⟩:=p
 cases o <;> first | rfl | exact bB
@[go_sem ↓] theorem afa {c:dM} {a b:CC}:W k u (ev Γ F (.cond c a b) σ) ↔ W (fun v=>W (fun t=>Br t (fun _=>W k ⟨⟩ (ev Γ F a σ)) (fun _=>W k ⟨⟩ (ev Γ F b σ)) ⟨⟩) ⟨⟩ (bool? v)) ⟨⟩ (val σ c):=by
 simp only [ev,dQ,aQ]
 refine cZ fun v=>cZ fun t=>?_
 cases t <;> simp [Br,dQ]
@[go_sem ↓] theorem acK {id:Nat} {c:CC}:W k u (ev Γ F (.block id c) σ) ↔ W (fun p=>match p.1 with
  | .ext i=>if i = id then k (.jf,p.2) else k (.ext i,p.2)
  | o=>k (o,p.2)) ⟨⟩ (ev Γ F c σ):=by
 simp only [ev,dQ,bU]
 refine cZ fun p=>?_
 obtain ⟨o,s⟩:=p
 cases o with
 | ext i=>by_cases hi:i = id <;> simp [hi]
 | _=>exact ajj
@[go_sem ↓] theorem mK {keep BX:List Nat} {rws:List (Nat × Nat)} {c:CC}:W k u (ev Γ F (.loop keep BX rws c) σ) ↔ W k u (iter (ev Γ F c) (res keep BX rws) F σ):=by simp only [ev]
@[go_sem ↓] theorem afb {id:Nat}:W k u (ev Γ F (.exit id) σ) ↔ k (.ext id,σ):=by simp only [ev];exact gQ
@[go_sem ↓] theorem ag4 : W k u (ev Γ F .ret σ) ↔ k (.ret,σ):=by simp only [ev];exact gQ
end
section
variable {k : St → Prop} {u:Tok k}
@[go_sem ↓] theorem Yt : W k u (wL Γ q [] σ) ↔ k σ:=gQ
@[go_sem ↓] theorem V8 {g:G} {l:List G}:W k u (wL Γ q (g :: l) σ) ↔ W (fun s=>W k ⟨⟩ (wL Γ q l s)) ⟨⟩ (PW Γ q σ g):=by
 show W k u ((PW Γ q σ g).bind (wL Γ q l)) ↔ _
 rw [GI]
@[go_sem ↓] theorem ag5 {g:G}:W k u (PW Γ q σ g) ↔ W (fun p=>W k ⟨⟩ (some (qW p.2 g.dst p.1))) ⟨⟩ (mG Γ q σ g):=by simp only [PW,dQ,bU,bB]
def V9 (f:Nat → Option (PV × St)):List Nat → Prop
 | []=>True
 | j :: l=>W (fun _=>True) ⟨⟩ (f j) ∧ V9 f l
theorem I5 {f:Nat → Option (PV × St)}:∀ {l:List Nat},l.all (fun j=>(f j).isSome) = true ↔ V9 f l
 | []=>by simp [V9]
 | j :: l=>by
  rw [List.all_cons,ajk,I5 (l:=l)]
  refine and_congr_left fun _=>?_
  cases h:f j with
  | none=>simp [uY]
  | some y=>simp [gQ]
@[go_sem ↓] theorem acL {f:Nat → Option (PV × St)}:V9 f [] ↔ True:=ajj
@[go_sem ↓] theorem aaj {f:Nat → Option (PV × St)} {j:Nat} {l:List Nat}:V9 f (j :: l) ↔ W (fun _=>True) ⟨⟩ (f j) ∧ V9 f l:=ajj
def wkv : Option CV → List Nat
 | some (.one (.ptr k _))=>[k]
 | _=>[]
@[go_sem] theorem acM {k o:Nat}:wkv (some (.one (.ptr k o))) = [k]:=rfl
@[go_sem] theorem acN {tm:List (Nat × PV)} {dst:Option Nat} {gd:Option (Option Nat × Bool)} {n:Nat} {x y:dM}:sS tm ⟨dst,gd,.store n x y⟩ = wkv (val ⟨tm,[]⟩ x):=by
 show (match val ⟨tm,[]⟩ x with | some (.one (.ptr k _))=>[k] | _=>[]) = _
 cases val ⟨tm,[]⟩ x with
 | none=>rfl
 | some v=>cases v with
  | one y=>cases y <;> rfl
  | agg _=>rfl
@[go_sem ↓] theorem ag6 {pre:List (G × List Nat)} {lX:List Nat} {jQ rest:List G}:W k u (Yl Γ pre lX jQ rest σ) ↔ pre.all (fun g=>!gP g.1.i || fresh σ (dA (g.1.dst.getD 999))) = true ∧ W (fun s=>W (fun tm=>V9 (fun j=>mG Γ true ⟨tm,σ.ob.filter (fun p=>!(jQ.flatMap (sS tm)).contains p.1)⟩ (pre.getD j default).1) lX ∧ W (fun ob=>W (fun s=>W k ⟨⟩ (wL Γ false rest s)) ⟨⟩ (some ⟨tm,ob⟩)) ⟨⟩ (LP Γ tm jQ s.ob)) ⟨⟩ (some (pick (s.tm.map (·.1)) s.tm))) ⟨⟩ (Qe Γ σ.ob pre σ):=by
 simp only [Yl,dQ,aQ,bM,bB,← I5]
@[go_sem ↓] theorem Yu {rD:List (Nat × Ob)}:W k u (Qe Γ rD [] σ) ↔ k σ:=gQ
@[go_sem ↓] theorem Wh {rD:List (Nat × Ob)} {g:G} {nk:List Nat} {l:List (G × List Nat)}:W k u (Qe Γ rD ((g,nk) :: l) σ) ↔ W (fun p=>nk.any (fun k=>rA k p.1 || (gP g.i && (p.2.ob.take 1).any (fun r=>r.1 == k || mF k r.2))) = false ∧ W (fun s=>W k ⟨⟩ (Qe Γ rD l s)) ⟨⟩ (some ⟨sQ g.dst σ.tm p.1,if gP g.i then p.2.ob.take 1 ++ σ.ob else σ.ob⟩)) ⟨⟩ (mG Γ true ⟨σ.tm,rD⟩ g):=by
 conv=>lhs;unfold Qe
 simp only [dQ,aQ,dw,bB,akb]
end
section
variable {k : List (Nat × Ob) → Prop} {u:Tok k} {tm:List (Nat × PV)} {ob:List (Nat × Ob)}
@[go_sem ↓] theorem Yv : W k u (LP Γ tm [] ob) ↔ k ob:=gQ
@[go_sem ↓] theorem Wi {n:Nat} {x y:dM} {dst:Option Nat} {gd:Option (Option Nat × Bool)} {l:List G}:W k u (LP Γ tm (⟨dst,gd,.store n x y⟩ :: l) ob) ↔ W (fun v=>W (fun _=>W (fun p=>W k ⟨⟩ (LP Γ tm l p.2.ob)) ⟨⟩ (bZ Γ true ⟨tm,ob⟩ 999 (.store n x y))) ⟨⟩ (Kk v)) ⟨⟩ (val ⟨tm,ob⟩ x):=by
 conv=>lhs;unfold LP
 simp only
 cases hv:val ⟨tm,ob⟩ x with
 | none=>simp only [uY]
 | some v =>
  rw [gQ]
  cases v with
  | one y=>cases y <;> simp only [Kk,dQ,jB,bB,aQ]
  | agg xs=>simp only [Kk,uY]
end
section
variable {i : Nat}
def vl : Option PV → Option CV
 | some (.c x)=>some x
 | _=>none
@[go_sem] theorem acO {x:CV}:vl (some (.c x)) = some x:=rfl
@[go_sem] theorem aak : val σ (.t i) = vl (get σ.tm i):=by simp only [val];cases get σ.tm i with | none=>rfl | some v=>cases v <;> rfl
@[go_sem] theorem ag7 {x:CV}:val σ (.k x) = some x:=rfl
@[go_sem] theorem afc : sP σ (.t i) = get σ.tm i:=rfl
@[go_sem] theorem afd {x:CV}:sP σ (.k x) = some (.c x):=rfl
@[go_sem] theorem aal {k:IntKind} {n:Int}:int? (.one (.f (.int k n))) = some (k,n):=rfl
@[go_sem] theorem Wj {b:Bool}:bool? (.one (.f (.bool b))) = some b:=rfl
@[go_sem] theorem aam {k o:Nat}:Kk (.one (.ptr k o)) = some (k,o):=rfl
@[go_sem] theorem aan {s:ByteArray}:qX (.one (.f (.str s))) = some s:=rfl
@[go_sem] theorem aao {l:List PL}:M4 (.agg l) = some l:=rfl
@[go_sem] theorem cells_one {x:PL}:cells (.one x) = [x]:=rfl
@[go_sem] theorem Yw {xs:List PL}:cells (.agg xs) = xs:=rfl
def oc : Option Ob → Option (List PL)
 | some (.fu xs)=>some xs
 | _=>none
def M6 : Option Ob → Option (Nat × List (List FV))
 | some (.row sz rows)=>some (sz,rows)
 | _=>none
def om : Option Ob → Option (KS × List (KV × FC))
 | some (.map sh ents)=>some (sh,ents)
 | _=>none
@[go_sem] theorem afe {xs:List PL}:oc (some (.fu xs)) = some xs:=rfl
@[go_sem] theorem acP {sz:Nat} {rows:List (List FV)}:M6 (some (.row sz rows)) = some (sz,rows):=rfl
@[go_sem] theorem aff {sh:KS} {ents:List (KV × FC)}:om (some (.map sh ents)) = some (sh,ents):=rfl
def gb (want:Bool):Option PV → Option Bool
 | some (.c (.one (.f (.bool b))))=>some (b == want)
 | some (.c (.one .und))=>some false
 | _=>none
@[go_sem] theorem acQ {b:Bool}:gb true (some (.c (.one (.f (.bool b))))) = some b:=by cases b <;> rfl
@[go_sem] theorem aap {b:Bool}:gb false (some (.c (.one (.f (.bool b))))) = some (!b):=by cases b <;> rfl
@[go_sem] theorem afg {w:Bool}:gb w (some (.c (.one .und))) = some false:=rfl
@[go_sem] theorem Yx {v:PV}:qW σ (some i) v = ⟨put σ.tm i v,σ.ob⟩:=rfl
@[go_sem] theorem Yy {v:PV}:qW σ none v = σ:=rfl
@[go_sem] theorem Yz {tm:List (Nat × PV)} {v:PV}:sQ (some i) tm v = put tm i v:=rfl
@[go_sem] theorem YA {tm:List (Nat × PV)} {v:PV}:sQ none tm v = tm:=rfl
end
section
variable {α : Type} {n off:Nat} {x:α} {xs ys:List α}
@[go_sem] theorem aaq : seg 0 0 xs = some []:=by simp [seg]
@[go_sem] theorem aar : seg (n + 1) 0 (x :: xs) = (seg n 0 xs).map (x :: ·):=by
 unfold seg
 simp only [ajI,List.length_cons,Nat.add_le_add_iff_right,akf,List.take_succ_cons]
 split <;> rfl
@[go_sem] theorem aas : seg n (off + 1) (x :: xs) = seg n off xs:=by
 unfold seg
 simp only [List.length_cons,List.drop_succ_cons]
 by_cases h:off + n ≤ xs.length
 ·rw [ajd h,ajd (by omega)]
 ·rw [aje h,aje (by omega)]
@[go_sem] theorem acR : lay 0 ([]:List α) xs = some xs:=by simp [lay]
@[go_sem] theorem acS {y:α}:lay 0 (y :: ys) (x :: xs) = (lay 0 ys xs).map (y :: ·):=by
 unfold lay
 simp only [ajI,List.length_cons,Nat.add_le_add_iff_right,List.take_zero,List.drop_succ_cons,List.nil_append,List.cons_append]
 split <;> rfl
@[go_sem] theorem aat : lay (off + 1) ys (x :: xs) = (lay off ys xs).map (x :: ·):=by
 unfold lay
 simp only [List.length_cons,List.take_succ_cons]
 rw [show off + 1 + ys.length = off + ys.length + 1 from by omega]
 by_cases h:off + ys.length ≤ xs.length
 ·rw [ajd h,ajd (by omega)];rfl
 ·rw [aje h,aje (by omega)];rfl
end
@[go_sem] theorem afh {xs:List PL}:mk true xs = some (.agg xs):=rfl
@[go_sem] theorem mk_one {x:PL}:mk false [x] = some (.one x):=rfl
def pJ (σ:St) (key:Nat):Option (List PL):=oc (get σ.ob key)
def iK (σ:St) (key:Nat):Option (Nat × List (List FV)):=M6 (get σ.ob key)
def oM (σ:St) (key:Nat):Option (KS × List (KV × FC)):=om (get σ.ob key)
attribute [go_sem] pJ iK oM Option.map_some Option.map_none Option.bind_some Option.bind_none
def kK (σ:St) (n:Nat):CV → Option (List PL)
 | .one (.ptr key off)=>(pJ σ key).bind (seg n off)
 | .one (.fp cs)=>(seg n 0 cs).map (·.map .f)
 | .one (.rp key z i off)=>(iK σ key).bind fun p=>if p.1 ≠ z then none else p.2[i]?.bind fun r=>(seg n off r).map (·.map .f)
 | _=>none
@[go_sem ↓] theorem TT {n key off:Nat}:kK σ n (.one (.ptr key off)) = (pJ σ key).bind (seg n off):=rfl
@[go_sem] theorem Wm {n:Nat} {cs:List FV}:kK σ n (.one (.fp cs)) = (seg n 0 cs).map (·.map .f):=rfl
section
variable {k : List PL → Prop} {u:Tok k}
@[go_sem ↓] theorem TU {n key off:Nat}:W k u (kK σ n (.one (.ptr key off))) ↔ W (fun xs=>W k ⟨⟩ (seg n off xs)) ⟨⟩ (pJ σ key):=GI
@[go_sem ↓] theorem Wn {n:Nat} {cs:List FV}:W k u (kK σ n (.one (.fp cs))) ↔ W (fun l=>k (l.map .f)) ⟨⟩ (seg n 0 cs):=MX
@[go_sem ↓] theorem Wo {n key z i off:Nat}:W k u (kK σ n (.one (.rp key z i off))) ↔ W (fun p=>p.1 = z ∧ W (fun r=>W (fun l=>k (l.map .f)) ⟨⟩ (seg n off r)) ⟨⟩ (p.2[i]?)) ⟨⟩ (iK σ key):=by
 simp only [kK,dQ,aQ,bU,dw,ne_eq,ajU]
end
section
variable {k : PV × St → Prop} {u:Tok k} {x y c:dM}
@[go_sem ↓] theorem afi {dst:Option Nat} {i:I}:W k u (mG Γ q σ ⟨dst,none,i⟩) ↔ W k u (bZ Γ q σ (dst.getD 999) i):=ajj
@[go_sem ↓] theorem YB {dst:Option Nat} {s:Nat} {want:Bool} {i:I}:W k u (mG Γ q σ ⟨dst,some (some s,want),i⟩) ↔ W (fun w=>Br w (fun _=>W k ⟨⟩ (bZ Γ q σ (dst.getD 999) i)) (fun _=>k (.c (.one .und),σ)) ⟨⟩) ⟨⟩ (gb want (get σ.tm s)):=by
 have h:zU σ (some (some s,want)) = gb want (get σ.tm s):=by
  simp only [zU]
  cases get σ.tm s with
  | none=>rfl
  | some v =>
   cases v with
   | uQ l=>rfl
   | c x =>
    cases x with
    | agg l=>rfl
    | one p =>
     cases p with
     | f z=>cases z <;> rfl
     | _=>rfl
 simp only [mG,dQ,aQ,h]
 refine cZ fun t=>?_
 cases t <;> simp [bB,Br,dQ]
@[go_sem ↓] theorem aiP : W k u (bZ Γ q σ d (.mv x)) ↔ W (fun v=>k (v,σ)) ⟨⟩ (sP σ x):=by simp only [bZ];exact MX
@[go_sem ↓] theorem afj : W k u (bZ Γ q σ d (.pick c x y)) ↔ W (fun v=>W (fun t=>Br t (fun _=>W (fun z=>k (.c z,σ)) ⟨⟩ (val σ x)) (fun _=>W (fun z=>k (.c z,σ)) ⟨⟩ (val σ y)) ⟨⟩) ⟨⟩ (bool? v)) ⟨⟩ (val σ c):=by
 simp only [bZ,dQ,aQ,bU]
 refine cZ fun v=>cZ fun t=>?_
 cases t <;> simp [Br,dQ]
@[go_sem ↓] theorem acT {e:TypeId} {z:List PL}:W k u (bZ Γ q σ d (.alloc e z)) ↔ z.any (dZ (dA d)) = false ∧ W (fun s=>k (.c (.one (.ptr (dA d) 0)),s)) ⟨⟩ (new σ (dA d) (.fu z)):=by
 simp only [bZ,dQ,dw,gN,bU,akb]
@[go_sem ↓] theorem ag8 {e:TypeId}:W k u (bZ Γ q σ d (.box e x)) ↔ W (fun v=>((cells v).any pR || (cells v).any (dZ (dA d))) = false ∧ W (fun s=>k (.c (.one (.ptr (dA d) 0)),s)) ⟨⟩ (new σ (dA d) (.fu (cells v)))) ⟨⟩ (val σ x):=by
 simp only [bZ,dQ,aQ,dw,gN,bU,akb]
@[go_sem ↓] theorem acU {z:List PL} {ps:List (Nat × Nat × dM)}:W k u (bZ Γ q σ d (.build z ps)) ↔ W (fun l=>W (fun z=>k (.c (.agg z),σ)) ⟨⟩ (fill z l)) ⟨⟩ (vals σ ps):=by
 simp only [bZ,dQ,aQ,bU]
@[go_sem ↓] theorem ag9 {e:TypeId} {sz len:Nat} {z:List PL} {ps:List (Nat × Nat × dM)}:W k u (bZ Γ q σ d (.zN e sz len z ps)) ↔ W (fun l=>W (fun z=>(q && z.any gB) = false ∧ W (fun p=>W (fun s=>k (.c (.one (.own (dA d) len)),s)) ⟨⟩ (new p.2 (dA d) (.row sz (rowsOf sz len p.1)))) ⟨⟩ (kI σ z)) ⟨⟩ (fill z l)) ⟨⟩ (vals σ ps):=by
 simp only [bZ,dQ,aQ,dw,gN,bU,akb]
@[go_sem ↓] theorem acV {x:PL}:W k u (D8 (.c (.one x)) σ) ↔ W (fun p=>k (.c (.one (.f p.1)),p.2)) ⟨⟩ (vP σ x):=by simp only [D8,dQ,bU]
@[go_sem ↓] theorem aha {e:TypeId} {sz len:Nat} {z:List PL} {ps:List (Nat × Nat × dM)}:W k u (bZ Γ q σ d (.PU e sz len z ps)) ↔ W (fun l=>W (fun z=>(q && z.any gB) = false ∧ W (fun p=>W (fun s=>W k ⟨⟩ (D8 (.c (.one (.own (dA d) len))) s)) ⟨⟩ (new p.2 (dA d) (.row sz (rowsOf sz len p.1)))) ⟨⟩ (kI σ z)) ⟨⟩ (fill z l)) ⟨⟩ (vals σ ps):=by
 simp only [bZ,dQ,aQ,dw,gN,bU,akb]
@[go_sem ↓] theorem afk {n:Nat} {agg:Bool}:W k u (bZ Γ q σ d (.load n agg x)) ↔ W (fun v=>W (fun l=>W (fun z=>k (.c z,σ)) ⟨⟩ (mk agg l)) ⟨⟩ (kK σ n v)) ⟨⟩ (val σ x):=by
 have h:bZ Γ q σ d (.load n agg x) = (val σ x).bind fun v=>(kK σ n v).bind fun l=>(mk agg l).map fun z=>(.c z,σ):=by
  simp only [bZ]
  congr 1
  funext v
  cases v with
  | agg l=>rfl
  | one p =>
   cases p with
   | ptr key off=>simp only [kK,pJ];cases get σ.ob key with | none=>rfl | some o=>cases o <;> rfl
   | fp cs=>simp only [kK];cases seg n 0 cs <;> rfl
   | rp key z i off =>
    simp only [kK,iK]
    cases get σ.ob key with
    | none=>rfl
    | some o =>
     cases o with
     | row sz rows =>
      simp only [M6,Option.bind_some]
      split
      ·rfl
      ·cases rows[i]? with
       | none=>rfl
       | some r=>simp only [Option.bind_some];cases seg n off r <;> rfl
     | _=>rfl
   | _=>rfl
 rw [h]
 simp only [dQ,aQ,bU]
def EH (q:Bool) (σ:St) (ys:List PL):CV → Option St
 | .one (.ptr key off)=>(pJ σ key).bind fun xs=>(lay off ys xs).map fun l=>jy σ key (.fu l)
 | .one (.rp key z i off)=>if q && ys.any gB then none else (kI σ ys).bind fun p=>(iK p.2 key).bind fun o=>if o.1 ≠ z then none else o.2[i]?.bind fun r=>(lay off p.1 r).map fun l=>jy p.2 key (.row o.1 (o.2.set i l))
 | _=>none
@[go_sem ↓] theorem acW {n:Nat}:W k u (bZ Γ q σ d (.store n x y)) ↔ W (fun v=>W (fun z=>((cells z).length = n ∧ (cells z).any pR = false) ∧ W (fun s=>k (.c (.one .und),s)) ⟨⟩ (EH q σ (cells z) v)) ⟨⟩ (val σ y)) ⟨⟩ (val σ x):=by
 have h:bZ Γ q σ d (.store n x y) = (val σ x).bind fun v=>(val σ y).bind fun z=>if (cells z).length = n ∧ (cells z).any pR = false then (EH q σ (cells z) v).map fun s=>(.c (.one .und),s) else none:=by
  simp only [bZ]
  congr 1
  funext v
  congr 1
  funext z
  split
  ·cases v with
   | agg l=>rfl
   | one p =>
    cases p with
    | ptr key off =>
     simp only [EH,pJ]
     cases get σ.ob key with
     | none=>rfl
     | some o=>cases o <;> first | rfl | (simp only [oc,Option.bind_some,Option.map_map];rfl)
    | rp key zz i off =>
     simp only [EH,iK]
     split
     ·rfl
     ·cases kI σ (cells z) with
      | none=>rfl
      | some p =>
       simp only [Option.bind_some]
       cases get p.2.ob key with
       | none=>rfl
       | some o =>
        cases o with
        | row sz rows =>
         simp only [M6,Option.bind_some]
         split
         ·rfl
         ·cases rows[i]? with
          | none=>rfl
          | some r=>simp only [Option.bind_some,Option.map_map];rfl
        | _=>rfl
    | _=>rfl
  ·rfl
 rw [h]
 simp only [dQ,aQ,bM,bU]
end
section
variable {k : St → Prop} {u:Tok k}
@[go_sem ↓] theorem Wp {ys:List PL} {key off:Nat}:W k u (EH q σ ys (.one (.ptr key off))) ↔ W (fun xs=>W (fun l=>k (jy σ key (.fu l))) ⟨⟩ (lay off ys xs)) ⟨⟩ (pJ σ key):=by
 simp only [EH,dQ,aQ,bU]
@[go_sem ↓] theorem YC {ys:List PL} {key z i off:Nat}:W k u (EH q σ ys (.one (.rp key z i off))) ↔ (q && ys.any gB) = false ∧ W (fun p=>W (fun o=>o.1 = z ∧ W (fun r=>W (fun l=>k (jy p.2 key (.row o.1 (o.2.set i l)))) ⟨⟩ (lay off p.1 r)) ⟨⟩ (o.2[i]?)) ⟨⟩ (iK p.2 key)) ⟨⟩ (kI σ ys):=by
 simp only [EH,dQ,dw,aQ,bU,ne_eq,ajU,akb]
end
end
end
section
open Go
section
variable {Γ : Env} {F d:Nat} {q:Bool} {σ:St} {k:PV × St → Prop} {u:Tok k} {x y z:dM}
def QG : CV → Option CV
 | .one (.ptr k o)=>some (.one (.ptr k o))
 | .one (.fp cs)=>some (.one (.fp cs))
 | .one (.rp k z i o)=>some (.one (.rp k z i o))
 | _=>none
@[go_sem] theorem aau {k o:Nat}:QG (.one (.ptr k o)) = some (.one (.ptr k o)):=rfl
@[go_sem] theorem acX {cs:List FV}:QG (.one (.fp cs)) = some (.one (.fp cs)):=rfl
@[go_sem] theorem acY {k z i o:Nat}:QG (.one (.rp k z i o)) = some (.one (.rp k z i o)):=rfl
@[go_sem ↓] theorem afl : W k u (bZ Γ q σ d (.gY x)) ↔ W (fun v=>W (fun w=>k (.c w,σ)) ⟨⟩ (QG v)) ⟨⟩ (val σ x):=by
 simp only [bZ,dQ,aQ]
 refine cZ fun v=>?_
 cases v with
 | agg l=>exact bX
 | one p=>cases p <;> first | exact bX | exact lS ajj
def isn : CV → Option Bool
 | .one .iR=>some true
 | .one (.ptr _ _)=>some false
 | .one (.fp _)=>some false
 | .one (.rp _ _ _ _)=>some false
 | _=>none
@[go_sem] theorem acZ : isn (.one .iR) = some true:=rfl
@[go_sem] theorem ac0 {k o:Nat}:isn (.one (.ptr k o)) = some false:=rfl
@[go_sem] theorem afm {cs:List FV}:isn (.one (.fp cs)) = some false:=rfl
@[go_sem] theorem afn {k z i o:Nat}:isn (.one (.rp k z i o)) = some false:=rfl
@[go_sem ↓] theorem afo {neg:Bool}:W k u (bZ Γ q σ d (.xD neg x)) ↔ W (fun v=>W (fun b=>k (.c (.one (.f (.bool (if neg then !b else b)))),σ)) ⟨⟩ (isn v)) ⟨⟩ (val σ x):=by
 simp only [bZ,dQ,aQ]
 refine cZ fun v=>?_
 cases v with
 | agg l=>exact bX
 | one p=>cases p <;> first | exact bX | (cases neg <;> exact lS ajj)
@[go_sem ↓] theorem aiQ {off:Nat}:W k u (bZ Γ q σ d (.fa off x)) ↔ W (fun v=>W (fun w=>k (.c w,σ)) ⟨⟩ (fav off v)) ⟨⟩ (val σ x):=by
 simp only [bZ,dQ,aQ]
 refine cZ fun v=>?_
 cases v with
 | agg l=>exact bX
 | one p=>cases p <;> first | exact bX | exact lS ajj
@[go_sem ↓] theorem aiR {o:Ar}:W k u (bZ Γ q σ d (.ar o x y)) ↔ W (fun a=>W (fun b=>W (fun a=>W (fun b=>a.1 = b.1 ∧ W (fun n=>k (.c (.one (.f (.int a.1 n))),σ)) ⟨⟩ (Lp o a.1 a.2 b.2)) ⟨⟩ (int? b)) ⟨⟩ (int? a)) ⟨⟩ (val σ y)) ⟨⟩ (val σ x):=by
 simp only [bZ,dQ,aQ,bM,one,bB]
@[go_sem ↓] theorem ahb {o:Yf}:W k u (bZ Γ q σ d (.cmp o x y)) ↔ W (fun a=>W (fun b=>W (fun a=>W (fun b=>a.1 = b.1 ∧ k (.c (.one (.f (.bool (xK o a.2 b.2)))),σ)) ⟨⟩ (int? b)) ⟨⟩ (int? a)) ⟨⟩ (val σ y)) ⟨⟩ (val σ x):=by
 simp only [bZ,dQ,aQ,bM,one,bB]
@[go_sem] theorem ac1 {k:IntKind} {a b:Int}:Lp .add k a b = some (k.wrap (a + b)):=rfl
@[go_sem] theorem ac2 {k:IntKind} {a b:Int}:Lp .sub k a b = some (k.wrap (a - b)):=rfl
@[go_sem] theorem ac3 {k:IntKind} {a b:Int}:Lp .mul k a b = some (k.wrap (a * b)):=rfl
section
variable {k : Int → Prop} {u:Tok k} {kk:IntKind} {a b:Int}
@[go_sem ↓] theorem ahc : W k u (Lp .quo kk a b) ↔ ¬ b = 0 ∧ k (kk.wrap (a.tdiv b)):=by simp only [Lp,dQ,dw,bB]
@[go_sem ↓] theorem ahd : W k u (Lp .rem kk a b) ↔ ¬ b = 0 ∧ k (a.tmod b):=by simp only [Lp,dQ,dw,bB]
end
section
variable {a b:Int}
@[go_sem] theorem ac4 : xK .eq a b = decide (a = b):=rfl
@[go_sem] theorem ac5 : xK .ne a b = !decide (a = b):=rfl
@[go_sem] theorem ac6 : xK .lt a b = decide (a < b):=rfl
@[go_sem] theorem ac7 : xK .le a b = decide (a ≤ b):=rfl
@[go_sem] theorem ac8 : xK .gt a b = decide (b < a):=rfl
@[go_sem] theorem ac9 : xK .ge a b = decide (b ≤ a):=rfl
end
@[go_sem ↓] theorem ahe {sh:KS} {neg:Bool}:W k u (bZ Γ q σ d (.sG sh neg x y)) ↔ W (fun a=>W (fun b=>W (fun a=>W (fun b=>(a.ks = sh ∧ b.ks = sh) ∧ k (.c (.one (.f (.bool (if neg then !decide (a = b) else decide (a = b))))),σ)) ⟨⟩ (keyOf b)) ⟨⟩ (keyOf a)) ⟨⟩ (val σ y)) ⟨⟩ (val σ x):=by
 simp only [bZ,dQ,aQ,bM,one,bB]
@[go_sem ↓] theorem ahf : W k u (bZ Γ q σ d (.cat x y)) ↔ W (fun a=>W (fun b=>W (fun a=>W (fun b=>a.size + b.size ≤ 9223372036854775807 ∧ k (.c (.one (.f (.str (a ++ b)))),σ)) ⟨⟩ (qX b)) ⟨⟩ (qX a)) ⟨⟩ (val σ y)) ⟨⟩ (val σ x):=by
 simp only [bZ,dQ,aQ]
 refine cZ fun v=>cZ fun w=>?_
 have no:V k none ↔ False:=jB
 have nb:∀ {g:ByteArray → Prop},V g none ↔ False:=jB
 have nn:∀ {x:Option ByteArray},V (fun _:ByteArray=>False) x ↔ False:=by intro x;cases x <;> simp [V]
 cases v with
 | agg l=>simp only [qX,no,nb]
 | one p =>
  cases p with
  | f a =>
   cases a with
   | str s =>
    cases w with
    | agg l=>simp only [qX,no,nb,bB]
    | one p =>
     cases p with
     | f b =>
      cases b with
      | str t=>simp only [qX,bB,bM,one]
      | _=>simp only [qX,no,nb,bB]
     | _=>simp only [qX,no,nb,bB]
   | _=>simp only [qX,no,nb]
  | _=>simp only [qX,no,nb]
@[go_sem ↓] theorem aiS : W k u (bZ Γ q σ d (.no x)) ↔ W (fun v=>W (fun b=>k (.c (.one (.f (.bool (!b)))),σ)) ⟨⟩ (bool? v)) ⟨⟩ (val σ x):=by
 simp only [bZ,dQ,aQ,one,bB]
@[go_sem ↓] theorem aiT {kk:IntKind}:W k u (bZ Γ q σ d (.ci kk x)) ↔ W (fun v=>W (fun a=>k (.c (.one (.f (.int kk (kk.wrap a.2)))),σ)) ⟨⟩ (int? v)) ⟨⟩ (val σ x):=by
 simp only [bZ,dQ,aQ,one,bB]
@[go_sem ↓] theorem ahg : W k u (bZ Γ q σ d (.nA x)) ↔ W (fun v=>W (fun s=>k (.c (.one (.f (.str s))),σ)) ⟨⟩ (qX v)) ⟨⟩ (val σ x):=by
 simp only [bZ,dQ,aQ]
 refine cZ fun v=>?_
 cases v with
 | agg l=>exact bX
 | one p=>cases p with
  | f a=>cases a <;> first | exact bX | exact lS ajj
  | _=>exact bX
@[go_sem ↓] theorem ada {sh:KS}:W k u (bZ Γ q σ d (.pQ sh)) ↔ W (fun s=>k (.c (.one (.mp (dA d))),s)) ⟨⟩ (new σ (dA d) (.map sh [])):=by
 simp only [bZ,gN,dQ,bU]
@[go_sem ↓] theorem aiU : W k u (bZ Γ q σ d (.mn x y)) ↔ W (fun a=>W (fun b=>W (fun a=>W (fun b=>a.1 = b.1 ∧ k (.c (.one (.f (.int a.1 (if b.2 < a.2 then b.2 else a.2)))),σ)) ⟨⟩ (int? b)) ⟨⟩ (int? a)) ⟨⟩ (val σ y)) ⟨⟩ (val σ x):=by
 simp only [bZ,dQ,aQ,bM,one,bB]
@[go_sem ↓] theorem aiV : W k u (bZ Γ q σ d (.mx x y)) ↔ W (fun a=>W (fun b=>W (fun a=>W (fun b=>a.1 = b.1 ∧ k (.c (.one (.f (.int a.1 (if a.2 < b.2 then b.2 else a.2)))),σ)) ⟨⟩ (int? b)) ⟨⟩ (int? a)) ⟨⟩ (val σ y)) ⟨⟩ (val σ x):=by
 simp only [bZ,dQ,aQ,bM,one,bB]
@[go_sem ↓] theorem ahh {o:BinOp}:W k u (bZ Γ q σ d (.bit o x y)) ↔ W (fun a=>W (fun b=>W (fun a=>W (fun b=>a.1 = b.1 ∧ k (.c (.one (.f (.int a.1 (Go.bits o a.1 a.2 b.2)))),σ)) ⟨⟩ (int? b)) ⟨⟩ (int? a)) ⟨⟩ (val σ y)) ⟨⟩ (val σ x):=by
 simp only [bZ,dQ,aQ,bM,one,bB]
@[go_sem ↓] theorem ahi {l:Bool}:W k u (bZ Γ q σ d (.Vi l x y)) ↔ W (fun a=>W (fun b=>W (fun a=>W (fun b=>0 ≤ b.2 ∧ k (.c (.one (.f (.int a.1 (if l then a.1.wrap (a.2 * 2 ^ (min b.2.toNat a.1.bits)) else a.2.fdiv (2 ^ (min b.2.toNat a.1.bits)))))),σ)) ⟨⟩ (int? b)) ⟨⟩ (int? a)) ⟨⟩ (val σ y)) ⟨⟩ (val σ x):=by
 simp only [bZ,dQ,aQ,bM,one,bB]
@[go_sem ↓] theorem afp {lo hi:Option dM}:W k u (bZ Γ q σ d (.JW x lo hi)) ↔ W (fun v=>W (fun s=>W (fun p=>k (.c (.one (.f (.str (s.extract p.1 p.2)))),σ)) ⟨⟩ (rng s.size σ lo hi)) ⟨⟩ (qX v)) ⟨⟩ (val σ x):=by
 simp only [bZ,dQ,aQ]
 refine cZ fun v=>?_
 cases v with
 | agg l=>exact bX
 | one p=>cases p with
  | f a =>
   cases a with
   | str s=>simp only [qX,bB,aQ,one]
   | _=>exact bX
  | _=>exact bX
section
variable {k : Nat × Nat → Prop} {u:Tok k} {len:Nat} {lo hi:Option dM}
@[go_sem ↓] theorem ahj : W k u (rng len σ lo hi) ↔ W (fun h=>W (fun l=>k (l,h)) ⟨⟩ (bnd σ h lo 0)) ⟨⟩ (bnd σ len hi len):=by
 simp only [rng,dQ,aQ,bU]
end
section
variable {k : Nat → Prop} {u:Tok k} {len dd:Nat}
@[go_sem ↓] theorem Wq : W k u (bnd σ len none dd) ↔ k dd:=gQ
@[go_sem ↓] theorem Ws : W k u (bnd σ len (some x) dd) ↔ W (fun v=>W (fun p=>(0 ≤ p.2 ∧ p.2 ≤ (len:Int)) ∧ k p.2.toNat) ⟨⟩ (int? v)) ⟨⟩ (val σ x):=by
 simp only [bnd,dQ,aQ,bM,bB]
end
def EI (q:Bool) (σ:St) (sz:Nat) (lo hi:Option dM):CV → Option (PV × St)
 | .one (.f (.sl rows))=>if rows.all (fun r=>r.length == sz) = false then none else (rng rows.length σ lo hi).bind fun p=>one (.sl ((rows.drop p.1).take (p.2 - p.1))) σ
 | .one .bY=>(rng 0 σ lo hi).bind fun p=>one (.sl []) σ
 | .one (.own key _)=>(iK σ key).bind fun o=>if o.1 ≠ sz then none else (rng o.2.length σ lo hi).bind fun p=>if q then none else (zO σ key).bind fun s=>one (.sl ((o.2.drop p.1).take (p.2 - p.1))) s
 | _=>none
@[go_sem ↓] theorem ahk {sz:Nat} {lo hi:Option dM}:W k u (bZ Γ q σ d (.cut sz x lo hi)) ↔ W (fun v=>W k ⟨⟩ (EI q σ sz lo hi v)) ⟨⟩ (val σ x):=by
 simp only [bZ,dQ,aQ]
 refine cZ fun v=>?_
 cases v with
 | agg l=>exact ajj
 | one p=>cases p with
  | f a=>cases a <;> exact ajj
  | own key n=>simp only [EI,iK];cases get σ.ob key with | none=>exact ajj | some o=>cases o <;> exact ajj
  | _=>exact ajj
@[go_sem ↓] theorem aav {sz:Nat} {lo hi:Option dM} {rows:List (List FV)}:W k u (EI q σ sz lo hi (.one (.f (.sl rows)))) ↔ rows.all (fun r=>r.length == sz) = true ∧ W (fun p=>k (.c (.one (.f (.sl ((rows.drop p.1).take (p.2 - p.1))))),σ)) ⟨⟩ (rng rows.length σ lo hi):=by
 simp only [EI,dQ,aQ,dw,one,bB,Bool.not_eq_false]
@[go_sem ↓] theorem aaw {sz:Nat} {lo hi:Option dM}:W k u (EI q σ sz lo hi (.one .bY)) ↔ W (fun p=>k (.c (.one (.f (.sl []))),σ)) ⟨⟩ (rng 0 σ lo hi):=by
 simp only [EI,dQ,aQ,one,bB]
@[go_sem ↓] theorem aax {sz key n:Nat} {lo hi:Option dM}:W k u (EI q σ sz lo hi (.one (.own key n))) ↔ W (fun o=>o.1 = sz ∧ W (fun p=>q = false ∧ W (fun s=>k (.c (.one (.f (.sl ((o.2.drop p.1).take (p.2 - p.1))))),s)) ⟨⟩ (zO σ key)) ⟨⟩ (rng o.2.length σ lo hi)) ⟨⟩ (iK σ key):=by
 simp only [EI,dQ,aQ,dw,one,bB,ne_eq,ajU,akb]
@[go_sem ↓] theorem ahl {off n:Nat} {agg:Bool}:W k u (bZ Γ q σ d (.Yg off n agg x)) ↔ W (fun v=>W (fun l=>W (fun l=>W (fun z=>k (.c z,σ)) ⟨⟩ (mk agg l)) ⟨⟩ (seg n off l)) ⟨⟩ (M4 v)) ⟨⟩ (val σ x):=by
 simp only [bZ,dQ,aQ]
 refine cZ fun v=>?_
 cases v with
 | agg l=>simp only [M4,bB,aQ,bU]
 | one p=>exact bX
def Wt (σ:St) (sz:Nat) (i:Int):CV → Option PL
 | .one (.f (.sl rows))=>rows[i.toNat]?.bind fun r=>if r.length = sz then some (.fp r) else none
 | .one (.own key n)=>(iK σ key).bind fun o=>if o.1 = sz ∧ i < n ∧ n = o.2.length then some (.rp key sz i.toNat 0) else none
 | _=>none
@[go_sem ↓] theorem aiW {sz:Nat}:W k u (bZ Γ q σ d (.ia sz x y)) ↔ W (fun v=>W (fun j=>W (fun p=>0 ≤ p.2 ∧ W (fun l=>k (.c (.one l),σ)) ⟨⟩ (Wt σ sz p.2 v)) ⟨⟩ (int? j)) ⟨⟩ (val σ y)) ⟨⟩ (val σ x):=by
 simp only [bZ,dQ,aQ,bM]
 refine cZ fun v=>cZ fun j=>cZ fun p=>aku ajj ?_
 cases v with
 | agg l=>exact bX
 | one a =>
  cases a with
  | f a =>
   cases a with
   | sl rows=>simp only [Wt,aQ,bM,bB]
   | _=>exact bX
  | own key n =>
   simp only [Wt,iK]
   cases get σ.ob key with
   | none=>exact bX
   | some o =>
    cases o with
    | row sz' rows=>simp only [M6,Option.bind_some,bM,bB]
    | _=>exact bX
  | _=>exact bX
section
variable {k : PL → Prop} {u:Tok k} {sz:Nat} {i:Int}
@[go_sem ↓] theorem adb {rows:List (List FV)}:W k u (Wt σ sz i (.one (.f (.sl rows)))) ↔ W (fun r=>r.length = sz ∧ k (.fp r)) ⟨⟩ (rows[i.toNat]?):=by
 simp only [Wt,dQ,aQ,bM,bB]
@[go_sem ↓] theorem ade {key n:Nat}:W k u (Wt σ sz i (.one (.own key n))) ↔ W (fun o=>(o.1 = sz ∧ i < n ∧ n = o.2.length) ∧ k (.rp key sz i.toNat 0)) ⟨⟩ (iK σ key):=by
 simp only [Wt,dQ,aQ,bM,bB]
end
@[go_sem ↓] theorem ahm {sz len:Nat} {agg:Bool}:W k u (bZ Γ q σ d (.idx sz len agg x y)) ↔ W (fun v=>W (fun j=>W (fun p=>(0 ≤ p.2 ∧ p.2 < (len:Int)) ∧ W (fun l=>W (fun l=>W (fun z=>k (.c z,σ)) ⟨⟩ (mk agg l)) ⟨⟩ (seg sz (p.2.toNat * sz) l)) ⟨⟩ (M4 v)) ⟨⟩ (int? j)) ⟨⟩ (val σ y)) ⟨⟩ (val σ x):=by
 simp only [bZ,dQ,aQ,bM]
 refine cZ fun v=>cZ fun j=>cZ fun p=>aku ajj ?_
 cases v with
 | agg l=>simp only [M4,bB,aQ,bU]
 | one p=>exact bX
@[go_sem ↓] theorem ahn : W k u (bZ Γ q σ d (.chr x y)) ↔ W (fun v=>W (fun j=>W (fun p=>W (fun s=>0 ≤ p.2 ∧ W (fun b=>k (.c (.one (.f (.int .u8 b.toNat))),σ)) ⟨⟩ (s.data[p.2.toNat]?)) ⟨⟩ (qX v)) ⟨⟩ (int? j)) ⟨⟩ (val σ y)) ⟨⟩ (val σ x):=by
 simp only [bZ,dQ,aQ]
 refine cZ fun v=>cZ fun j=>cZ fun p=>?_
 cases v with
 | agg l=>exact bX
 | one p=>cases p with
  | f a =>
   cases a with
   | str s=>simp only [qX,bB,bM,aQ,one]
   | _=>exact bX
  | _=>exact bX
@[go_sem ↓] theorem aho {i:Nat}:W k u (bZ Γ q σ d (.ext x i)) ↔ W (fun v=>W (fun l=>W (fun w=>k (.c w,σ)) ⟨⟩ (l[i]?)) ⟨⟩ (V4 v)) ⟨⟩ (sP σ x):=by
 simp only [bZ,dQ]
 cases sP σ x with
 | none=>exact bX
 | some v =>
  rw [bB]
  cases v with
  | c y=>exact bX
  | uQ l=>simp only [V4,bB,bU]
@[go_sem ↓] theorem afq : W k u (bZ Γ q σ d (.xG x)) ↔ W (fun v=>W (fun s=>k (.c (.one (.f (.int .i64 s.size))),σ)) ⟨⟩ (qX v)) ⟨⟩ (val σ x):=by
 simp only [bZ,dQ,aQ]
 refine cZ fun v=>?_
 cases v with
 | agg l=>exact bX
 | one p=>cases p with
  | f a=>cases a <;> first | exact bX | exact lS ajj
  | _=>exact bX
def QH (σ:St):CV → Option Nat
 | .one .fq=>some 0
 | .one (.mp key)=>(oM σ key).map fun o=>o.2.length
 | _=>none
@[go_sem] theorem aay : QH σ (.one .fq) = some 0:=rfl
@[go_sem] theorem adf {key:Nat}:QH σ (.one (.mp key)) = (oM σ key).map fun o=>o.2.length:=rfl
def QI : CV → Option Nat
 | .one (.f (.sl rows))=>some rows.length
 | .one .bY=>some 0
 | .one (.own _ n)=>some n
 | _=>none
@[go_sem] theorem afr {rows:List (List FV)}:QI (.one (.f (.sl rows))) = some rows.length:=rfl
@[go_sem] theorem afs : QI (.one .bY) = some 0:=rfl
@[go_sem] theorem aft {k n:Nat}:QI (.one (.own k n)) = some n:=rfl
@[go_sem ↓] theorem afu : W k u (bZ Γ q σ d (.iJ x)) ↔ W (fun v=>W (fun n:Nat=>k (.c (.one (.f (.int .i64 (n:Int)))),σ)) ⟨⟩ (QI v)) ⟨⟩ (val σ x):=by
 simp only [bZ,dQ,aQ]
 refine cZ fun v=>?_
 cases v with
 | agg l=>exact bX
 | one p=>cases p with
  | f a=>cases a <;> first | exact bX | exact lS ajj
  | _=>first | exact bX | exact lS ajj
@[go_sem ↓] theorem afv {neg:Bool}:W k u (bZ Γ q σ d (.zR neg x)) ↔ W (fun v=>W (fun b=>k (.c (.one (.f (.bool (if neg then !b else b)))),σ)) ⟨⟩ (V5 v)) ⟨⟩ (val σ x):=by
 simp only [bZ,dQ,aQ]
 refine cZ fun v=>?_
 cases v with
 | agg l=>exact bX
 | one p=>cases p with
  | f a =>
   cases a with
   | sl rows=>cases rows <;> first | exact bX | (cases neg <;> exact lS ajj)
   | _=>exact bX
  | bY=>cases neg <;> exact lS ajj
  | _=>exact bX
end
end
section
open Go
section
variable {Γ : Env} {F d:Nat} {q:Bool} {σ:St} {k:PV × St → Prop} {u:Tok k} {x y z:dM}
def M7 (σ:St) (sh:KS):CV → Option (Option (Nat × List (KV × FC)))
 | .one .fq=>some none
 | .one (.mp key)=>(oM σ key).bind fun o=>if o.1 = sh then some (some (key,o.2)) else none
 | _=>none
@[go_sem] theorem aaz {sh:KS}:M7 σ sh (.one .fq) = some none:=rfl
section
variable {k : Option (Nat × List (KV × FC)) → Prop} {u:Tok k}
@[go_sem ↓] theorem afw {sh:KS} {key:Nat}:W k u (M7 σ sh (.one (.mp key))) ↔ W (fun o=>o.1 = sh ∧ k (some (key,o.2))) ⟨⟩ (oM σ key):=by
 simp only [M7,dQ,aQ,bM,bB]
end
def sU (m:Option (Nat × List (KV × FC))) (a:KV):Option FC:=m.bind fun m=>sK m.2 a
def cnt (m:Option (Nat × List (KV × FC))):Nat:=match m with
 | none=>0
 | some m=>m.2.length
@[go_sem] theorem aaA {a:KV}:sU none a = none:=rfl
@[go_sem] theorem aaB {key:Nat} {l:List (KV × FC)} {a:KV}:sU (some (key,l)) a = sK l a:=rfl
@[go_sem] theorem aaC : cnt none = 0:=rfl
@[go_sem] theorem aaD {key:Nat} {l:List (KV × FC)}:cnt (some (key,l)) = l.length:=rfl
def lkv (z:FC) (ok:Bool) (r:Option FC):PV:=if ok then .uQ [xJ (r.getD z),.one (.f (.bool r.isSome))] else .c (xJ (r.getD z))
@[go_sem] theorem afx {z:FC} {r:Option FC}:lkv z true r = .uQ [xJ (r.getD z),.one (.f (.bool r.isSome))]:=rfl
@[go_sem] theorem afy {z:FC} {r:Option FC}:lkv z false r = .c (xJ (r.getD z)):=rfl
@[go_sem] theorem aaE {x:FV}:xJ (.one x) = .one (.f x):=rfl
@[go_sem] theorem aaF {xs:List FV}:xJ (.agg xs) = .agg (xs.map .f):=rfl
@[go_sem ↓] theorem afz {sh:KS} {z:FC} {ok:Bool}:W k u (bZ Γ q σ d (.look sh z ok x y)) ↔ W (fun v=>W (fun w=>W (fun a=>a.ks = sh ∧ W (fun m=>k (lkv z ok (sU m a),σ)) ⟨⟩ (M7 σ sh v)) ⟨⟩ (keyOf w)) ⟨⟩ (val σ y)) ⟨⟩ (val σ x):=by
 simp only [bZ,dQ,aQ,dw,bU,ne_eq,ajU]
 refine cZ fun v=>cZ fun w=>cZ fun a=>aku ajj ?_
 cases v with
 | agg l=>exact bX
 | one p =>
  cases p with
  | fq=>exact lS ajj
  | mp key =>
   simp only [M7,oM]
   cases get σ.ob key with
   | none=>exact bX
   | some o =>
    cases o with
    | map sh' ents =>
     simp only [om,Option.bind_some]
     by_cases hs:sh' = sh
     ·rw [ajd hs,ajd hs];exact lS (by cases ok <;> exact ajj)
     ·rw [aje hs,aje hs];exact bX
    | _=>exact bX
  | _=>exact bX
@[go_sem ↓] theorem afA : W k u (bZ Γ q σ d (.JX x)) ↔ W (fun v=>W (fun n:Nat=>k (.c (.one (.f (.int .i64 (n:Int)))),σ)) ⟨⟩ (QH σ v)) ⟨⟩ (val σ x):=by
 simp only [bZ,dQ,aQ]
 refine cZ fun v=>?_
 cases v with
 | agg l=>exact bX
 | one p =>
  cases p with
  | fq=>exact lS ajj
  | mp key =>
   simp only [QH,oM]
   cases get σ.ob key with
   | none=>exact bX
   | some o=>cases o <;> first | exact bX | exact lS ajj
  | _=>exact bX
def upv (σ:St) (sh:KS) (a:KV) (p:FC × St):CV → Option St
 | .one (.mp key)=>(oM p.2 key).bind fun o=>if o.1 = sh then some (jy p.2 key (.map sh (xI o.2 a p.1))) else none
 | _=>none
@[go_sem ↓] theorem afB {sh:KS}:W k u (bZ Γ q σ d (.xE sh x y z)) ↔ W (fun v=>W (fun w=>W (fun a=>a.ks = sh ∧ W (fun w=>(q && (cells w).any gB) = false ∧ W (fun p=>W (fun s=>k (.c (.one .und),s)) ⟨⟩ (upv σ sh a p v)) ⟨⟩ (Yj σ w)) ⟨⟩ (val σ z)) ⟨⟩ (keyOf w)) ⟨⟩ (val σ y)) ⟨⟩ (val σ x):=by
 simp only [bZ,dQ,aQ,dw,ne_eq,ajU,akb]
 refine cZ fun v=>cZ fun w=>cZ fun a=>aku ajj (cZ fun w=>aku ajj (cZ fun p=>?_))
 cases v with
 | agg l=>exact bX
 | one b =>
  cases b with
  | mp key =>
   simp only [upv,oM]
   cases get p.2.ob key with
   | none=>exact bX
   | some o =>
    cases o with
    | map sh' ents =>
     simp only [om,Option.bind_some]
     split
     ·exact lS ajj
     ·exact bX
    | _=>exact bX
  | _=>exact bX
section
variable {k : St → Prop} {u:Tok k} {sh:KS} {a:KV} {key:Nat}
@[go_sem ↓] theorem ahp {p:FC × St}:W k u (upv σ sh a p (.one (.mp key))) ↔ W (fun o=>o.1 = sh ∧ k (jy p.2 key (.map sh (xI o.2 a p.1)))) ⟨⟩ (oM p.2 key):=by
 simp only [upv,dQ,aQ,bM,bB]
end
def dlv (σ:St) (sh:KS) (a:KV):CV → Option St
 | .one .fq=>some σ
 | .one (.mp key)=>(oM σ key).bind fun o=>if o.1 = sh then some (jy σ key (.map sh (BZ o.2 a))) else none
 | _=>none
@[go_sem] theorem adg {sh:KS} {a:KV}:dlv σ sh a (.one .fq) = some σ:=rfl
section
variable {k : St → Prop} {u:Tok k} {sh:KS} {a:KV} {key:Nat}
@[go_sem ↓] theorem ahq : W k u (dlv σ sh a (.one (.mp key))) ↔ W (fun o=>o.1 = sh ∧ k (jy σ key (.map sh (BZ o.2 a)))) ⟨⟩ (oM σ key):=by
 simp only [dlv,dQ,aQ,bM,bB]
end
@[go_sem ↓] theorem ahr {sh:KS}:W k u (bZ Γ q σ d (.del sh x y)) ↔ W (fun v=>W (fun w=>W (fun a=>a.ks = sh ∧ W (fun s=>k (.uQ [],s)) ⟨⟩ (dlv σ sh a v)) ⟨⟩ (keyOf w)) ⟨⟩ (val σ y)) ⟨⟩ (val σ x):=by
 simp only [bZ,dQ,aQ,dw,ne_eq,ajU]
 refine cZ fun v=>cZ fun w=>cZ fun a=>aku ajj ?_
 cases v with
 | agg l=>exact bX
 | one b =>
  cases b with
  | fq=>exact lS ajj
  | mp key =>
   simp only [dlv,oM]
   cases get σ.ob key with
   | none=>exact bX
   | some o =>
    cases o with
    | map sh' ents =>
     simp only [om,Option.bind_some]
     split
     ·exact lS ajj
     ·exact bX
    | _=>exact bX
  | _=>exact bX
def YD (σ:St):CV → Option (List (List FV))
 | .one .bY=>some []
 | .one (.f (.sl rows))=>some rows
 | .one (.own key _)=>(iK σ key).map (·.2)
 | _=>none
@[go_sem] theorem ahs : YD σ (.one .bY) = some []:=rfl
@[go_sem] theorem aht {rows:List (List FV)}:YD σ (.one (.f (.sl rows))) = some rows:=rfl
@[go_sem] theorem ahu {key n:Nat}:YD σ (.one (.own key n)) = (iK σ key).map (·.2):=rfl
def YE (q:Bool) (σ:St) (d sz bytes:Nat) (w:CV) (EJ:List (List FV)):CV → Option (PV × St)
 | .one .bY=>if q = false ∧ EJ.length * bytes ≤ 140737488355328 ∧ EJ.all (fun r=>r.length == sz) then (new σ (dA d) (.row sz EJ)).map fun s=>(.c (.one (.own (dA d) EJ.length)),s) else none
 | .one (.own key n)=>(iK σ key).bind fun o=>if q = false ∧ (o.2.length + EJ.length) * bytes ≤ 140737488355328 ∧ o.1 = sz ∧ n = o.2.length ∧ vO key w = false ∧ key % 2 = 0 ∧ EJ.all (fun r=>r.length == sz) then
   some (.c (.one (.own key (o.2.length + EJ.length))),jy (sub σ key .any) key (.row sz (o.2 ++ EJ))) else none
 | _=>none
@[go_sem ↓] theorem ahv {e:TypeId} {sz bytes:Nat}:W k u (bZ Γ q σ d (.app e sz bytes x y)) ↔ W (fun v=>W (fun w=>W (fun l=>W k ⟨⟩ (YE q σ d sz bytes w l v)) ⟨⟩ (YD σ w)) ⟨⟩ (val σ y)) ⟨⟩ (val σ x):=by
 simp only [bZ,dQ,aQ]
 refine cZ fun v=>cZ fun w=>?_
 have e:qA σ w = YD σ w:=by
  cases w with
  | agg l=>rfl
  | one p=>cases p with
   | f a=>cases a <;> rfl
   | own key n=>simp only [qA,YD,iK];cases get σ.ob key with | none=>rfl | some o=>cases o <;> rfl
   | _=>rfl
 rw [e]
 refine cZ fun l=>?_
 cases v with
 | agg l=>exact bX
 | one p =>
  cases p with
  | bY=>exact ajj
  | own key n =>
   simp only [YE,iK]
   cases get σ.ob key with
   | none=>exact bX
   | some o=>cases o <;> exact ajj
  | _=>exact bX
@[go_sem ↓] theorem adh {sz bytes:Nat} {w:CV} {l:List (List FV)}:W k u (YE q σ d sz bytes w l (.one .bY)) ↔ (q = false ∧ l.length * bytes ≤ 140737488355328 ∧ l.all (fun r=>r.length == sz) = true) ∧ W (fun s=>k (.c (.one (.own (dA d) l.length)),s)) ⟨⟩ (new σ (dA d) (.row sz l)):=by
 simp only [YE,dQ,bM,bU]
@[go_sem ↓] theorem adi {sz bytes key n:Nat} {w:CV} {l:List (List FV)}:W k u (YE q σ d sz bytes w l (.one (.own key n))) ↔ W (fun o=>(q = false ∧ (o.2.length + l.length) * bytes ≤ 140737488355328 ∧ o.1 = sz ∧ n = o.2.length ∧ vO key w = false ∧ key % 2 = 0 ∧ l.all (fun r=>r.length == sz) = true) ∧ k (.c (.one (.own key (o.2.length + l.length))),jy (sub σ key .any) key (.row sz (o.2 ++ l)))) ⟨⟩ (iK σ key):=by
 simp only [YE,dQ,aQ,bM,bB]
def cov (σ:St) (sz:Nat) (i:Int):CV → Option (PV × St)
 | .one (.own key n)=>(iK σ key).bind fun o=>if o.1 = sz ∧ key % 2 = 0 ∧ 0 ≤ i ∧ i ≤ o.2.length then some (.c (.one (.own key i.toNat)),jy (sub σ key .any) key (.row sz (o.2.take i.toNat))) else none
 | _=>none
@[go_sem ↓] theorem afC {sz:Nat}:W k u (bZ Γ q σ d (.D7 sz x y)) ↔ q = false ∧ W (fun v=>W (fun j=>W (fun p=>W k ⟨⟩ (cov σ sz p.2 v)) ⟨⟩ (int? j)) ⟨⟩ (val σ y)) ⟨⟩ (val σ x):=by
 simp only [bZ,dQ,aQ,dw,akb]
 refine aku ajj (cZ fun v=>cZ fun j=>cZ fun p=>?_)
 cases v with
 | agg l=>exact bX
 | one b =>
  cases b with
  | own key n =>
   simp only [cov,iK]
   cases get σ.ob key with
   | none=>exact bX
   | some o=>cases o <;> exact ajj
  | _=>exact bX
@[go_sem ↓] theorem ahw {sz key n:Nat} {i:Int}:W k u (cov σ sz i (.one (.own key n))) ↔ W (fun o=>(o.1 = sz ∧ key % 2 = 0 ∧ 0 ≤ i ∧ i ≤ (o.2.length:Int)) ∧ k (.c (.one (.own key i.toNat)),jy (sub σ key .any) key (.row sz (o.2.take i.toNat)))) ⟨⟩ (iK σ key):=by
 simp only [cov,dQ,aQ,bM,bB]
def cvv (σ:St) (sz:Nat) (i:Int):CV → Option PL
 | .one (.own key n)=>(iK σ key).bind fun o=>if o.1 = sz ∧ 0 ≤ i ∧ i ≤ o.2.length then some (.vw key sz o.2.length i.toNat) else none
 | _=>none
@[go_sem ↓] theorem afD {sz:Nat}:W k u (bZ Γ q σ d (.cutV sz x y)) ↔ W (fun v=>W (fun j=>W (fun p=>W (fun l=>k (.c (.one l),σ)) ⟨⟩ (cvv σ sz p.2 v)) ⟨⟩ (int? j)) ⟨⟩ (val σ y)) ⟨⟩ (val σ x):=by
 simp only [bZ,dQ,aQ]
 refine cZ fun v=>cZ fun j=>cZ fun p=>?_
 cases v with
 | agg l=>exact bX
 | one b =>
  cases b with
  | own key n =>
   simp only [cvv,iK]
   cases get σ.ob key with
   | none=>exact bX
   | some o =>
    cases o with
    | row sz' rows=>simp only [M6,Option.bind_some,bM,bB]
    | _=>exact bX
  | _=>exact bX
section
variable {k : PL → Prop} {u:Tok k}
@[go_sem ↓] theorem ahx {sz key n:Nat} {i:Int}:W k u (cvv σ sz i (.one (.own key n))) ↔ W (fun o=>(o.1 = sz ∧ 0 ≤ i ∧ i ≤ (o.2.length:Int)) ∧ k (.vw key sz o.2.length i.toNat)) ⟨⟩ (iK σ key):=by
 simp only [cvv,dQ,aQ,bM,bB]
end
def vw? : CV → Option (Nat × Nat × Nat × Nat)
 | .one (.vw key z n lo)=>some (key,z,n,lo)
 | _=>none
@[go_sem] theorem afE {a b c e:Nat}:vw? (.one (.vw a b c e)) = some (a,b,c,e):=rfl
@[go_sem ↓] theorem ahy {sz:Nat} {zs:List FV}:W k u (bZ Γ q σ d (.TI sz zs x)) ↔ W (fun v=>W (fun p=>W (fun o=>(o.1 = sz ∧ p.2.1 = sz ∧ zs.length = sz ∧ p.2.2.1 = o.2.length ∧ p.2.2.2 ≤ p.2.2.1) ∧ k (.uQ [],jy σ p.1 (.row sz (o.2.take p.2.2.2 ++ List.replicate (p.2.2.1 - p.2.2.2) zs)))) ⟨⟩ (iK σ p.1)) ⟨⟩ (vw? v)) ⟨⟩ (val σ x):=by
 simp only [bZ,dQ,aQ]
 refine cZ fun v=>?_
 cases v with
 | agg l=>exact bX
 | one b =>
  cases b with
  | vw key z n lo =>
   simp only [vw?,bB,iK]
   cases get σ.ob key with
   | none=>exact bX
   | some o =>
    cases o with
    | row sz' rows=>simp only [M6,bM,bB]
    | _=>exact bX
  | _=>exact bX
def TW (σ:St):CV → Option (List (List FV))
 | .one (.f (.sl rows))=>some rows
 | .one .bY=>some []
 | .one (.own key _)=>(iK σ key).bind fun o=>if o.1 = 1 then some o.2 else none
 | _=>none
@[go_sem] theorem ahz {rows:List (List FV)}:TW σ (.one (.f (.sl rows))) = some rows:=rfl
@[go_sem] theorem ahA : TW σ (.one .bY) = some []:=rfl
@[go_sem] theorem TY : bytesOf [] = some ⟨#[]⟩:=rfl
@[go_sem] theorem QJ {n:Int} {l:List (List FV)}:bytesOf ([.int .u8 n] :: l) = (bytesOf l).map fun s=>⟨#[UInt8.ofNat n.toNat] ++ s.data⟩:=rfl
section
variable {k : List (List FV) → Prop} {u:Tok k}
@[go_sem ↓] theorem ahB {key n:Nat}:W k u (TW σ (.one (.own key n))) ↔ W (fun o=>o.1 = 1 ∧ k o.2) ⟨⟩ (iK σ key):=by
 simp only [TW,dQ,aQ,bM,bB]
end
@[go_sem ↓] theorem ahC : W k u (bZ Γ q σ d (.Yh x)) ↔ W (fun v=>W (fun l=>W (fun s=>k (.c (.one (.f (.str s))),σ)) ⟨⟩ (bytesOf l)) ⟨⟩ (TW σ v)) ⟨⟩ (val σ x):=by
 simp only [bZ,dQ,aQ]
 refine cZ fun v=>?_
 cases v with
 | agg l=>exact bX
 | one b =>
  cases b with
  | f a =>
   cases a with
   | sl rows=>simp only [TW,aQ,bB,one]
   | _=>exact bX
  | bY=>simp only [TW,bB,bytesOf,one]
  | own key n =>
   simp only [TW,iK]
   cases get σ.ob key with
   | none=>exact bX
   | some o =>
    cases o with
    | row sz' rows=>simp only [M6,Option.bind_some,bM,aQ,bB,one]
    | _=>exact bX
  | _=>exact bX
@[go_sem ↓] theorem ahD {f:FuncId} {xs:List dM}:W k u (bZ Γ q σ d (.P9 f xs)) ↔ W (fun l=>W (fun p=>k (.c (.one (.fn f p.1)),p.2)) ⟨⟩ (lY q σ l)) ⟨⟩ (jv σ xs):=by
 simp only [bZ,dQ,aQ,bU]
@[go_sem ↓] theorem afF {f:FuncId} {xs:List dM}:W k u (bZ Γ q σ d (.zQ f xs)) ↔ W (fun l=>W (fun dR=>W (fun r=>W (fun p=>W (fun s=>k (.c (.one (.own (dA d) p.2.length)),s)) ⟨⟩ (new σ (dA d) (.row p.1 p.2))) ⟨⟩ (Vl r.1)) ⟨⟩ (Γ f dR)) ⟨⟩ (LJ l)) ⟨⟩ (jv σ xs):=by
 simp only [bZ,sO,dQ,aQ,bU]
attribute [go_sem] avT Qd avC LJ
@[go_sem] theorem aaG {sz:Nat} {rows:List (List FV)}:Vl [.one (.own sz rows)] = some (sz,rows):=rfl
@[go_sem ↓] theorem adj {gv:Bool} {f:FuncId} {xs:List dM}:W k u (bZ Γ q σ d (.call gv f xs)) ↔ W (fun l=>W k ⟨⟩ (kS Γ gv q σ d f l)) ⟨⟩ (jv σ xs):=by
 simp only [bZ,dQ,aQ]
def fn? : CV → Option (FuncId × List (List FV))
 | .one (.fn f caps)=>some (f,caps)
 | _=>none
@[go_sem] theorem afG {f:FuncId} {caps:List (List FV)}:fn? (.one (.fn f caps)) = some (f,caps):=rfl
@[go_sem ↓] theorem ahE {xs:List dM}:W k u (bZ Γ q σ d (.dyn x xs)) ↔ W (fun v=>W (fun p=>W (fun l=>W k ⟨⟩ (kS Γ false q σ d p.1 (l ++ p.2.map fun c=>.one (.fp c)))) ⟨⟩ (jv σ xs)) ⟨⟩ (fn? v)) ⟨⟩ (val σ x):=by
 simp only [bZ,dQ,aQ]
 refine cZ fun v=>?_
 cases v with
 | agg l=>exact bX
 | one b =>
  cases b with
  | fn f caps=>simp only [fn?,bB,aQ]
  | _=>exact bX
def GL (gv:Bool) (args:List CV) (p:List AV × St) (r:List AV × List AV):Option St:=if (!gv && ((r.1.any wK || !p.1.all fI) && args.any (fun x=>(cells x).any gB))) = true then sN p.2 args else some p.2
def GN (d:Nat) (σ:St) (args:List CV) (p:List AV × St) (r:List AV × List AV) (s:St):Option St:=if p.1.all fI = true then some s else zT σ (args.flatMap cells) (dA d + 10000) s args r.2
@[go_sem ↓] theorem aaH {gv:Bool} {f:FuncId} {args:List CV}:W k u (kS Γ gv q σ d f args) ↔ W (fun p=>W (fun r0=>W (fun r=>((q && !(p.1.all fI && r.1.all fI)) = false ∧ (q && ((r.1.any wK || !p.1.all fI) && args.any (fun x=>(cells x).any gB))) = false) ∧
  W (fun s=>W (fun s=>W (fun v=>k (J3 v.1,v.2)) ⟨⟩ (xM (dA d) 0 [] s r.1)) ⟨⟩ (GN d σ args p r s)) ⟨⟩ (GL gv args p r)) ⟨⟩ (some (Vk q r0))) ⟨⟩ (Γ f p.1)) ⟨⟩ (sM gv σ args):=by
 simp only [kS,dQ,aQ,dw,bU,bB,GL,GN,akb,and_assoc]
@[go_sem] theorem afH {r:List AV × List AV}:Vk false r = r:=rfl
@[go_sem] theorem adk {r:List AV × List AV}:Vk true r = (r.1.map Qc,r.2):=rfl
@[go_sem] theorem adl {sz:Nat} {rows:List (List FV)}:Qc (.one (.own sz rows)) = .one (.f (.sl rows)):=rfl
@[go_sem] theorem ahF {x:FV}:Qc (.one (.f x)) = .one (.f x):=rfl
@[go_sem] theorem adn {xs:List TV}:Qc (.agg xs) = .agg xs:=rfl
@[go_sem] theorem ado {xs:List CL}:Qc (.one (.ptr xs)) = .one (.ptr xs):=rfl
end
section
variable {Γ : Env} {F:Nat} {k:List AV × List AV → Prop} {u:Tok k} {cf:CF} {dR:List AV}
@[go_sem ↓] theorem ahG : W k u (J4 Γ F cf dR) ↔ dR.length = cf.np ∧ W (fun e=>W (fun p=>(∀ id,p.1 ≠ .ext id) ∧ W (fun b=>W (fun l=>W (fun r=>k (r.1,b.1)) ⟨⟩ (mH cf.ro b.2 l)) ⟨⟩ (slots b.2 cf.res)) ⟨⟩ (j4 p.2 e.1 dR)) ⟨⟩ (ev Γ F cf.body e.2)) ⟨⟩ (enter cf.bo 0 [] ⟨[],[]⟩ dR):=by
 simp only [J4,dQ,dw,aQ,ne_eq,ajU]
 refine aku ajj (cZ fun e=>cZ fun p=>?_)
 obtain ⟨o,s⟩:=p
 cases o with
 | ext id=>simp [jB]
 | _=>simp [aQ,bU]
@[go_sem] theorem adp : (∀ id,Out.jf ≠ .ext id) ↔ True:=by simp
@[go_sem] theorem adq : (∀ id,Out.ret ≠ .ext id) ↔ True:=by simp
@[go_sem] theorem ads {i:Nat}:(∀ id,Out.ext i ≠ .ext id) ↔ False:=by simp
end
end
end Go.Proofs.YtfokaoeinpnagaaGreat.Ev

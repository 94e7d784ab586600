/- A part of the proof of SeekRoots: cut, joined and given short names by a program of this session (wip/tools/pack.py); Lean checks it. No condition. -/
import Derived.Test.YtfokaoeinpnagaaPSRtsg
import Derived.Test.YtfokaoeinpnagaaPSRtsh
import Derived.Deep.RegionHeld3
import Derived.WalkSpells
import Derived.Test.YtfokaoeinpnagaaPSRtse
import Derived.ProofKit
import Derived.OpenShut
import Derived.SizedLaws
import Derived.ChangeArms
import Derived.ChangeSlices
import Derived.Carry
import Derived.Test.YtfokaoeinpnagaaPSRtsf
import Derived.Test.YtfokaoeinpnagaaPSRtsd
set_option linter.unusedSectionVars false
set_option linter.unusedSimpArgs false
set_option linter.unusedVariables false
set_option maxHeartbeats 16000000
set_option maxRecDepth 100000
namespace Go.Proofs.Ytfokaoeinpnagaa.ZQ
section
open Go.RowKit Go.Proofs.YtfokaoeinpnagaaW.aR Go.Proofs.YtfokaoeinpnagaaW.dD Go.Proofs.YtfokaoeinpnagaaW.eB
attribute [local go_sem] jD jE kN kP iV iW jF jG
def bQ.agg (a b c:Int):Value:=.agg #[.int .i64 a,.int .i64 b,.int .i64 c]
def bQ.tab : List (Int × Value):=[(1,bQ.agg 4 0 0),(28,bQ.agg 16 0 0),(2,bQ.agg 0 1 0),(5,bQ.agg 0 1 0),(12,bQ.agg 0 1 0),(6,bQ.agg 0 2 20),(15,bQ.agg 2 1 0),(33,bQ.agg 6 1 0)]
theorem bQ.calls (w:World):Calls Try.prog 74 #[] w fun e w'=>∃ g,e = .returned (.map (some g)) ∧ Mi.In w.heap.size w w' g bQ.tab:=by
 have hmm:=@run_makeMap Try.prog
 have hi:=ah.mk (Mi.In.made (w:=w))
 generalize hg:w.heap.size = g at hi
 have hg':=ah.mk hg
 go_enter Try.func74,Try.ntmps74
 go_wp2_with (first | (refine Mi.Et 143 _ _ _ rfl ?_;refine Mi.aaJ _ rfl _ _ _ 143 rfl 3 141 Try.underlying143 Try.underlying3 _ _ rfl (ah.out (by assumption)) _ _ rfl rfl rfl ?_;clear hi;intro w1 hi))
 go_ret
 exact ⟨g,rfl,hi.out⟩
def bM.l0 : Nat → ByteArray → Int → Int → Int → Int → Int → Int → Int → ByteArray → ByteArray → List ByteArray → Option (ByteArray × ByteArray × List ByteArray × Bool)
 | 0,_,_,_,_,_,_,_,_,_,_,_=>none
 | k + 1,x0,x1,x2,x37,x38,QH,QI,Ik,Il,QJ,Cn=>if x38 < x37 then ((aX.f k x0 x1).bind fun Im=>(if Im.2.2 = 0 then (if Im.2.1 > x2 then (some ((⟨#[]⟩:ByteArray),(⟨#[]⟩:ByteArray),([]:List ByteArray),false)) else (if Cn.length < 8796093022208 then (bM.l0 k x0 Im.2.1 x2 x37 (wrap64 (x38 + 1)) QH QI Ik Il QJ (Cn ++ [Im.1])) else (none))) else (some ((⟨#[]⟩:ByteArray),(⟨#[]⟩:ByteArray),([]:List ByteArray),false)))) else (if 0 ≤ x1 then (if x1 ≤ x2 then (if x2 ≤ (x0.size:Int) then (some (Il,x0.extract (x1:Int).toNat (x2:Int).toNat,Cn,(((x0.extract (x1:Int).toNat (x2:Int).toNat).size:Int) == Ik))) else (none)) else (none)) else (none))
def bM.f (k:Nat) (a0:ByteArray) (a1:Int) (a2:Int) (eD:Int) (iM:Int) (jQ:Int):Option (ByteArray × ByteArray × List ByteArray × Bool):=if (eD ≤ (wrap64 (a2 - a1))) then (if 0 ≤ a1 then (if a1 ≤ (wrap64 (a1 + eD)) then (if (wrap64 (a1 + eD)) ≤ (a0.size:Int) then (bM.l0 k a0 (wrap64 (a1 + eD)) a2 iM 0 eD iM jQ (a0.extract (a1:Int).toNat ((wrap64 (a1 + eD)):Int).toNat) (⟨#[]⟩:ByteArray) ([]:List ByteArray)) else (none)) else (none)) else (none)) else (some ((⟨#[]⟩:ByteArray),(⟨#[]⟩:ByteArray),([]:List ByteArray),false))
def bM.T15 : Bool × List (List Nat × List Nat):=(true,[([],[]),([],[]),([1],[1]),([2],[2]),([],[]),([4],[4]),([3,5],[3,5]),([0,0],[0]),([6,7,0,1,2,3,4,5,6,7],[6])])
def bM.B15 : List Nat:=[0,0,2,6,0,16,62,1,255]
theorem bM.aaK : mR .any (opsOf Try.f75 15) = bM.T15:=by kernel_rfl
theorem bM.VY : ql bM.T15.2 bM.B15 = true:=by kernel_rfl
theorem bM.calls (k:Nat) (a0:ByteArray) (a1:Int) (a2:Int) (eD:Int) (iM:Int) (jQ:Int) (r1:ByteArray) (r2:ByteArray) (r3:List ByteArray) (r4:Bool) (w:World) (h:bM.f k a0 a1 a2 eD iM jQ = some (r1,r2,r3,r4)) :
  Calls Try.prog 75 #[.string a0,.int .i64 a1,.int .i64 a2,.agg #[.int .i64 eD,.int .i64 iM,.int .i64 jQ]] w fun e w'=>∃ v2_:Value,e = .returned (.tuple #[.agg #[.string r1,.string r2,v2_],.bool r4]) ∧ Kd.R Kd.string 9 w' w.heap.size (fun _=>True) v2_ r3 ∧ Below w.heap.size w w':=by
 have agE:=Try.underlying141
 have aaL:=Try.underlying115
 have HB:=ah.mk (Below.refl w.heap.size w)
 have H:(if (eD ≤ (wrap64 (a2 - a1))) then (if 0 ≤ a1 then (if a1 ≤ (wrap64 (a1 + eD)) then (if (wrap64 (a1 + eD)) ≤ (a0.size:Int) then (bM.l0 k a0 (wrap64 (a1 + eD)) a2 iM 0 eD iM jQ (a0.extract (a1:Int).toNat ((wrap64 (a1 + eD)):Int).toNat) (⟨#[]⟩:ByteArray) ([]:List ByteArray)) else (none)) else (none)) else (none)) else (some ((⟨#[]⟩:ByteArray),(⟨#[]⟩:ByteArray),([]:List ByteArray),false))) = some (r1,r2,r3,r4):=h
 clear h
 by_cases c5:(eD ≤ (wrap64 (a2 - a1)))
 ·rw [ahC c5] at H
  have JF:decide (eD ≤ (wrap64 (a2 - a1))) = true:=ahE c5
  (try (have QK:decide (eD ≤ ((a2 - a1))) = true:=by have h_:decide (eD ≤ (wrap64 (a2 - a1))) = true:=ahE c5;rw [B.jH (by omega) (by omega)] at h_;exact h_))
  clear c5
  by_cases c6:0 ≤ a1
  ·rw [ahC c6] at H
   have F9:=ahM c6
   have JA:decide (0 ≤ a1) = true:=ahE c6
   clear c6
   by_cases c7:a1 ≤ (wrap64 (a1 + eD))
   ·rw [ahC c7] at H
    have ae7:=ahM c7
    have ae8:decide (a1 ≤ (wrap64 (a1 + eD))) = true:=ahE c7
    by_cases c8:(wrap64 (a1 + eD)) ≤ (a0.size:Int)
    ·rw [ahC c8] at H
     have JB:=ahM c8
     have JC:decide ((wrap64 (a1 + eD)) ≤ (a0.size:Int)) = true:=ahE c8
     have H':=ah.mk H
     clear H
     go_enter Try.func75,Try.ntmps75
     go_wp2_with (first | ((with_reducible refine mg (N:=7) rfl ?_);refine kK ?hg (N:=7) ?hd (cs:=#[.int .i64 eD,.int .i64 iM,.int .i64 jQ]) (t:=141) ?hr ?_;(case hd=>rfl);(case hg=>rfl);(case hr=>first | (go_simp;done) | (go_simp;rfl));intro fG hg w9 nM hb;have iH:=ah.mk (dA (by repeat first | exact HB.out | apply ak | apply aj | apply av) hb);have ko:=ah.mk (nM);have oD:=ah.mk ((by rw [hg];exact (dJ (by repeat first | exact HB.out | apply ak | apply aj | apply av)):w.heap.size ≤ fG));have oF:=ah.mk ((by rw [hg];exact (dJ (by repeat first | exact HB.out | apply ak | apply aj | apply av)):w.heap.size ≤ fG));clear HB;have HB:=iH;have dx:=ko;have aaM:=oD;have iT:=oF;clear iH ko oD oF;clear hb nM hg) | ((with_reducible refine mg (N:=8) rfl ?_);refine kK ?hg (N:=8) ?hd (cs:=#[.string (⟨#[]⟩:ByteArray),.string (⟨#[]⟩:ByteArray),.slice none 0 0]) (t:=115) ?hr ?_;(case hd=>rfl);(case hg=>rfl);(case hr=>first | (go_simp;done) | (go_simp;rfl));intro dw hg w10 nM hb;have iH:=ah.mk (dR (g:=fG) (o:=.cells #[.int .i64 eD,.int .i64 iM,.int .i64 jQ] 141 (0,0)) (by (with_reducible repeat (first | refine aM ?_ _ | refine aQ ?_ | refine aJ ?_ _));exact dx.out) hb);have ko:=ah.mk (dA (by repeat (first | (with_reducible first | exact HB.out | apply ak | apply aj | apply av | refine aT ?_ iT.out) | exact HB.out)) hb);have oD:=ah.mk (nM);have oF:=ah.mk ((by rw [hg];exact (dJ (by repeat (first | (with_reducible first | exact HB.out | apply ak | apply aj | apply av | refine aT ?_ iT.out) | exact HB.out))):w.heap.size ≤ dw));have qF:=ah.mk ((by rw [hg];exact (dJ (by repeat (first | (with_reducible first | exact HB.out | apply ak | apply aj | apply av | refine aT ?_ iT.out) | exact HB.out))):w.heap.size ≤ dw));have NC:=ah.mk ((by rw [hg];exact Nat.ne_of_lt (jw (g:=fG) (o:=.cells #[.int .i64 eD,.int .i64 iM,.int .i64 jQ] 141 (0,0)) (by (with_reducible repeat (first | refine aM ?_ _ | refine aQ ?_ | refine aJ ?_ _));exact dx.out)):fG ≠ dw));have ND:=ah.mk ((by rw [hg];exact Nat.ne_of_gt (jw (g:=fG) (o:=.cells #[.int .i64 eD,.int .i64 iM,.int .i64 jQ] 141 (0,0)) (by (with_reducible repeat (first | refine aM ?_ _ | refine aQ ?_ | refine aJ ?_ _));exact dx.out)):dw ≠ fG));clear dx;clear HB;have dx:=iH;have HB:=ko;have dh:=oD;have aaN:=oF;have j6:=qF;have fB:=NC;have jV:=ND;clear iH ko oD oF qF NC ND;clear hb nM hg) | ((with_reducible refine mg (N:=10) rfl ?_);refine kK ?hg (N:=10) ?hd (cs:=#[.string (⟨#[]⟩:ByteArray),.string (⟨#[]⟩:ByteArray),.slice none 0 0]) (t:=115) ?hr ?_;(case hd=>rfl);(case hg=>rfl);(case hr=>first | (go_simp;done) | (go_simp;rfl));intro fA hg VR nM hb;have iH:=ah.mk (dR (g:=fG) (o:=.cells #[.int .i64 eD,.int .i64 iM,.int .i64 jQ] 141 (0,0)) (by (with_reducible repeat (first | refine aM ?_ _ | refine aQ ?_ | refine aJ ?_ _));exact dx.out) hb);have ko:=ah.mk (dR (g:=dw) (o:=.cells #[.string (⟨#[]⟩:ByteArray),.string (⟨#[]⟩:ByteArray),.slice none 0 0] 115 (0,0)) (by (with_reducible repeat (first | refine aM ?_ _ | refine aQ ?_ | refine aJ ?_ _));exact dh.out) hb);have oD:=ah.mk (dA (by repeat (first | (with_reducible first | exact HB.out | apply ak | apply aj | apply av | refine aT ?_ iT.out | refine aT ?_ j6.out) | exact HB.out)) hb);have oF:=ah.mk (nM);have qF:=ah.mk ((by rw [hg];exact (dJ (by repeat (first | (with_reducible first | exact HB.out | apply ak | apply aj | apply av | refine aT ?_ iT.out | refine aT ?_ j6.out) | exact HB.out))):w.heap.size ≤ fA));have NC:=ah.mk ((by rw [hg];exact (dJ (by repeat (first | (with_reducible first | exact HB.out | apply ak | apply aj | apply av | refine aT ?_ iT.out | refine aT ?_ j6.out) | exact HB.out))):w.heap.size ≤ fA));have ND:=ah.mk ((by rw [hg];exact Nat.ne_of_lt (jw (g:=fG) (o:=.cells #[.int .i64 eD,.int .i64 iM,.int .i64 jQ] 141 (0,0)) (by (with_reducible repeat (first | refine aM ?_ _ | refine aQ ?_ | refine aJ ?_ _));exact dx.out)):fG ≠ fA));have n7_:=ah.mk ((by rw [hg];exact Nat.ne_of_gt (jw (g:=fG) (o:=.cells #[.int .i64 eD,.int .i64 iM,.int .i64 jQ] 141 (0,0)) (by (with_reducible repeat (first | refine aM ?_ _ | refine aQ ?_ | refine aJ ?_ _));exact dx.out)):fA ≠ fG));have n8_:=ah.mk ((by rw [hg];exact Nat.ne_of_lt (jw (g:=dw) (o:=.cells #[.string (⟨#[]⟩:ByteArray),.string (⟨#[]⟩:ByteArray),.slice none 0 0] 115 (0,0)) (by (with_reducible repeat (first | refine aM ?_ _ | refine aQ ?_ | refine aJ ?_ _));exact dh.out)):dw ≠ fA));have n9_:=ah.mk ((by rw [hg];exact Nat.ne_of_gt (jw (g:=dw) (o:=.cells #[.string (⟨#[]⟩:ByteArray),.string (⟨#[]⟩:ByteArray),.slice none 0 0] 115 (0,0)) (by (with_reducible repeat (first | refine aM ?_ _ | refine aQ ?_ | refine aJ ?_ _));exact dh.out)):fA ≠ dw));clear dx;clear dh;clear HB;have dx:=iH;have dh:=ko;have HB:=oD;have dQ:=oF;have aaO:=qF;have nN:=NC;have jW:=ND;have nO:=n7_;have gK:=n8_;have eU:=n9_;clear iH ko oD oF qF NC ND n7_ n8_ n9_;clear hb nM hg;have agF:=fB.out;have agG:=jV.out;have agH:=jW.out;have agI:=nO.out;have QL:VR.cell? ⟨fG,0,none⟩ = some (.int .i64 eD):=(bJ dx.out 0).trans rfl;have QM:VR.cell? ⟨fG,1,none⟩ = some (.int .i64 iM):=(bJ dx.out 1).trans rfl;have QN:VR.cell? ⟨fG,2,none⟩ = some (.int .i64 jQ):=(bJ dx.out 2).trans rfl;have QO:=bE dx.out 0;have QS:=bE dx.out 1;have QT:=bE dx.out 2;have agJ:=eU.out;have agK:=gK.out;have QU:VR.cell? ⟨fA,0,none⟩ = some (.string (⟨#[]⟩:ByteArray)):=(bJ dQ.out 0).trans rfl;have QV:VR.cell? ⟨fA,1,none⟩ = some (.string (⟨#[]⟩:ByteArray)):=(bJ dQ.out 1).trans rfl;have QW:VR.cell? ⟨fA,2,none⟩ = some (.slice none 0 0):=(bJ dQ.out 2).trans rfl;have QX:=bE dQ.out 0;have QY:=bE dQ.out 1;have QZ:=bE dQ.out 2))
     go_loopg [1,38] k (fun kq v1 v38 w'=>∃ (kZ:Int) (tJ:Int) (gu:ByteArray) (fC:ByteArray) (gW:List ByteArray) (iN:Value),v1 = .int .i64 kZ ∧ v38 = .int .i64 tJ ∧ ah (bM.l0 kq a0 kZ a2 iM tJ eD iM jQ (a0.extract (a1:Int).toNat ((wrap64 (a1 + eD)):Int).toNat) (⟨#[]⟩:ByteArray) gW = some (r1,r2,r3,r4)) ∧ ah (kq ≤ k) ∧ ah (Kd.R Kd.string 9 w' w.heap.size (fun _=>True) iN gW) ∧ ah (w'.heap[fG]? = some (.cells #[.int .i64 eD,.int .i64 iM,.int .i64 jQ] 141 (0,0))) ∧ ah (w'.heap[dw]? = some (.cells #[.string gu,.string fC,(.slice none 0 0)] 115 (0,0))) ∧ ah (w'.heap[fA]? = some (.cells #[.string (a0.extract (a1:Int).toNat ((wrap64 (a1 + eD)):Int).toNat),.string (⟨#[]⟩:ByteArray),iN] 115 (0,0))) ∧ ah (Below w.heap.size w w'))
     case atStart=>exact ⟨(wrap64 (a1 + eD)),(0),((⟨#[]⟩:ByteArray)),((⟨#[]⟩:ByteArray)),(([]:List ByteArray)),(.slice none 0 0),(by first | rfl | (simp;done) | (simp [*];done) | (simp [B.dN];done) | (simp [B.dO];done)),(by first | rfl | (simp;done) | (simp [*];done) | (simp [B.dN];done) | (simp [B.dO];done)),H',⟨ahG _⟩,⟨by first | exact Kd.jR _ _ _ _ _ | exact Kd.mq _ _ _ _ _ | exact Kd.mD _ _ _ _ _ | exact Kd.l9 _ _ _ _ _ | exact Kd.mh _ _ _ _ _⟩,⟨by (with_reducible repeat (first | refine aM ?_ _ | refine aQ ?_ | refine aJ ?_ _));refine oo ?_ jW.out _;(with_reducible repeat (first | refine aM ?_ _ | refine aQ ?_ | refine aJ ?_ _));exact dx.out⟩,⟨by (with_reducible repeat (first | refine aM ?_ _ | refine aQ ?_ | refine aJ ?_ _));refine oo ?_ gK.out _;(with_reducible repeat (first | refine aM ?_ _ | refine aQ ?_ | refine aJ ?_ _));exact dh.out⟩,⟨by (with_reducible repeat (first | refine aM ?_ _ | refine aQ ?_ | refine aJ ?_ _));refine gP (cs:=#[.string (⟨#[]⟩:ByteArray),.string (⟨#[]⟩:ByteArray),.slice none 0 0]) ?_ 0 _ rfl;(with_reducible repeat (first | refine aM ?_ _ | refine aQ ?_ | refine aJ ?_ _));exact dQ.out⟩,⟨by repeat (first | (with_reducible first | exact HB.out | apply ak | apply aj | apply av | refine aT ?_ iT.out | refine aT ?_ j6.out | refine aT ?_ nN.out) | exact HB.out)⟩⟩
     case round =>
      clear H'
      try clear c1
      try clear p2
      try clear c5
      try clear JF
      try clear QK
      try clear c6
      try clear F9
      try clear JA
      try clear p6
      try clear c7
      try clear ae7
      try clear ae8
      try clear c8
      try clear JB
      try clear JC
      try clear c12
      try clear c13
      try clear c15
      try clear QL
      try clear QM
      try clear QN
      try clear QU
      try clear QV
      try clear QW
      try clear QO
      try clear QS
      try clear QT
      try clear QX
      try clear QY
      try clear QZ
      obtain ⟨kZ,tJ,gu,fC,gW,iN,rfl,rfl,HA,Oh,dK,dx,dh,dQ,HB⟩:=hrel
      cases gk with
      | zero=>exact absurd HA.out (by simp [bM.l0])
      | succ k1 =>
       have H:=HA.out
       clear HA
       simp only [bM.l0] at H
       by_cases c17:tJ < iM
       ·rw [ahC c17] at H
        have aaP:decide (tJ < iM) = true:=ahE c17
        clear c17
        replace H:=zbm H
        obtain ⟨⟨Gj,zn,t127⟩,aaQ,H⟩:=H
        replace H:(if t127 = 0 then (if zn > a2 then (some ((⟨#[]⟩:ByteArray),(⟨#[]⟩:ByteArray),([]:List ByteArray),false)) else (if gW.length < 8796093022208 then (bM.l0 k1 a0 zn a2 iM (wrap64 (tJ + 1)) eD iM jQ (a0.extract (a1:Int).toNat ((wrap64 (a1 + eD)):Int).toNat) (⟨#[]⟩:ByteArray) (gW ++ [Gj])) else (none))) else (some ((⟨#[]⟩:ByteArray),(⟨#[]⟩:ByteArray),([]:List ByteArray),false))) = some (r1,r2,r3,r4):=H
        have A18:=ah.mk aaQ
        clear aaQ
        by_cases c19:t127 = 0
        ·rw [ahC c19] at H
         have aaR:(t127 == 0) = true:=aie.mpr c19
         have aaS:(t127 != 0) = false:=aje.mpr c19
         clear c19
         by_cases c20:zn > a2
         ·rw [ahC c20] at H
          have aaT:decide (a2 < zn) = true:=ahE c20
          clear c20
          simp only [ahP,ahU] at H
          obtain ⟨rfl,rfl,rfl,rfl⟩:=H
          go_wp2_with (first | ((with_reducible refine eG (f:=92) rfl ?_);refine jP (some 43) rfl rfl Try.func92 (by kernel_rfl) rfl #[.string a0,.int .i64 kZ] rfl (by (try simp only [aix,ahO,ahV]) <;> rfl) ?_;(with_reducible refine (aX.calls k1 a0 kZ Gj zn t127 _ A18.out).mono ?_);rintro e w21 ⟨rfl,hb⟩;refine ⟨_,rfl,?_⟩;have iH:=ah.mk (Kd.lG (by (with_reducible repeat (first | apply Kd.fV | apply Kd.gN | apply Kd.gU));exact dK.out) hb);have ko:=ah.mk (dR (g:=fG) (o:=.cells #[.int .i64 eD,.int .i64 iM,.int .i64 jQ] 141 (0,0)) (by (with_reducible repeat (first | refine aM ?_ _ | refine aQ ?_ | refine aJ ?_ _));exact dx.out) hb);have oD:=ah.mk (dR (g:=dw) (o:=.cells #[.string gu,.string fC,.slice none 0 0] 115 (0,0)) (by (with_reducible repeat (first | refine aM ?_ _ | refine aQ ?_ | refine aJ ?_ _));exact dh.out) hb);have oF:=ah.mk (dR (g:=fA) (o:=.cells #[.string (a0.extract (a1:Int).toNat ((wrap64 (a1 + eD)):Int).toNat),.string (⟨#[]⟩:ByteArray),iN] 115 (0,0)) (by (with_reducible repeat (first | refine aM ?_ _ | refine aQ ?_ | refine aJ ?_ _));exact dQ.out) hb);have qF:=ah.mk (dA (by repeat (first | (with_reducible first | exact HB.out | apply ak | apply aj | apply av | refine aT ?_ iT.out | refine aT ?_ j6.out | refine aT ?_ nN.out) | exact HB.out)) hb);clear dK;clear dx;clear dh;clear dQ;clear HB;have dK:=iH;have dx:=ko;have dh:=oD;have dQ:=oF;have HB:=qF;clear iH ko oD oF qF;(try clear hb);(try clear hb2);(try clear hk);(try clear hi);have agL:=jV.out;have agM:=fB.out;have agN:=gK.out;have agO:=eU.out;have acw:w21.cell? ⟨dw,0,none⟩ = some (.string gu):=(bJ dh.out 0).trans rfl;have acy:w21.cell? ⟨dw,1,none⟩ = some (.string fC):=(bJ dh.out 1).trans rfl;have acz:w21.cell? ⟨dw,2,none⟩ = some (.slice none 0 0):=(bJ dh.out 2).trans rfl;have acA:=bE dh.out 0;have acB:=bE dh.out 1;have acC:=bE dh.out 2))
          refine bodyPost_ret (jO rfl _ _ dw 115 #[.string (⟨#[]⟩:ByteArray),.string (⟨#[]⟩:ByteArray),.slice none 0 0] (0,0) _ rfl (by (with_reducible repeat (first | refine aM ?_ _ | refine aQ ?_ | refine aJ ?_ _));refine gP (cs:=#[.string (⟨#[]⟩:ByteArray),.string (⟨#[]⟩:ByteArray),.slice none 0 0]) ?_ 2 _ rfl;(with_reducible repeat (first | refine aM ?_ _ | refine aQ ?_ | refine aJ ?_ _));refine gP (cs:=#[.string (⟨#[]⟩:ByteArray),.string fC,.slice none 0 0]) ?_ 1 _ rfl;(with_reducible repeat (first | refine aM ?_ _ | refine aQ ?_ | refine aJ ?_ _));refine gP (cs:=#[.string gu,.string fC,.slice none 0 0]) ?_ 0 _ rfl;(with_reducible repeat (first | refine aM ?_ _ | refine aQ ?_ | refine aJ ?_ _));exact dh.out) Try.underlying115 rfl (by kernel_rfl)) rfl ?_
          exact ⟨_,by first | rfl | (simp [aY,aZ] <;> rfl) | (simp [*,aY,aZ] <;> rfl),by first | exact Kd.jR _ _ _ _ _ | exact Kd.mq _ _ _ _ _ | exact Kd.mD _ _ _ _ _ | exact Kd.l9 _ _ _ _ _ | exact Kd.mh _ _ _ _ _,by repeat (first | (with_reducible first | exact HB.out | apply ak | apply aj | apply av | refine aT ?_ iT.out | refine aT ?_ j6.out | refine aT ?_ nN.out) | exact HB.out)⟩
         ·rw [ahD c20] at H
          have aaT:decide (a2 < zn) = false:=ahH c20
          clear c20
          by_cases yP:gW.length < 8796093022208
          ·rw [ahC yP] at H
           have aaU:=ah.mk yP
           clear yP
           obtain ⟨Q0,hy128⟩:∃ y_:List ByteArray,y_ = (gW ++ [Gj]):=⟨_,rfl⟩
           replace H:(bM.l0 k1 a0 zn a2 iM (wrap64 (tJ + 1)) eD iM jQ (a0.extract (a1:Int).toNat ((wrap64 (a1 + eD)):Int).toNat) (⟨#[]⟩:ByteArray) Q0) = some (r1,r2,r3,r4):=by first | (rw [hy128];with_reducible exact H) | (have Nc:=(Option.bind_some _ _).symm.trans H;rw [hy128];with_reducible exact Nc) | (have Nc:=(Option.bind_some _ _).symm.trans H;with_reducible exact Nc) | with_reducible exact H | (rw [hy128];exact H) | exact H
           have aaV:=ah.mk hy128
           clear hy128
           have H':=ah.mk H
           clear H
           go_wp2_with (first | ((with_reducible refine eG (f:=92) rfl ?_);refine jP (some 43) rfl rfl Try.func92 (by kernel_rfl) rfl #[.string a0,.int .i64 kZ] rfl (by (try simp only [aix,ahO,ahV]) <;> rfl) ?_;(with_reducible refine (aX.calls k1 a0 kZ Gj zn t127 _ A18.out).mono ?_);rintro e w26 ⟨rfl,hb⟩;refine ⟨_,rfl,?_⟩;have iH:=ah.mk (Kd.lG (by (with_reducible repeat (first | apply Kd.fV | apply Kd.gN | apply Kd.gU));exact dK.out) hb);have ko:=ah.mk (dR (g:=fG) (o:=.cells #[.int .i64 eD,.int .i64 iM,.int .i64 jQ] 141 (0,0)) (by (with_reducible repeat (first | refine aM ?_ _ | refine aQ ?_ | refine aJ ?_ _));exact dx.out) hb);have oD:=ah.mk (dR (g:=dw) (o:=.cells #[.string gu,.string fC,.slice none 0 0] 115 (0,0)) (by (with_reducible repeat (first | refine aM ?_ _ | refine aQ ?_ | refine aJ ?_ _));exact dh.out) hb);have oF:=ah.mk (dR (g:=fA) (o:=.cells #[.string (a0.extract (a1:Int).toNat ((wrap64 (a1 + eD)):Int).toNat),.string (⟨#[]⟩:ByteArray),iN] 115 (0,0)) (by (with_reducible repeat (first | refine aM ?_ _ | refine aQ ?_ | refine aJ ?_ _));exact dQ.out) hb);have qF:=ah.mk (dA (by repeat (first | (with_reducible first | exact HB.out | apply ak | apply aj | apply av | refine aT ?_ iT.out | refine aT ?_ j6.out | refine aT ?_ nN.out) | exact HB.out)) hb);clear dK;clear dx;clear dh;clear dQ;clear HB;have dK:=iH;have dx:=ko;have dh:=oD;have dQ:=oF;have HB:=qF;clear iH ko oD oF qF;(try clear hb);(try clear hb2);(try clear hk);(try clear hi);have agP:=nO.out;have agQ:=jW.out;have agR:=eU.out;have agS:=gK.out;have acD:w26.cell? ⟨fA,0,none⟩ = some (.string (a0.extract (a1:Int).toNat ((wrap64 (a1 + eD)):Int).toNat)):=(bJ dQ.out 0).trans rfl;have acE:w26.cell? ⟨fA,1,none⟩ = some (.string (⟨#[]⟩:ByteArray)):=(bJ dQ.out 1).trans rfl;have acF:w26.cell? ⟨fA,2,none⟩ = some (iN):=(bJ dQ.out 2).trans rfl;have acG:=bE dQ.out 0;have acH:=bE dQ.out 1;have acI:=bE dQ.out 2) | ((with_reducible refine tu (b:=.append) (xs:=#[.tmp 56,.tmp 58]) rfl ?_);at_builtin;refine Kd.Ed Kd.string (w0:=w) w.heap.size rfl (.tmp 56) (.tmp 58) 25 9 (.string ⟨#[]⟩) 16 rfl Try.underlying25 M9 rfl (by decide) (by omega) iN gW Gj [.string Gj] (fun _=>True) (fun _=>False) rfl rfl ?aP (fun _ hk=>hk.elim) ?aF ?aO ?aB ?aS ?aL ?_;(case aP=>exact rfl);(case aB=>exact (by repeat (first | (with_reducible first | exact HB.out | apply ak | apply aj | apply av | refine aT ?_ iT.out | refine aT ?_ j6.out | refine aT ?_ nN.out) | exact HB.out)));(case aF=>exact (fun _ _=>trivial));(case aO=>exact (by (with_reducible repeat (first | apply Kd.fV | apply Kd.gN | apply Kd.gU));exact dK.out));(case aS=>exact (dJ (by repeat (first | (with_reducible first | exact HB.out | apply ak | apply aj | apply av | refine aT ?_ iT.out | refine aT ?_ j6.out | refine aT ?_ nN.out) | exact HB.out))));(case aL=>have:=aaU.out;omega);intro ahv w30 ho hb hg hat;rw [← aaV.out] at ho;have iH:=ah.mk (uF (g:=fG) (o:=.cells #[.int .i64 eD,.int .i64 iM,.int .i64 jQ] 141 (0,0)) (by (with_reducible repeat (first | refine aM ?_ _ | refine aQ ?_ | refine aJ ?_ _));exact dx.out) hg (Kd.VG dK.out dx.out (by decide)));have ko:=ah.mk (uF (g:=dw) (o:=.cells #[.string gu,.string fC,.slice none 0 0] 115 (0,0)) (by (with_reducible repeat (first | refine aM ?_ _ | refine aQ ?_ | refine aJ ?_ _));exact dh.out) hg (Kd.VG dK.out dh.out (by decide)));have oD:=ah.mk (uF (g:=fA) (o:=.cells #[.string (a0.extract (a1:Int).toNat ((wrap64 (a1 + eD)):Int).toNat),.string (⟨#[]⟩:ByteArray),iN] 115 (0,0)) (by (with_reducible repeat (first | refine aM ?_ _ | refine aQ ?_ | refine aJ ?_ _));exact dQ.out) hg (Kd.VG dK.out dQ.out (by decide)));have oF:=ah.mk (hb);have qF:=ah.mk (ho);clear dx;clear dh;clear dQ;clear HB;clear dK;have dx:=iH;have dh:=ko;have dQ:=oD;have HB:=oF;have Tg:=qF;clear iH ko oD oF qF;clear ho hb hg hat;obtain ⟨aaW,aaX,ae9⟩:=Kd.BR Tg.out;subst ae9;have acJ:w30.cell? ⟨fA,0,none⟩ = some (.string (a0.extract (a1:Int).toNat ((wrap64 (a1 + eD)):Int).toNat)):=(bJ dQ.out 0).trans rfl;have acK:w30.cell? ⟨fA,1,none⟩ = some (.string (⟨#[]⟩:ByteArray)):=(bJ dQ.out 1).trans rfl;have acL:w30.cell? ⟨fA,2,none⟩ = some (iN):=(bJ dQ.out 2).trans rfl;have acM:=bE dQ.out 0;have acN:=bE dQ.out 1;have acO:=bE dQ.out 2))
           go_roundg k1
           case measure=>have:=Oh.out;omega
           case rel=>exact ⟨(zn),(wrap64 (tJ + 1)),(gu),(fC),(Q0),(.slice aaW Q0.length aaX),(by first | rfl | (simp;done) | (simp [*];done) | (simp [B.dN];done) | (simp [B.dO];done)),(by first | rfl | (simp;done) | (simp [*];done) | (simp [B.dN];done) | (simp [B.dO];done)),H',⟨by have:=Oh.out;omega⟩,⟨by (with_reducible repeat (first | apply Kd.fV | apply Kd.gN | apply Kd.gU));exact Kd.pI (Kd.sU (p:=⟨fA,2,none⟩) (Kd.sV Tg.out dQ.out (by decide)) (fun _ hk=>hk.2) (.slice aaW Q0.length aaX)) (fun _ hk=>trivial)⟩,⟨by (with_reducible repeat (first | refine aM ?_ _ | refine aQ ?_ | refine aJ ?_ _));refine oo ?_ jW.out _;(with_reducible repeat (first | refine aM ?_ _ | refine aQ ?_ | refine aJ ?_ _));exact dx.out⟩,⟨by (with_reducible repeat (first | refine aM ?_ _ | refine aQ ?_ | refine aJ ?_ _));refine oo ?_ gK.out _;(with_reducible repeat (first | refine aM ?_ _ | refine aQ ?_ | refine aJ ?_ _));exact dh.out⟩,⟨by (with_reducible repeat (first | refine aM ?_ _ | refine aQ ?_ | refine aJ ?_ _));refine gP (cs:=#[.string (a0.extract (a1:Int).toNat ((wrap64 (a1 + eD)):Int).toNat),.string (⟨#[]⟩:ByteArray),iN]) ?_ 2 _ rfl;(with_reducible repeat (first | refine aM ?_ _ | refine aQ ?_ | refine aJ ?_ _));exact dQ.out⟩,⟨by repeat (first | (with_reducible first | exact HB.out | apply ak | apply aj | apply av | refine aT ?_ iT.out | refine aT ?_ j6.out | refine aT ?_ nN.out) | exact HB.out)⟩⟩
          ·rw [ahD yP] at H
           exact absurd H (by simp)
        ·rw [ahD c19] at H
         have aaR:(t127 == 0) = false:=aiH.mpr c19
         have aaS:(t127 != 0) = true:=aiV.mpr c19
         simp only [ahP,ahU] at H
         obtain ⟨rfl,rfl,rfl,rfl⟩:=H
         go_wp2_with (first | ((with_reducible refine eG (f:=92) rfl ?_);refine jP (some 43) rfl rfl Try.func92 (by kernel_rfl) rfl #[.string a0,.int .i64 kZ] rfl (by (try simp only [aix,ahO,ahV]) <;> rfl) ?_;(with_reducible refine (aX.calls k1 a0 kZ Gj zn t127 _ A18.out).mono ?_);rintro e w33 ⟨rfl,hb⟩;refine ⟨_,rfl,?_⟩;have iH:=ah.mk (Kd.lG (by (with_reducible repeat (first | apply Kd.fV | apply Kd.gN | apply Kd.gU));exact dK.out) hb);have ko:=ah.mk (dR (g:=fG) (o:=.cells #[.int .i64 eD,.int .i64 iM,.int .i64 jQ] 141 (0,0)) (by (with_reducible repeat (first | refine aM ?_ _ | refine aQ ?_ | refine aJ ?_ _));exact dx.out) hb);have oD:=ah.mk (dR (g:=dw) (o:=.cells #[.string gu,.string fC,.slice none 0 0] 115 (0,0)) (by (with_reducible repeat (first | refine aM ?_ _ | refine aQ ?_ | refine aJ ?_ _));exact dh.out) hb);have oF:=ah.mk (dR (g:=fA) (o:=.cells #[.string (a0.extract (a1:Int).toNat ((wrap64 (a1 + eD)):Int).toNat),.string (⟨#[]⟩:ByteArray),iN] 115 (0,0)) (by (with_reducible repeat (first | refine aM ?_ _ | refine aQ ?_ | refine aJ ?_ _));exact dQ.out) hb);have qF:=ah.mk (dA (by repeat (first | (with_reducible first | exact HB.out | apply ak | apply aj | apply av | refine aT ?_ iT.out | refine aT ?_ j6.out | refine aT ?_ nN.out) | exact HB.out)) hb);clear dK;clear dx;clear dh;clear dQ;clear HB;have dK:=iH;have dx:=ko;have dh:=oD;have dQ:=oF;have HB:=qF;clear iH ko oD oF qF;(try clear hb);(try clear hb2);(try clear hk);(try clear hi);have agT:=jV.out;have agU:=fB.out;have agV:=gK.out;have agW:=eU.out;have acP:w33.cell? ⟨dw,0,none⟩ = some (.string gu):=(bJ dh.out 0).trans rfl;have acQ:w33.cell? ⟨dw,1,none⟩ = some (.string fC):=(bJ dh.out 1).trans rfl;have acR:w33.cell? ⟨dw,2,none⟩ = some (.slice none 0 0):=(bJ dh.out 2).trans rfl;have acS:=bE dh.out 0;have acT:=bE dh.out 1;have acU:=bE dh.out 2))
         refine bodyPost_ret (jO rfl _ _ dw 115 #[.string (⟨#[]⟩:ByteArray),.string (⟨#[]⟩:ByteArray),.slice none 0 0] (0,0) _ rfl (by (with_reducible repeat (first | refine aM ?_ _ | refine aQ ?_ | refine aJ ?_ _));refine gP (cs:=#[.string (⟨#[]⟩:ByteArray),.string (⟨#[]⟩:ByteArray),.slice none 0 0]) ?_ 2 _ rfl;(with_reducible repeat (first | refine aM ?_ _ | refine aQ ?_ | refine aJ ?_ _));refine gP (cs:=#[.string (⟨#[]⟩:ByteArray),.string fC,.slice none 0 0]) ?_ 1 _ rfl;(with_reducible repeat (first | refine aM ?_ _ | refine aQ ?_ | refine aJ ?_ _));refine gP (cs:=#[.string gu,.string fC,.slice none 0 0]) ?_ 0 _ rfl;(with_reducible repeat (first | refine aM ?_ _ | refine aQ ?_ | refine aJ ?_ _));exact dh.out) Try.underlying115 rfl (by kernel_rfl)) rfl ?_
         exact ⟨_,by first | rfl | (simp [aY,aZ] <;> rfl) | (simp [*,aY,aZ] <;> rfl),by first | exact Kd.jR _ _ _ _ _ | exact Kd.mq _ _ _ _ _ | exact Kd.mD _ _ _ _ _ | exact Kd.l9 _ _ _ _ _ | exact Kd.mh _ _ _ _ _,by repeat (first | (with_reducible first | exact HB.out | apply ak | apply aj | apply av | refine aT ?_ iT.out | refine aT ?_ j6.out | refine aT ?_ nN.out) | exact HB.out)⟩
       ·rw [ahD c17] at H
        have aaP:decide (tJ < iM) = false:=ahH c17
        clear c17
        by_cases c37:0 ≤ kZ
        ·rw [ahC c37] at H
         have agX:=ahM c37
         have agY:decide (0 ≤ kZ) = true:=ahE c37
         clear c37
         by_cases c38:kZ ≤ a2
         ·rw [ahC c38] at H
          have agZ:=ahM c38
          have ag0:decide (kZ ≤ a2) = true:=ahE c38
          clear c38
          by_cases Og:a2 ≤ (a0.size:Int)
          ·rw [ahC Og] at H
           have ag1:=ahM Og
           have ag2:decide (a2 ≤ (a0.size:Int)) = true:=ahE Og
           clear Og
           simp only [ahP,ahU] at H
           obtain ⟨rfl,rfl,rfl,rfl⟩:=H
           have ag3:=nO.out
           have ag4:=jW.out
           have ag5:=eU.out
           have ag6:=gK.out
           have acV:wr.cell? ⟨fA,0,none⟩ = some (.string (a0.extract (a1:Int).toNat ((wrap64 (a1 + eD)):Int).toNat)):=(bJ dQ.out 0).trans rfl
           have acW:wr.cell? ⟨fA,1,none⟩ = some (.string (⟨#[]⟩:ByteArray)):=(bJ dQ.out 1).trans rfl
           have acX:wr.cell? ⟨fA,2,none⟩ = some (iN):=(bJ dQ.out 2).trans rfl
           have acY:=bE dQ.out 0
           have acZ:=bE dQ.out 1
           have ac0:=bE dQ.out 2
           try go_wp2
           have iH:ah (Kd.R Kd.string 9 (wr.setCell ⟨fA,1,none⟩ (.string (a0.extract (kZ:Int).toNat (a2:Int).toNat))) w.heap.size (fun _=>True) iN gW):=⟨by (with_reducible repeat (first | apply Kd.fV | apply Kd.gN | apply Kd.gU));exact Kd.pI (Kd.sU (p:=⟨fA,1,none⟩) (Kd.sV dK.out dQ.out (by decide)) (fun _ hk=>hk.2) (.string (a0.extract (kZ:Int).toNat (a2:Int).toNat))) (fun _ hk=>trivial)⟩
           have ko:ah ((wr.setCell ⟨fA,1,none⟩ (.string (a0.extract (kZ:Int).toNat (a2:Int).toNat))).heap[fG]? = some (.cells #[.int .i64 eD,.int .i64 iM,.int .i64 jQ] 141 (0,0))):=⟨by (with_reducible repeat (first | refine aM ?_ _ | refine aQ ?_ | refine aJ ?_ _));refine oo ?_ jW.out _;(with_reducible repeat (first | refine aM ?_ _ | refine aQ ?_ | refine aJ ?_ _));exact dx.out⟩
           have oD:ah ((wr.setCell ⟨fA,1,none⟩ (.string (a0.extract (kZ:Int).toNat (a2:Int).toNat))).heap[dw]? = some (.cells #[.string gu,.string fC,.slice none 0 0] 115 (0,0))):=⟨by (with_reducible repeat (first | refine aM ?_ _ | refine aQ ?_ | refine aJ ?_ _));refine oo ?_ gK.out _;(with_reducible repeat (first | refine aM ?_ _ | refine aQ ?_ | refine aJ ?_ _));exact dh.out⟩
           have oF:ah ((wr.setCell ⟨fA,1,none⟩ (.string (a0.extract (kZ:Int).toNat (a2:Int).toNat))).heap[fA]? = some (.cells #[.string (a0.extract (a1:Int).toNat ((wrap64 (a1 + eD)):Int).toNat),.string (a0.extract (kZ:Int).toNat (a2:Int).toNat),iN] 115 (0,0))):=⟨by (with_reducible repeat (first | refine aM ?_ _ | refine aQ ?_ | refine aJ ?_ _));refine gP (cs:=#[.string (a0.extract (a1:Int).toNat ((wrap64 (a1 + eD)):Int).toNat),.string (⟨#[]⟩:ByteArray),iN]) ?_ 1 _ rfl;(with_reducible repeat (first | refine aM ?_ _ | refine aQ ?_ | refine aJ ?_ _));exact dQ.out⟩
           have qF:ah (Below w.heap.size w (wr.setCell ⟨fA,1,none⟩ (.string (a0.extract (kZ:Int).toNat (a2:Int).toNat)))):=⟨by repeat (first | (with_reducible first | exact HB.out | apply ak | apply aj | apply av | refine aT ?_ iT.out | refine aT ?_ j6.out | refine aT ?_ nN.out) | exact HB.out)⟩
           (try clear dK)
           (try clear dx)
           (try clear dh)
           (try clear dQ)
           (try clear HB)
           generalize (wr.setCell ⟨fA,1,none⟩ (.string (a0.extract (kZ:Int).toNat (a2:Int).toNat))) = w43 at iH ko oD oF qF ⊢
           have dK:=iH
           have dx:=ko
           have dh:=oD
           have dQ:=oF
           have HB:=qF
           clear iH ko oD oF qF
           have iH:=ah.mk (Kd.gU dK.out)
           have ko:=ah.mk (aQ dx.out)
           have oD:=ah.mk (aQ dh.out)
           have oF:=ah.mk (aQ dQ.out)
           have qF:=ah.mk (av HB.out)
           clear dK
           clear dx
           clear dh
           clear dQ
           clear HB
           have dK:=iH
           have dx:=ko
           have dh:=oD
           have dQ:=oF
           have HB:=qF
           clear iH ko oD oF qF
           obtain ⟨VZ,V3,aaY⟩:=Kd.BR dK.out
           (first | subst aaY | (injection aaY with f1_ f2_ f3_;have f4_:=f1_.symm;have f5_:=f3_.symm;clear f1_ f2_ f3_;subst f4_;subst f5_))
           refine MW (n:=9) (S:=fun w'=>w'.cell? ⟨fA,0,none⟩ = some (.string (a0.extract (a1:Int).toNat ((wrap64 (a1 + eD)):Int).toNat)) ∧ w'.cell? ⟨fA,1,none⟩ = some (.string (a0.extract (kZ:Int).toNat (a2:Int).toNat)) ∧ w'.cell? ⟨fA,2,none⟩ = some (.slice VZ gW.length V3) ∧ w'.cell? ⟨fG,0,none⟩ = some (.int .i64 eD) ∧ w'.cell? ⟨fG,1,none⟩ = some (.int .i64 iM) ∧ w'.cell? ⟨fG,2,none⟩ = some (.int .i64 jQ)) (ds:=[]) #[false,false,false,false,false,false,false,false,false] (by kernel_rfl) rfl rfl ⟨(bJ dQ.out 0).trans rfl,(bJ dQ.out 1).trans rfl,(bJ dQ.out 2).trans rfl,(bJ dx.out 0).trans rfl,(bJ dx.out 1).trans rfl,(bJ dx.out 2).trans rfl⟩ (fun hHeld=>?_);refine Ah bM.aaK bM.VY (fun vQ HW_=>?_)
           generalize w43.drew = w44 at dK dx dh dQ HB hHeld ⊢
           refine lq (i:=1) (N:=some 69) (v:=?_) (a':=?_) #[false,true,false,false,false,false,false,false,false] rfl rfl (jy vQ.out (by kernel_rfl)) (fun _ _ _ h=>h) (Or.inl ⟨by rfl,?_⟩) ?_ ?_
           rotate_left
           ·intro w'
            go_simp
            with_reducible rfl
           rotate_left
           ·simp only [Act.put,aii,List.set_cons_zero,List.set_cons_succ,gY,iQ]
            rfl
           refine lq (i:=4) (N:=some 72) (v:=?_) (a':=?_) #[false,true,false,false,true,false,false,false,false] rfl rfl (jy vQ.out (by kernel_rfl)) (fun _ _ _ h=>h) (Or.inl ⟨by rfl,?_⟩) ?_ ?_
           rotate_left
           ·intro w'
            go_simp
            with_reducible rfl
           rotate_left
           ·simp only [Act.put,aii,List.set_cons_zero,List.set_cons_succ,gY,iQ]
            rfl
           refine Ec (i:=0) (N:=some 68) (v:=?_) (a':=?_) #[true,true,false,false,true,false,false,false,false] rfl rfl (xW vQ.out HW_.out (by kernel_rfl)) (fun _ _ _ h=>h) (Or.inl ⟨by rfl,?_⟩) hHeld ?_ ?_
           rotate_left
           ·rintro w' ⟨s0,s1,s2,s3,s4,s5⟩
            go_simp
            with_reducible rfl
           rotate_left
           ·simp only [Act.put,aii,List.set_cons_zero,List.set_cons_succ,gY,iQ]
            rfl
           refine Ec (i:=2) (N:=some 70) (v:=?_) (a':=?_) #[true,true,true,false,true,false,false,false,false] rfl rfl (xW vQ.out HW_.out (by kernel_rfl)) (fun _ _ _ h=>h) (Or.inl ⟨by rfl,?_⟩) hHeld ?_ ?_
           rotate_left
           ·rintro w' ⟨s0,s1,s2,s3,s4,s5⟩
            go_simp
            with_reducible rfl
           rotate_left
           ·simp only [Act.put,aii,List.set_cons_zero,List.set_cons_succ,gY,iQ]
            rfl
           refine lq (i:=3) (N:=some 71) (v:=?_) (a':=?_) #[true,true,true,true,true,false,false,false,false] rfl rfl (jy vQ.out (by kernel_rfl)) (fun _ _ _ h=>h) (Or.inl ⟨by rfl,?_⟩) ?_ ?_
           rotate_left
           ·intro w'
            go_simp
            with_reducible rfl
           rotate_left
           ·simp only [Act.put,aii,List.set_cons_zero,List.set_cons_succ,gY,iQ]
            rfl
           refine Ec (i:=5) (N:=some 73) (v:=?_) (a':=?_) #[true,true,true,true,true,true,false,false,false] rfl rfl (xW vQ.out HW_.out (by kernel_rfl)) (fun _ _ _ h=>h) (Or.inl ⟨by rfl,?_⟩) hHeld ?_ ?_
           rotate_left
           ·rintro w' ⟨s0,s1,s2,s3,s4,s5⟩
            go_simp
            with_reducible rfl
           rotate_left
           ·simp only [Act.put,aii,List.set_cons_zero,List.set_cons_succ,gY,iQ]
            rfl
           refine lq (i:=6) (N:=some 74) (v:=?_) (a':=?_) #[true,true,true,true,true,true,true,false,false] rfl rfl (jy vQ.out (by kernel_rfl)) (fun _ _ _ h=>h) (Or.inl ⟨by rfl,?_⟩) ?_ ?_
           rotate_left
           ·intro w'
            go_simp
            with_reducible rfl
           rotate_left
           ·simp only [Act.put,aii,List.set_cons_zero,List.set_cons_succ,gY,iQ]
            rfl
           refine VL (i:=7) (N:=none) #[true,true,true,true,true,true,true,true,false] rfl rfl (F7 vQ.out (by kernel_rfl)) (by decide) (fun K hK=>?_)
           have ahw:w44.cell? ⟨dw,0,none⟩ = some (.string gu):=(bJ dh.out 0).trans rfl
           have ag7:=bE dh.out 0
           have ac1:=fB.out
           have ac2:=eU.out
           have ac3:=jV.out
           have ac4:=gK.out
           have ahx:w44.cell? ⟨dw,1,none⟩ = some (.string fC):=(bJ dh.out 1).trans rfl
           have ag8:=bE dh.out 1
           have ac5:=fB.out
           have ac6:=eU.out
           have ac7:=jV.out
           have ac8:=gK.out
           have ahy:w44.cell? ⟨dw,2,none⟩ = some (.slice none 0 0):=(bJ dh.out 2).trans rfl
           have ag9:=bE dh.out 2
           have ac9:=fB.out
           have ada:=eU.out
           have adb:=jV.out
           have ade:=gK.out
           refine aar (w1:=?_) (by rfl) rfl ?_ ?_
           rotate_left
           ·go_simp
            rfl
           refine hK.out _ _ ⟨((cell_far (p:=⟨dw,_,none⟩) eU.out _).trans (((cell_far (p:=⟨dw,_,none⟩) eU.out _).trans (((cell_far (p:=⟨dw,_,none⟩) eU.out _).trans (hHeld.1)))))),((cell_far (p:=⟨dw,_,none⟩) eU.out _).trans (((cell_far (p:=⟨dw,_,none⟩) eU.out _).trans (((cell_far (p:=⟨dw,_,none⟩) eU.out _).trans (hHeld.2.1)))))),((cell_far (p:=⟨dw,_,none⟩) eU.out _).trans (((cell_far (p:=⟨dw,_,none⟩) eU.out _).trans (((cell_far (p:=⟨dw,_,none⟩) eU.out _).trans (hHeld.2.2.1)))))),((cell_far (p:=⟨dw,_,none⟩) fB.out _).trans (((cell_far (p:=⟨dw,_,none⟩) fB.out _).trans (((cell_far (p:=⟨dw,_,none⟩) fB.out _).trans (hHeld.2.2.2.1)))))),((cell_far (p:=⟨dw,_,none⟩) fB.out _).trans (((cell_far (p:=⟨dw,_,none⟩) fB.out _).trans (((cell_far (p:=⟨dw,_,none⟩) fB.out _).trans (hHeld.2.2.2.2.1)))))),((cell_far (p:=⟨dw,_,none⟩) fB.out _).trans (((cell_far (p:=⟨dw,_,none⟩) fB.out _).trans (((cell_far (p:=⟨dw,_,none⟩) fB.out _).trans (hHeld.2.2.2.2.2))))))⟩ (fun hHeld=>?_)
           clear hK K
           refine lq (i:=8) (N:=some 9) (v:=?_) (a':=?_) #[true,true,true,true,true,true,true,true,true] rfl rfl (jy vQ.out (by kernel_rfl)) (fun _ _ _ h=>h) (Or.inl ⟨by rfl,?_⟩) ?_ ?_
           rotate_left
           ·intro w'
            go_simp
            with_reducible rfl
           rotate_left
           ·simp only [Act.put,aii,List.set_cons_zero,List.set_cons_succ,gY,iQ]
            rfl
           refine SN (H6 vQ.out (by kernel_rfl)) ?_
           try go_wp2
           refine bodyPost_ret (jO rfl _ _ dw 115 #[.string (a0.extract (a1:Int).toNat ((wrap64 (a1 + eD)):Int).toNat),.string (a0.extract (kZ:Int).toNat (a2:Int).toNat),.slice VZ gW.length V3] (0,0) _ rfl (by (with_reducible repeat (first | refine aM ?_ _ | refine aQ ?_ | refine aJ ?_ _));refine gP (cs:=#[.string (a0.extract (a1:Int).toNat ((wrap64 (a1 + eD)):Int).toNat),.string (a0.extract (kZ:Int).toNat (a2:Int).toNat),.slice none 0 0]) ?_ 2 _ rfl;(with_reducible repeat (first | refine aM ?_ _ | refine aQ ?_ | refine aJ ?_ _));refine gP (cs:=#[.string (a0.extract (a1:Int).toNat ((wrap64 (a1 + eD)):Int).toNat),.string fC,.slice none 0 0]) ?_ 1 _ rfl;(with_reducible repeat (first | refine aM ?_ _ | refine aQ ?_ | refine aJ ?_ _));refine gP (cs:=#[.string gu,.string fC,.slice none 0 0]) ?_ 0 _ rfl;(with_reducible repeat (first | refine aM ?_ _ | refine aQ ?_ | refine aJ ?_ _));exact dh.out) Try.underlying115 rfl (by kernel_rfl)) rfl ?_
           exact ⟨_,by first | rfl | (simp [aY,aZ] <;> rfl) | (simp [*,aY,aZ] <;> rfl),by (with_reducible repeat (first | apply Kd.fV | apply Kd.gN | apply Kd.gU));exact Kd.pI (Kd.sU (p:=⟨dw,2,none⟩) (Kd.sU (p:=⟨dw,1,none⟩) (Kd.sU (p:=⟨dw,0,none⟩) (Kd.sV dK.out dh.out (by decide)) (fun _ hk=>hk.2) (.string (a0.extract (a1:Int).toNat ((wrap64 (a1 + eD)):Int).toNat))) (fun _ hk=>hk.2) (.string (a0.extract (kZ:Int).toNat (a2:Int).toNat))) (fun _ hk=>hk.2) (.slice VZ gW.length V3)) (fun _ hk=>trivial),by repeat (first | (with_reducible first | exact HB.out | apply ak | apply aj | apply av | refine aT ?_ iT.out | refine aT ?_ j6.out | refine aT ?_ nN.out) | exact HB.out)⟩
          ·rw [ahD Og] at H
           exact absurd H (by simp)
         ·rw [ahD c38] at H
          exact absurd H (by simp)
        ·rw [ahD c37] at H
         exact absurd H (by simp)
    ·rw [ahD c8] at H
     exact absurd H (by simp)
   ·rw [ahD c7] at H
    exact absurd H (by simp)
  ·rw [ahD c6] at H
   exact absurd H (by simp)
 ·rw [ahD c5] at H
  have JF:decide (eD ≤ (wrap64 (a2 - a1))) = false:=ahH c5
  (try (have QK:decide (eD ≤ ((a2 - a1))) = false:=by have h_:decide (eD ≤ (wrap64 (a2 - a1))) = false:=ahH c5;rw [B.jH (by omega) (by omega)] at h_;exact h_))
  clear c5
  simp only [ahP,ahU] at H
  obtain ⟨rfl,rfl,rfl,rfl⟩:=H
  go_enter Try.func75,Try.ntmps75
  go_wp2_with (first | ((with_reducible refine mg (N:=7) rfl ?_);refine kK ?hg (N:=7) ?hd (cs:=#[.int .i64 eD,.int .i64 iM,.int .i64 jQ]) (t:=141) ?hr ?_;(case hd=>rfl);(case hg=>rfl);(case hr=>first | (go_simp;done) | (go_simp;rfl));intro fG hg w49 nM hb;have iH:=ah.mk (dA (by repeat first | exact HB.out | apply ak | apply aj | apply av) hb);have ko:=ah.mk (nM);have oD:=ah.mk ((by rw [hg];exact (dJ (by repeat first | exact HB.out | apply ak | apply aj | apply av)):w.heap.size ≤ fG));have oF:=ah.mk ((by rw [hg];exact (dJ (by repeat first | exact HB.out | apply ak | apply aj | apply av)):w.heap.size ≤ fG));clear HB;have HB:=iH;have dx:=ko;have aaM:=oD;have iT:=oF;clear iH ko oD oF;clear hb nM hg) | ((with_reducible refine mg (N:=8) rfl ?_);refine kK ?hg (N:=8) ?hd (cs:=#[.string (⟨#[]⟩:ByteArray),.string (⟨#[]⟩:ByteArray),.slice none 0 0]) (t:=115) ?hr ?_;(case hd=>rfl);(case hg=>rfl);(case hr=>first | (go_simp;done) | (go_simp;rfl));intro dw hg w50 nM hb;have iH:=ah.mk (dR (g:=fG) (o:=.cells #[.int .i64 eD,.int .i64 iM,.int .i64 jQ] 141 (0,0)) (by (with_reducible repeat (first | refine aM ?_ _ | refine aQ ?_ | refine aJ ?_ _));exact dx.out) hb);have ko:=ah.mk (dA (by repeat (first | (with_reducible first | exact HB.out | apply ak | apply aj | apply av | refine aT ?_ iT.out) | exact HB.out)) hb);have oD:=ah.mk (nM);have oF:=ah.mk ((by rw [hg];exact (dJ (by repeat (first | (with_reducible first | exact HB.out | apply ak | apply aj | apply av | refine aT ?_ iT.out) | exact HB.out))):w.heap.size ≤ dw));have qF:=ah.mk ((by rw [hg];exact (dJ (by repeat (first | (with_reducible first | exact HB.out | apply ak | apply aj | apply av | refine aT ?_ iT.out) | exact HB.out))):w.heap.size ≤ dw));have NC:=ah.mk ((by rw [hg];exact Nat.ne_of_lt (jw (g:=fG) (o:=.cells #[.int .i64 eD,.int .i64 iM,.int .i64 jQ] 141 (0,0)) (by (with_reducible repeat (first | refine aM ?_ _ | refine aQ ?_ | refine aJ ?_ _));exact dx.out)):fG ≠ dw));have ND:=ah.mk ((by rw [hg];exact Nat.ne_of_gt (jw (g:=fG) (o:=.cells #[.int .i64 eD,.int .i64 iM,.int .i64 jQ] 141 (0,0)) (by (with_reducible repeat (first | refine aM ?_ _ | refine aQ ?_ | refine aJ ?_ _));exact dx.out)):dw ≠ fG));clear dx;clear HB;have dx:=iH;have HB:=ko;have dh:=oD;have aaN:=oF;have j6:=qF;have fB:=NC;have jV:=ND;clear iH ko oD oF qF NC ND;clear hb nM hg) | ((with_reducible refine mg (N:=10) rfl ?_);refine kK ?hg (N:=10) ?hd (cs:=#[.string (⟨#[]⟩:ByteArray),.string (⟨#[]⟩:ByteArray),.slice none 0 0]) (t:=115) ?hr ?_;(case hd=>rfl);(case hg=>rfl);(case hr=>first | (go_simp;done) | (go_simp;rfl));intro fA hg XP nM hb;have iH:=ah.mk (dR (g:=fG) (o:=.cells #[.int .i64 eD,.int .i64 iM,.int .i64 jQ] 141 (0,0)) (by (with_reducible repeat (first | refine aM ?_ _ | refine aQ ?_ | refine aJ ?_ _));exact dx.out) hb);have ko:=ah.mk (dR (g:=dw) (o:=.cells #[.string (⟨#[]⟩:ByteArray),.string (⟨#[]⟩:ByteArray),.slice none 0 0] 115 (0,0)) (by (with_reducible repeat (first | refine aM ?_ _ | refine aQ ?_ | refine aJ ?_ _));exact dh.out) hb);have oD:=ah.mk (dA (by repeat (first | (with_reducible first | exact HB.out | apply ak | apply aj | apply av | refine aT ?_ iT.out | refine aT ?_ j6.out) | exact HB.out)) hb);have oF:=ah.mk (nM);have qF:=ah.mk ((by rw [hg];exact (dJ (by repeat (first | (with_reducible first | exact HB.out | apply ak | apply aj | apply av | refine aT ?_ iT.out | refine aT ?_ j6.out) | exact HB.out))):w.heap.size ≤ fA));have NC:=ah.mk ((by rw [hg];exact (dJ (by repeat (first | (with_reducible first | exact HB.out | apply ak | apply aj | apply av | refine aT ?_ iT.out | refine aT ?_ j6.out) | exact HB.out))):w.heap.size ≤ fA));have ND:=ah.mk ((by rw [hg];exact Nat.ne_of_lt (jw (g:=fG) (o:=.cells #[.int .i64 eD,.int .i64 iM,.int .i64 jQ] 141 (0,0)) (by (with_reducible repeat (first | refine aM ?_ _ | refine aQ ?_ | refine aJ ?_ _));exact dx.out)):fG ≠ fA));have n7_:=ah.mk ((by rw [hg];exact Nat.ne_of_gt (jw (g:=fG) (o:=.cells #[.int .i64 eD,.int .i64 iM,.int .i64 jQ] 141 (0,0)) (by (with_reducible repeat (first | refine aM ?_ _ | refine aQ ?_ | refine aJ ?_ _));exact dx.out)):fA ≠ fG));have n8_:=ah.mk ((by rw [hg];exact Nat.ne_of_lt (jw (g:=dw) (o:=.cells #[.string (⟨#[]⟩:ByteArray),.string (⟨#[]⟩:ByteArray),.slice none 0 0] 115 (0,0)) (by (with_reducible repeat (first | refine aM ?_ _ | refine aQ ?_ | refine aJ ?_ _));exact dh.out)):dw ≠ fA));have n9_:=ah.mk ((by rw [hg];exact Nat.ne_of_gt (jw (g:=dw) (o:=.cells #[.string (⟨#[]⟩:ByteArray),.string (⟨#[]⟩:ByteArray),.slice none 0 0] 115 (0,0)) (by (with_reducible repeat (first | refine aM ?_ _ | refine aQ ?_ | refine aJ ?_ _));exact dh.out)):fA ≠ dw));clear dx;clear dh;clear HB;have dx:=iH;have dh:=ko;have HB:=oD;have dQ:=oF;have aaO:=qF;have nN:=NC;have jW:=ND;have nO:=n7_;have gK:=n8_;have eU:=n9_;clear iH ko oD oF qF NC ND n7_ n8_ n9_;clear hb nM hg;have aha:=fB.out;have ahb:=jV.out;have ahc:=jW.out;have ahd:=nO.out;have adf:XP.cell? ⟨fG,0,none⟩ = some (.int .i64 eD):=(bJ dx.out 0).trans rfl;have adg:XP.cell? ⟨fG,1,none⟩ = some (.int .i64 iM):=(bJ dx.out 1).trans rfl;have adh:XP.cell? ⟨fG,2,none⟩ = some (.int .i64 jQ):=(bJ dx.out 2).trans rfl;have adi:=bE dx.out 0;have adj:=bE dx.out 1;have adk:=bE dx.out 2;have ahe:=gK.out;have ahf:=eU.out;have adl:XP.cell? ⟨dw,0,none⟩ = some (.string (⟨#[]⟩:ByteArray)):=(bJ dh.out 0).trans rfl;have adn:XP.cell? ⟨dw,1,none⟩ = some (.string (⟨#[]⟩:ByteArray)):=(bJ dh.out 1).trans rfl;have ado:XP.cell? ⟨dw,2,none⟩ = some (.slice none 0 0):=(bJ dh.out 2).trans rfl;have adp:=bE dh.out 0;have adq:=bE dh.out 1;have ads:=bE dh.out 2))
  refine bodyPost_ret (jO rfl _ _ dw 115 #[.string (⟨#[]⟩:ByteArray),.string (⟨#[]⟩:ByteArray),.slice none 0 0] (0,0) _ rfl (by (with_reducible repeat (first | refine aM ?_ _ | refine aQ ?_ | refine aJ ?_ _));refine gP (cs:=#[.string (⟨#[]⟩:ByteArray),.string (⟨#[]⟩:ByteArray),.slice none 0 0]) ?_ 2 _ rfl;(with_reducible repeat (first | refine aM ?_ _ | refine aQ ?_ | refine aJ ?_ _));refine gP (cs:=#[.string (⟨#[]⟩:ByteArray),.string (⟨#[]⟩:ByteArray),.slice none 0 0]) ?_ 1 _ rfl;(with_reducible repeat (first | refine aM ?_ _ | refine aQ ?_ | refine aJ ?_ _));refine gP (cs:=#[.string (⟨#[]⟩:ByteArray),.string (⟨#[]⟩:ByteArray),.slice none 0 0]) ?_ 0 _ rfl;(with_reducible repeat (first | refine aM ?_ _ | refine aQ ?_ | refine aJ ?_ _));exact dh.out) Try.underlying115 rfl (by kernel_rfl)) rfl ?_
  exact ⟨_,by first | rfl | (simp [aY,aZ] <;> rfl) | (simp [*,aY,aZ] <;> rfl),by first | exact Kd.jR _ _ _ _ _ | exact Kd.mq _ _ _ _ _ | exact Kd.mD _ _ _ _ _ | exact Kd.l9 _ _ _ _ _ | exact Kd.mh _ _ _ _ _,by repeat (first | (with_reducible first | exact HB.out | apply ak | apply aj | apply av | refine aT ?_ iT.out | refine aT ?_ j6.out | refine aT ?_ nN.out) | exact HB.out)⟩
theorem iC.keep {a b:ByteArray} {v:Value} {l:List ByteArray} {base g:Nat} {ok:Nat → Prop} {w w1 w2:World}
  (h:(w1.cell? ⟨g,0,none⟩ = some (.string a) ∧ w1.cell? ⟨g,1,none⟩ = some (.string b) ∧ w1.cell? ⟨g,2,none⟩ = some v) ∧ ah (Below g w w1 ∧ g < w1.heap.size ∧ Kd.R Kd.string 9 w1 base ok v l)) (hb:Below w1.heap.size w1 w2) :
  (w2.cell? ⟨g,0,none⟩ = some (.string a) ∧ w2.cell? ⟨g,1,none⟩ = some (.string b) ∧ w2.cell? ⟨g,2,none⟩ = some v) ∧ ah (Below g w w2 ∧ g < w2.heap.size ∧ Kd.R Kd.string 9 w2 base ok v l):=by
 obtain ⟨⟨c0,c1,c2⟩,⟨h1,h2,h3⟩⟩:=h
 have hs:=hb.size
 exact ⟨⟨(hb.cell h2).trans c0,(hb.cell h2).trans c1,(hb.cell h2).trans c2⟩,⟨h1.trans (hb.mono (by omega)),by omega,Kd.lG h3 hb⟩⟩
theorem iC.calls (a b:ByteArray) (v:Value) (l:List ByteArray) (base:Nat) (ok:Nat → Prop) (w:World) (hr:Kd.R Kd.string 9 w base ok v l) (hl:l.length ≤ 1000000) (hz:a.size + (strings_Join.cat l).size + b.size ≤ 140737488355328) :
  Calls Try.prog 96 #[.agg #[.string a,.string b,v]] w fun e w'=>e = .returned (.string (a ++ strings_Join.cat l ++ b)) ∧ Below w.heap.size w w':=by
 have HB:=ah.mk (ak (Below.refl w.heap.size w) (.cells #[.string a,.string b,v] 115 (0,0)))
 have HR:=ah.mk (Kd.fV hr (.cells #[.string a,.string b,v] 115 (0,0)))
 have HC:(w.alloc (.cells #[.string a,.string b,v] 115 (0,0))).cell? ⟨w.heap.size,0,none⟩ = some (.string a) ∧ (w.alloc (.cells #[.string a,.string b,v] 115 (0,0))).cell? ⟨w.heap.size,1,none⟩ = some (.string b) ∧ (w.alloc (.cells #[.string a,.string b,v] 115 (0,0))).cell? ⟨w.heap.size,2,none⟩ = some v:=by
  refine ⟨?_,?_,?_⟩ <;> (rw [Lib.cell_of_heap (heap_alloc_new w _)];rfl)
 have HC0:=ah.mk HC
 clear HC
 have HC:=HC0
 clear HC0
 have hs:w.heap.size < (w.alloc (.cells #[.string a,.string b,v] 115 (0,0))).heap.size:=by show _ < (w.heap.push _).size;rw [aiO];omega
 have HS:=ah.mk hs
 have HZ:=ah.mk hz
 have HL:=ah.mk hl
 clear hs hz hr hl
 go_enter Try.func96,Try.ntmps96
 go_wp2
 generalize w.alloc (.cells #[.string a,.string b,v] 115 (0,0)) = w1 at *
 generalize hgg:w.heap.size = g at *
 have hgg:=ah.mk hgg
 have hf1:a.size + (strings_Join.cat l).size ≤ 9223372036854775807:=by have:=HZ.out;omega
 have hf2:a.size + (strings_Join.cat l).size + b.size ≤ 9223372036854775807:=by have:=HZ.out;omega
 have c0:=HC.out.1
 have c1:=HC.out.2.1
 have c2:=HC.out.2.2
 go_region_held (fun w'=>(w'.cell? ⟨g,0,none⟩ = some (.string a) ∧ w'.cell? ⟨g,1,none⟩ = some (.string b) ∧ w'.cell? ⟨g,2,none⟩ = some v) ∧ ah (Below g w w' ∧ g < w'.heap.size ∧ Kd.R Kd.string 9 w' base ok v l)) ((first | assumption | exact iC.keep ⟨⟨c0,c1,c2⟩,⟨HB.out,HS.out,HR.out⟩⟩ (ji (Below.refl _ _)) | exact iC.keep (by assumption) (by assumption))) ((first | (go_at_call 110;refine (strings_Join.calls v l base ok _ (Kd.gU HR.out) HL.out (by have:=HZ.out;omega)).mono ?_;rintro e w' ⟨rfl,hb'⟩)))
 all_goals
  rename_i hx
  go_wp2
  go_ret
  exact ⟨rfl,hgg.out ▸ hx.2.out.1⟩
def dB.l0 : Nat → ByteArray → Option (Bool)
 | 0,_=>none
 | k + 1,x0=>if x0.toList = ([]:List UInt8) then (some true) else (if 0 < (x0.size:Int) then (if (wrap64 (1 + (wrap64 (bt x0 0)))) > (x0.size:Int) then (some false) else (if 0 ≤ (wrap64 (1 + (wrap64 (bt x0 0)))) then (if (wrap64 (1 + (wrap64 (bt x0 0)))) ≤ (x0.size:Int) then (dB.l0 k (x0.extract ((wrap64 (1 + (wrap64 (bt x0 0)))):Int).toNat x0.size)) else (none)) else (none))) else (none))
def dB.f (k:Nat) (a0:ByteArray):Option (Bool):=if a0.toList = ([]:List UInt8) then (some false) else (dB.l0 k a0)
theorem dB.calls (k:Nat) (a0:ByteArray) (r:Bool) (w:World) (h:dB.f k a0 = some r) :
  Calls Try.prog 106 #[.string a0] w fun e w'=>e = .returned (.bool r) ∧ bL w w':=by
 have H:(if a0.toList = ([]:List UInt8) then (some false) else (dB.l0 k a0)) = some r:=h
 clear h
 by_cases c2:a0.toList = ([]:List UInt8)
 ·rw [ahC c2] at H
  have zl:(a0.toList == ([]:List UInt8)) = true:=aie.mpr c2
  have Jz:(a0.toList != ([]:List UInt8)) = false:=aje.mpr c2
  have aaZ:a0.toList.isEmpty = true:=List.isEmpty_iff.mpr c2
  clear c2
  obtain rfl:=aia H
  go_enter Try.func106,Try.ntmps106
  go_wp2
  go_ret
  exact ⟨by first | rfl | (simp;done) | (simp [*];done),by repeat (first | exact bL.refl _ | apply bL.step)⟩
 ·rw [ahD c2] at H
  have zl:(a0.toList == ([]:List UInt8)) = false:=aiH.mpr c2
  have Jz:(a0.toList != ([]:List UInt8)) = true:=aiV.mpr c2
  have aaZ:a0.toList.isEmpty = false:=aiB.mpr (fun h_=>c2 (List.isEmpty_iff.mp h_))
  have H':=ah.mk H
  clear H
  go_enter Try.func106,Try.ntmps106
  go_wp2
  go_loopg [0] k (fun kq v0 w'=>∃ (bC:ByteArray),v0 = .string bC ∧ ah (dB.l0 kq bC = some r) ∧ ah (kq ≤ k) ∧ bL w w')
  case atStart=>exact ⟨(a0),(by first | rfl | (simp;done) | (simp [*];done) | (simp [B.dN];done) | (simp [B.dO];done)),H',⟨ahG _⟩,by repeat (first | exact bL.refl _ | apply bL.step)⟩
  case round =>
   clear H'
   try clear c1
   try clear c2
   try clear zl
   try clear Jz
   try clear aaZ
   try clear p2
   obtain ⟨bC,rfl,HA,Oh,⟨m1,rfl⟩⟩:=hrel
   cases gk with
   | zero=>exact absurd HA.out (by simp [dB.l0])
   | succ k1 =>
    have H:=HA.out
    clear HA
    simp only [dB.l0] at H
    by_cases c3:bC.toList = ([]:List UInt8)
    ·rw [ahC c3] at H
     have uH:(bC.toList == ([]:List UInt8)) = true:=aie.mpr c3
     have Gb:(bC.toList != ([]:List UInt8)) = false:=aje.mpr c3
     have Ni:bC.toList.isEmpty = true:=List.isEmpty_iff.mpr c3
     clear c3
     obtain rfl:=aia H
     go_wp2
     go_ret
     exact ⟨by first | rfl | (simp;done) | (simp [*];done),by repeat (first | exact bL.refl _ | apply bL.step)⟩
    ·rw [ahD c3] at H
     have uH:(bC.toList == ([]:List UInt8)) = false:=aiH.mpr c3
     have Gb:(bC.toList != ([]:List UInt8)) = true:=aiV.mpr c3
     have Ni:bC.toList.isEmpty = false:=aiB.mpr (fun h_=>c3 (List.isEmpty_iff.mp h_))
     by_cases c4:0 < (bC.size:Int)
     ·rw [ahC c4] at H
      have Cc:decide (0 < (bC.size:Int)) = true:=ahE c4
      have Na:decide (0 < bC.size) = true:=ahE (by omega)
      clear c4
      by_cases c6:(wrap64 (1 + (wrap64 (bt bC 0)))) > (bC.size:Int)
      ·rw [ahC c6] at H
       have F9:decide ((bC.size:Int) < (wrap64 (1 + (wrap64 (bt bC 0))))) = true:=ahE c6
       (try (have JA:decide ((bC.size:Int) < ((1 + ((bt bC 0))))) = true:=by have h_:decide ((bC.size:Int) < (wrap64 (1 + (wrap64 (bt bC 0))))) = true:=ahE c6;rw [B.jH (by omega) (by omega)] at h_;rw [B.jH (by omega) (by omega)] at h_;exact h_))
       clear c6
       obtain rfl:=aia H
       have p5:0 ≤ (0:Int):=(by omega)
       have q5:0 < bC.size:=(by have:(0:Int) < (bC.size:Int):=ahY (by first | (with_reducible assumption) | assumption);omega)
       have hx5:∀ h:0 < bC.size,((bC[0]'h).toNat:Int) = bt bC 0:=oH bC 0
       clear p5
       have qi5:(0 < (bC.size:Int)) = True:=ahM (ahY (by first | (with_reducible assumption) | assumption))
       replace q5:=ahM q5
       go_wp2
       go_ret
       exact ⟨by first | rfl | (simp;done) | (simp [*];done),by repeat (first | exact bL.refl _ | apply bL.step)⟩
      ·rw [ahD c6] at H
       have F9:decide ((bC.size:Int) < (wrap64 (1 + (wrap64 (bt bC 0))))) = false:=ahH c6
       (try (have JA:decide ((bC.size:Int) < ((1 + ((bt bC 0))))) = false:=by have h_:decide ((bC.size:Int) < (wrap64 (1 + (wrap64 (bt bC 0))))) = false:=ahH c6;rw [B.jH (by omega) (by omega)] at h_;rw [B.jH (by omega) (by omega)] at h_;exact h_))
       clear c6
       obtain ⟨Q5,JQ⟩:∃ j_:Int,(wrap64 (1 + (wrap64 (bt bC 0)))) = j_:=⟨_,rfl⟩
       replace H:(if 0 ≤ (Q5) then (if (Q5) ≤ (bC.size:Int) then (dB.l0 k1 (bC.extract ((Q5):Int).toNat bC.size)) else (none)) else (none)) = some r:=by first | (rw [JQ] at H;exact H) | (simp only [JQ] at H ⊢;exact H)
       (try rw [JQ] at F9)
       (try rw [JQ] at JA)
       have ahg:(IntKind.i64.wrap (1 + (wrap64 (bt bC 0)))) = Q5:=(gY _).trans JQ
       by_cases c8:0 ≤ (Q5)
       ·rw [ahC c8] at H
        have JB:=ahM c8
        have JC:decide (0 ≤ (Q5)) = true:=ahE c8
        clear c8
        by_cases c9:(Q5) ≤ (bC.size:Int)
        ·rw [ahC c9] at H
         have Ga:=ahM c9
         have Nb:decide ((Q5) ≤ (bC.size:Int)) = true:=ahE c9
         clear c9
         have H':=ah.mk H
         clear H
         have p5:0 ≤ (0:Int):=(by omega)
         have q5:0 < bC.size:=(by have:(0:Int) < (bC.size:Int):=ahY (by first | (with_reducible assumption) | assumption);omega)
         have hx5:∀ h:0 < bC.size,((bC[0]'h).toNat:Int) = bt bC 0:=oH bC 0
         clear p5
         have qi5:(0 < (bC.size:Int)) = True:=ahM (ahY (by first | (with_reducible assumption) | assumption))
         replace q5:=ahM q5
         go_wp2
         go_roundg k1
         case measure=>have:=Oh.out;omega
         case rel=>exact ⟨(bC.extract ((Q5):Int).toNat bC.size),(by first | rfl | (simp;done) | (simp only [← JQ] <;> (first | rfl | simp)) | (simp [*];done)),H',⟨by have:=Oh.out;omega⟩,by repeat (first | exact bL.refl _ | apply bL.step)⟩
        ·rw [ahD c9] at H
         exact absurd H (by simp)
       ·rw [ahD c8] at H
        exact absurd H (by simp)
     ·rw [ahD c4] at H
      exact absurd H (by simp)
def ay.CP (k:Int):Option (Int × Int × Int) :=
 if k = 1 then some (4,0,0) else if k = 28 then some (16,0,0) else if k = 2 then some (0,1,0) else if k = 5 then some (0,1,0) else if k = 12 then some (0,1,0) else if k = 6 then some (0,2,20) else if k = 15 then some (2,1,0) else if k = 33 then some (6,1,0) else none
theorem ay.vY (k:Int):Mi.rT k bQ.tab = (ay.CP k).map fun s=>bQ.agg s.1 s.2.1 s.2.2:=by
 unfold ay.CP bQ.tab
 simp only [Mi.rT]
 repeat' split
 all_goals rfl
def ay.fin (k:Nat) (kind:Int) (d:ByteArray) (is:Bool):Option (ByteArray × Int) :=
 if is = true then (if kind = 16 then ((dB.f k d).bind fun b=>if b = true then (if (d.size:Int) > 65535 then some (⟨#[]⟩,4) else some (d,0)) else some (⟨#[]⟩,4)) else (if (d.size:Int) > 65535 then some (⟨#[]⟩,4) else some (d,0))) else some (⟨#[]⟩,4)
def ay.g (k:Nat) (a0:ByteArray) (a1 a2 a3:Int) (s:Int × Int × Int):Option (ByteArray × Int) :=
 (bM.f k a0 a1 (wrap64 (a1 + a2)) s.1 s.2.1 s.2.2).bind fun p=>if p.1.size + (strings_Join.cat p.2.2.1).size + p.2.1.size ≤ 140737488355328 then (if p.2.2.1.length ≤ 1000000 then ay.fin k a3 (p.1 ++ strings_Join.cat p.2.2.1 ++ p.2.1) p.2.2.2 else none) else none
def ay.f (k:Nat) (a0:ByteArray) (a1 a2 a3:Int):Option (ByteArray × Int) :=
 (eH.f a0 a1 a2).bind fun t=>if t.2 = true then (match ay.CP a3 with | some s=>ay.g k a0 a1 a2 a3 s | none=>ay.fin k a3 t.1 true) else some (⟨#[]⟩,2)
theorem ay.Am {k:Nat} {kind:Int} {d:ByteArray} {r:ByteArray × Int} (h:ay.fin k kind d true = some r) (hk:kind = 16) :
  ∃ b,dB.f k d = some b ∧ (if b = true then (if (d.size:Int) > 65535 then some ((⟨#[]⟩:ByteArray),(4:Int)) else some (d,0)) else some (⟨#[]⟩,4)) = some r:=by
 unfold ay.fin at h
 rw [ahC rfl,ahC hk] at h
 exact zbm h
theorem ay.qm {k:Nat} {kind:Int} {d:ByteArray} {r:ByteArray × Int} (h:ay.fin k kind d true = some r) (hk:¬ kind = 16) :
  (if (d.size:Int) > 65535 then some ((⟨#[]⟩:ByteArray),(4:Int)) else some (d,0)) = some r:=by
 unfold ay.fin at h
 rw [ahC rfl,ahD hk] at h
 exact h
theorem ay.V4 {k:Nat} {kind:Int} {d:ByteArray} {r:ByteArray × Int} (h:ay.fin k kind d false = some r):r = (⟨#[]⟩,4):=by
 unfold ay.fin at h
 rw [ahD aiF] at h
 exact (aia h).symm
theorem ay.slc {v:Value} {l:List ByteArray} {base:Nat} {ok:Nat → Prop} {w:World} (hr:Kd.R Kd.string 9 w base ok v l):∃ A n c,v = .slice A n c:=by
 rcases (Kd.sW hr).2 with ⟨rfl,_⟩ | ⟨g,cap,cur,rfl,_⟩
 ·exact ⟨_,_,_,rfl⟩
 ·exact ⟨_,_,_,rfl⟩
theorem ay.lS {b:Bool} {d r1:ByteArray} {r2:Int} (h:(if b = true then (if (d.size:Int) > 65535 then some ((⟨#[]⟩:ByteArray),(4:Int)) else some (d,0)) else some (⟨#[]⟩,4)) = some (r1,r2)) :
  (b = true → 65535 < (d.size:Int) → r1 = ⟨#[]⟩ ∧ r2 = 4) ∧ (b = true → (d.size:Int) ≤ 65535 → r1 = d ∧ r2 = 0) ∧ (b = false → r1 = ⟨#[]⟩ ∧ r2 = 4):=by
 refine ⟨fun h1 h2=>?_,fun h1 h2=>?_,fun h1=>?_⟩
 ·rw [ahC h1,ahC h2] at h;cases h;exact ⟨rfl,rfl⟩
 ·rw [ahC h1,ahD (by omega)] at h;cases h;exact ⟨rfl,rfl⟩
 ·rw [h1,ahD aiF] at h;cases h;exact ⟨rfl,rfl⟩
theorem ay.qo {d r1:ByteArray} {r2:Int} (h:(if (d.size:Int) > 65535 then some ((⟨#[]⟩:ByteArray),(4:Int)) else some (d,0)) = some (r1,r2)) :
  (65535 < (d.size:Int) → r1 = ⟨#[]⟩ ∧ r2 = 4) ∧ ((d.size:Int) ≤ 65535 → r1 = d ∧ r2 = 0):=by
 refine ⟨fun h2=>?_,fun h2=>?_⟩
 ·rw [ahC h2] at h;cases h;exact ⟨rfl,rfl⟩
 ·rw [ahD (by omega)] at h;cases h;exact ⟨rfl,rfl⟩
theorem ay.calls (k:Nat) (a0:ByteArray) (a1 a2 a3:Int) (r1:ByteArray) (r2:Int) (w:World) (h:ay.f k a0 a1 a2 a3 = some (r1,r2)) :
  Calls Try.prog 91 #[.string a0,.int .i64 a1,.int .i64 a2,.int .i64 a3] w fun e w'=>e = .returned (.tuple #[.string r1,.int .i64 r2]) ∧ Below w.heap.size w w':=by
 have HB:=ah.mk (Below.refl w.heap.size w)
 obtain ⟨⟨t1,t2⟩,ht,h'⟩:=zbm h
 clear h
 have HT:=ah.mk ht
 clear ht
 cases t2 with
 | false =>
  rw [ahD aiF] at h'
  obtain ⟨rfl,rfl⟩:=ahU .. ▸ aia h'
  go_enter Try.func91,Try.ntmps91
  go_wp2_with (first | (go_at_call 94;refine (eH.calls _ _ _ _ _ _ HT.out).mono ?_;rintro e w1 ⟨rfl,hd1⟩))
  go_ret2
  exact ⟨rfl,hd1.below⟩
 | true =>
  replace h':(match ay.CP a3 with | some s=>ay.g k a0 a1 a2 a3 s | none=>ay.fin k a3 t1 true) = some (r1,r2):=h'
  cases hsh:ay.CP a3 with
  | none =>
   rw [hsh] at h'
   have HH:=ah.mk (show ay.fin k a3 t1 true = some (r1,r2) from h')
   clear h'
   have hfn:Mi.rT a3 bQ.tab = none:=by rw [ay.vY,hsh];rfl
   go_enter Try.func91,Try.ntmps91
   go_wp2_with (first
    | (go_at_call 94;refine (eH.calls _ _ _ _ _ _ HT.out).mono ?_;rintro e w1 ⟨rfl,hd1⟩)
    | (go_at_call 74;refine (bQ.calls _).mono ?_;rintro e w2 ⟨g,rfl,hin⟩;have hl:=Mi.look (P:=Try.prog) hin.at_ 143 3 141 Try.underlying143 Try.underlying3 _ (Try.zeroValue141 w2) a3;rw [hfn] at hl;have hB2:=ah.mk ((HB.out.trans hd1.below).trans (hin.NA.mono hd1.below.size));clear hin)
    | (go_at_call 106;obtain ⟨b,hb,hx⟩:=ay.Am HH.out (by assumption);have hx:=ah.mk hx;refine (dB.calls _ _ _ _ hb).mono ?_;rintro e w3 ⟨rfl,hd3⟩))
   all_goals
    go_ret2
    first
     | (have hq:=(ay.lS hx.out).1 (by assumption) (by assumption);obtain ⟨rfl,rfl⟩:=hq;exact ⟨rfl,(ak hB2.out _).trans (hd3.below.mono (by have:=hB2.out.size;simp only [World.alloc,aiO];omega))⟩)
     | (have hq:=(ay.lS hx.out).2.1 (by assumption) (by assumption);obtain ⟨rfl,rfl⟩:=hq;exact ⟨rfl,(ak hB2.out _).trans (hd3.below.mono (by have:=hB2.out.size;simp only [World.alloc,aiO];omega))⟩)
     | (have hq:=(ay.lS hx.out).2.2 (by first | assumption | simpa using ‹¬ b = true›);obtain ⟨rfl,rfl⟩:=hq;exact ⟨rfl,(ak hB2.out _).trans (hd3.below.mono (by have:=hB2.out.size;simp only [World.alloc,aiO];omega))⟩)
     | (have hq:=(ay.qo (ay.qm HH.out (by assumption))).1 (by assumption);obtain ⟨rfl,rfl⟩:=hq;exact ⟨rfl,ak hB2.out _⟩)
     | (have hq:=(ay.qo (ay.qm HH.out (by assumption))).2 (by assumption);obtain ⟨rfl,rfl⟩:=hq;exact ⟨rfl,ak hB2.out _⟩)
  | some s =>
   obtain ⟨s0,s1,s2⟩:=s
   rw [hsh] at h'
   replace h':ay.g k a0 a1 a2 a3 (s0,s1,s2) = some (r1,r2):=h'
   unfold ay.g at h'
   obtain ⟨⟨p1,p2,p3,p4⟩,hp,h'⟩:=zbm h'
   replace h':(if p1.size + (strings_Join.cat p3).size + p2.size ≤ 140737488355328 then (if p3.length ≤ 1000000 then ay.fin k a3 (p1 ++ strings_Join.cat p3 ++ p2) p4 else none) else none) = some (r1,r2):=h'
   have hp:=ah.mk (show bM.f k a0 a1 (wrap64 (a1 + a2)) s0 s1 s2 = some (p1,p2,p3,p4) from hp)
   by_cases z1:p1.size + (strings_Join.cat p3).size + p2.size ≤ 140737488355328
   ·rw [ahC z1] at h'
    by_cases z2:p3.length ≤ 1000000
    ·rw [ahC z2] at h'
     have HH:=ah.mk h'
     have z1:=ah.mk z1
     have z2:=ah.mk z2
     clear h'
     have hfn:Mi.rT a3 bQ.tab = some (bQ.agg s0 s1 s2):=by rw [ay.vY,hsh];rfl
     cases p4
     all_goals
      go_enter Try.func91,Try.ntmps91
      go_wp2_with (first
       | (go_at_call 94;refine (eH.calls _ _ _ _ _ _ HT.out).mono ?_;rintro e w1 ⟨rfl,hd1⟩)
       | (go_at_call 74;refine (bQ.calls _).mono ?_;rintro e w2 ⟨g,rfl,hin⟩;have hl:=Mi.look (P:=Try.prog) hin.at_ 143 3 141 Try.underlying143 Try.underlying3 _ (Try.zeroValue141 w2) a3;rw [hfn] at hl;replace hl:=show _ = Result.ok (Value.tuple #[.agg #[.int .i64 s0,.int .i64 s1,.int .i64 s2],.bool true]) w2 from hl;have hB2:=ah.mk ((HB.out.trans hd1.below).trans (hin.NA.mono hd1.below.size));clear hin)
       | (go_at_call 75;refine (bM.calls _ _ _ _ _ _ _ _ _ _ _ _ hp.out).mono ?_;rintro e w3 ⟨v,rfl,hv,hb3⟩;obtain ⟨vA,vn,vc,rfl⟩:=ay.slc hv;have hB3:=ah.mk ((ak hB2.out _).trans (hb3.mono (by have:=hB2.out.size;simp only [World.alloc,aiO];omega)));have hv:=ah.mk hv;clear hb3)
       | (go_at_call 96;refine (iC.calls _ _ _ p3 _ _ _ (Kd.fV hv.out _) z2.out z1.out).mono ?_;rintro e w4 ⟨rfl,hb4⟩;have hB4:=ah.mk ((ak hB3.out _).trans (hb4.mono (by have:=hB3.out.size;simp only [World.alloc,aiO];omega)));clear hb4)
       | (go_at_call 106;obtain ⟨b,hb,hx⟩:=ay.Am HH.out (by assumption);have hx:=ah.mk hx;refine (dB.calls _ _ _ _ hb).mono ?_;rintro e w5 ⟨rfl,hd3⟩))
      all_goals
       go_ret2
       first
        | (have hq:=ay.V4 HH.out;cases hq;exact ⟨rfl,hB4.out⟩)
        | (have hq:=(ay.lS hx.out).1 (by first | assumption | (simp only [ah6,Int.natCast_add];assumption)) (by first | assumption | (simp only [ah6,Int.natCast_add];assumption));obtain ⟨rfl,rfl⟩:=hq;exact ⟨rfl,hB4.out.trans (hd3.below.mono hB4.out.size)⟩)
        | (have hq:=(ay.lS hx.out).2.1 (by first | assumption | (simp only [ah6,Int.natCast_add];assumption)) (by first | assumption | (simp only [ah6,Int.natCast_add];assumption));obtain ⟨rfl,rfl⟩:=hq;exact ⟨rfl,hB4.out.trans (hd3.below.mono hB4.out.size)⟩)
        | (have hq:=(ay.lS hx.out).2.2 (by first | assumption | simpa using ‹¬ b = true›);obtain ⟨rfl,rfl⟩:=hq;exact ⟨rfl,hB4.out.trans (hd3.below.mono hB4.out.size)⟩)
        | (have hq:=(ay.qo (ay.qm HH.out (by first | assumption | (simp only [ah6,Int.natCast_add];assumption)))).1 (by first | assumption | (simp only [ah6,Int.natCast_add];assumption));obtain ⟨rfl,rfl⟩:=hq;exact ⟨rfl,hB4.out⟩)
        | (have hq:=(ay.qo (ay.qm HH.out (by first | assumption | (simp only [ah6,Int.natCast_add];assumption)))).2 (by first | assumption | (simp only [ah6,Int.natCast_add];assumption));obtain ⟨rfl,rfl⟩:=hq;exact ⟨rfl,hB4.out⟩)
    ·rw [ahD z2] at h';cases h'
   ·rw [ahD z1] at h';cases h'
def iO.f (k:Nat) (a0:Int) (a1:ByteArray):Option (Bool):=if (a1.size:Int) > 65535 then (some false) else ((ay.f k a1 0 (a1.size:Int) a0).bind fun Eu=>(if Eu.2 = 0 then (some (Eu.1.toList == a1.toList)) else (some false)))
theorem iO.calls (k:Nat) (a0:Int) (a1:ByteArray) (r:Bool) (w:World) (h:iO.f k a0 a1 = some r) :
  Calls Try.prog 73 #[.int .i64 a0,.string a1] w fun e w'=>e = .returned (.bool r) ∧ Below w.heap.size w w':=by
 have HB:=ah.mk (Below.refl w.heap.size w)
 have H:(if (a1.size:Int) > 65535 then (some false) else ((ay.f k a1 0 (a1.size:Int) a0).bind fun Eu=>(if Eu.2 = 0 then (some (Eu.1.toList == a1.toList)) else (some false)))) = some r:=h
 clear h
 by_cases c3:(a1.size:Int) > 65535
 ·rw [ahC c3] at H
  have uH:decide (65535 < (a1.size:Int)) = true:=ahE c3
  have Gb:decide (65535 < a1.size) = true:=ahE (by omega)
  clear c3
  obtain rfl:=aia H
  go_enter Try.func73,Try.ntmps73
  go_wp2
  go_ret
  exact ⟨by first | rfl | (simp [aY,aZ] <;> rfl) | (simp [*,aY,aZ] <;> rfl),by repeat (first | exact HB.out | apply ak | apply aj | apply av)⟩
 ·rw [ahD c3] at H
  have uH:decide (65535 < (a1.size:Int)) = false:=ahH c3
  have Gb:decide (65535 < a1.size) = false:=ahH (by omega)
  clear c3
  replace H:=zbm H
  obtain ⟨⟨t131,Ew⟩,Te,H⟩:=H
  replace H:(if Ew = 0 then (some (t131.toList == a1.toList)) else (some false)) = some r:=H
  have A4:=ah.mk Te
  clear Te
  by_cases c5:Ew = 0
  ·rw [ahC c5] at H
   have JF:(Ew == 0) = true:=aie.mpr c5
   have QK:(Ew != 0) = false:=aje.mpr c5
   clear c5
   obtain rfl:=aia H
   go_enter Try.func73,Try.ntmps73
   go_wp2_with (first | ((with_reducible refine eG (f:=91) rfl ?_);refine jP (some 15) rfl rfl Try.func91 (by kernel_rfl) rfl #[.string a1,.int .i64 0,.int .i64 (a1.size:Int),.int .i64 a0] rfl (by (try simp only [aix,ahO,ahV]);first | done | rfl | (simp only [ah4,ahS];rfl) | (simp only [ah6,Int.natCast_add];rfl) | (rw [B.jH] <;> first | rfl | omega | (simp only [aiz,ahZ,Int.not_lt,Nat.not_lt,gt_iff_lt] at * <;> omega))) ?_;(with_reducible refine (ay.calls k a1 0 (a1.size:Int) a0 t131 Ew _ A4.out).mono ?_);rintro e w6 ⟨rfl,hb⟩;refine ⟨_,rfl,?_⟩;have iH:=ah.mk (dA (by repeat first | exact HB.out | apply ak | apply aj | apply av) hb);clear HB;have HB:=iH;clear iH;(try clear hb);(try clear hb2);(try clear hk);(try clear hi)))
   go_ret
   exact ⟨by first | rfl | (simp [aY,aZ] <;> rfl) | (simp [*,aY,aZ] <;> rfl),by repeat (first | exact HB.out | apply ak | apply aj | apply av)⟩
  ·rw [ahD c5] at H
   have JF:(Ew == 0) = false:=aiH.mpr c5
   have QK:(Ew != 0) = true:=aiV.mpr c5
   obtain rfl:=aia H
   go_enter Try.func73,Try.ntmps73
   go_wp2_with (first | ((with_reducible refine eG (f:=91) rfl ?_);refine jP (some 15) rfl rfl Try.func91 (by kernel_rfl) rfl #[.string a1,.int .i64 0,.int .i64 (a1.size:Int),.int .i64 a0] rfl (by (try simp only [aix,ahO,ahV]);first | done | rfl | (simp only [ah4,ahS];rfl) | (simp only [ah6,Int.natCast_add];rfl) | (rw [B.jH] <;> first | rfl | omega | (simp only [aiz,ahZ,Int.not_lt,Nat.not_lt,gt_iff_lt] at * <;> omega))) ?_;(with_reducible refine (ay.calls k a1 0 (a1.size:Int) a0 t131 Ew _ A4.out).mono ?_);rintro e w7 ⟨rfl,hb⟩;refine ⟨_,rfl,?_⟩;have iH:=ah.mk (dA (by repeat first | exact HB.out | apply ak | apply aj | apply av) hb);clear HB;have HB:=iH;clear iH;(try clear hb);(try clear hb2);(try clear hk);(try clear hi)))
   go_ret
   exact ⟨by first | rfl | (simp [aY,aZ] <;> rfl) | (simp [*,aY,aZ] <;> rfl),by repeat (first | exact HB.out | apply ak | apply aj | apply av)⟩
def bR.f (k:Nat) (a0:Int) (a1:ByteArray):Option (ByteArray × ByteArray × List ByteArray × Bool) :=
 (iO.f k a0 a1).bind fun c=>if c = true then (match ay.CP a0 with | some s=>bM.f k a1 0 (a1.size:Int) s.1 s.2.1 s.2.2 | none=>some (a1,⟨#[]⟩,[],true)) else some (⟨#[]⟩,⟨#[]⟩,[],false)
theorem bR.three {w w1:World} {g B:Nat} {a b c a' b' c':Value} (bk:w1.heap[g]? = some (.cells #[a',b',c'] 115 (0,0))) :
  (((w1.setCell ⟨g,0,none⟩ a).setCell ⟨g,1,none⟩ b).setCell ⟨g,2,none⟩ c).heap[g]? = some (.cells #[a,b,c] 115 (0,0)) ∧
  (Below B w w1 → B ≤ g → Below B w (((w1.setCell ⟨g,0,none⟩ a).setCell ⟨g,1,none⟩ b).setCell ⟨g,2,none⟩ c)) ∧
  (∀ v l base ok,Kd.R Kd.string 9 w1 base ok v l → Kd.R Kd.string 9 (((w1.setCell ⟨g,0,none⟩ a).setCell ⟨g,1,none⟩ b).setCell ⟨g,2,none⟩ c) base ok v l):=by
 have b1:=gP bk 0 a (cs':=#[a,b',c']) rfl
 have b2:=gP b1 1 b (cs':=#[a,b,c']) rfl
 have b3:=gP b2 2 c (cs':=#[a,b,c]) rfl
 refine ⟨b3,fun h hg=>((h.setCell hg _).setCell hg _).setCell hg _,fun v l base ok h=>?_⟩
 exact Kd.MP (Kd.MP (Kd.MP h bk (by decide) 0 a) b1 (by decide) 1 b) b2 (by decide) 2 c
theorem bR.facts {w1:World} {g:Nat} {a b c:Value} (bk:w1.heap[g]? = some (.cells #[a,b,c] 115 (0,0))) :
  (w1.cell? ⟨g,0,none⟩ = some a ∧ w1.cell? ⟨g,1,none⟩ = some b ∧ w1.cell? ⟨g,2,none⟩ = some c) ∧ w1.frozen? ⟨g,0,none⟩ = false ∧ w1.frozen? ⟨g,1,none⟩ = false ∧ w1.frozen? ⟨g,2,none⟩ = false :=
 ⟨⟨bJ bk 0,bJ bk 1,bJ bk 2⟩,bE bk 0,bE bk 1,bE bk 2⟩
theorem bR.calls (k:Nat) (a0:Int) (a1:ByteArray) (r1 r2:ByteArray) (r3:List ByteArray) (r4:Bool) (w:World) (h:bR.f k a0 a1 = some (r1,r2,r3,r4)) :
  Calls Try.prog 51 #[.int .i64 a0,.string a1] w fun e w'=>∃ v2_:Value,e = .returned (.tuple #[.agg #[.string r1,.string r2,v2_],.bool r4]) ∧ Kd.R Kd.string 9 w' w.heap.size (fun _=>True) v2_ r3 ∧ Below w.heap.size w w':=by
 obtain ⟨c,hc,h'⟩:=zbm h
 clear h
 have HC:=ah.mk hc
 clear hc
 cases c with
 | false =>
  rw [ahD aiF] at h'
  cases h'
  go_enter Try.func51,Try.ntmps51
  go_wp2_with (first
   | (go_at_call 73;refine (iO.calls _ _ _ _ _ HC.out).mono ?_;rintro e w1 ⟨rfl,hd1⟩;have bk:=dR (sQ w _) hd1;obtain ⟨⟨k0,k1,k2⟩,f0,f1,f2⟩:=bR.facts bk;have bk:=ah.mk bk;have hB1:=ah.mk ((ak (Below.refl w.heap.size w) _).trans (hd1.mono (by simp only [World.alloc,aiO];omega)));clear hd1))
  refine bodyPost_ret (jO rfl _ _ w.heap.size 115 #[.string ⟨#[]⟩,.string ⟨#[]⟩,.slice none 0 0] (0,0) _ rfl (bR.three (w:=w) (B:=0) bk.out).1 Try.underlying115 rfl (by kernel_rfl)) rfl ?_
  exact ⟨_,rfl,Kd.jR _ _ _ _ _,(bR.three bk.out).2.1 hB1.out (ahG _)⟩
 | true =>
  replace h':(match ay.CP a0 with | some s=>bM.f k a1 0 (a1.size:Int) s.1 s.2.1 s.2.2 | none=>some (a1,⟨#[]⟩,[],true)) = some (r1,r2,r3,r4):=h'
  cases hsh:ay.CP a0 with
  | none =>
   rw [hsh] at h'
   cases h'
   have hfn:Mi.rT a0 bQ.tab = none:=by rw [ay.vY,hsh];rfl
   go_enter Try.func51,Try.ntmps51
   go_wp2_with (first
    | (go_at_call 73;refine (iO.calls _ _ _ _ _ HC.out).mono ?_;rintro e w1 ⟨rfl,hd1⟩;have bk:=dR (sQ w _) hd1;obtain ⟨⟨k0,k1,k2⟩,f0,f1,f2⟩:=bR.facts bk;have bk:=ah.mk bk;have hB1:=ah.mk ((ak (Below.refl w.heap.size w) _).trans (hd1.mono (by simp only [World.alloc,aiO];omega)));clear hd1)
    | (go_at_call 74;refine (bQ.calls _).mono ?_;rintro e w2 ⟨g,rfl,hin⟩;clear k0 k1 k2 f0 f1 f2;have hl:=Mi.look (P:=Try.prog) hin.at_ 143 3 141 Try.underlying143 Try.underlying3 _ (Try.zeroValue141 w2) a0;rw [hfn] at hl;replace hl:=show _ = Result.ok (Value.tuple #[.agg #[.int .i64 0,.int .i64 0,.int .i64 0],.bool false]) w2 from hl;have hB2:=ah.mk (hB1.out.trans (hin.NA.mono hB1.out.size));have bk:=ah.mk (aJ (dR bk.out hin.NA) (.cells #[.int .i64 0,.int .i64 0,.int .i64 0] 141 (0,0)));obtain ⟨⟨k0,k1,k2⟩,f0,f1,f2⟩:=bR.facts bk.out;clear hin))
   refine bodyPost_ret (jO rfl _ _ w.heap.size 115 #[.string a1,.string ⟨#[]⟩,.slice none 0 0] (0,0) _ rfl (bR.three (w:=w) (B:=0) bk.out).1 Try.underlying115 rfl (by kernel_rfl)) rfl ?_
   exact ⟨_,rfl,Kd.jR _ _ _ _ _,(bR.three bk.out).2.1 (ak hB2.out _) (ahG _)⟩
  | some s =>
   obtain ⟨s0,s1,s2⟩:=s
   rw [hsh] at h'
   have hp:=ah.mk (show bM.f k a1 0 (a1.size:Int) s0 s1 s2 = some (r1,r2,r3,r4) from h')
   clear h'
   have hfn:Mi.rT a0 bQ.tab = some (bQ.agg s0 s1 s2):=by rw [ay.vY,hsh];rfl
   go_enter Try.func51,Try.ntmps51
   go_wp2_with (first
    | (go_at_call 73;refine (iO.calls _ _ _ _ _ HC.out).mono ?_;rintro e w1 ⟨rfl,hd1⟩;have bk:=dR (sQ w _) hd1;obtain ⟨⟨k0,k1,k2⟩,f0,f1,f2⟩:=bR.facts bk;have bk:=ah.mk bk;have hB1:=ah.mk ((ak (Below.refl w.heap.size w) _).trans (hd1.mono (by simp only [World.alloc,aiO];omega)));clear hd1)
    | (go_at_call 74;refine (bQ.calls _).mono ?_;rintro e w2 ⟨g,rfl,hin⟩;clear k0 k1 k2 f0 f1 f2;have hl:=Mi.look (P:=Try.prog) hin.at_ 143 3 141 Try.underlying143 Try.underlying3 _ (Try.zeroValue141 w2) a0;rw [hfn] at hl;replace hl:=show _ = Result.ok (Value.tuple #[.agg #[.int .i64 s0,.int .i64 s1,.int .i64 s2],.bool true]) w2 from hl;have hB2:=ah.mk (hB1.out.trans (hin.NA.mono hB1.out.size));have bk:=ah.mk (aJ (dR bk.out hin.NA) (.cells #[.int .i64 s0,.int .i64 s1,.int .i64 s2] 141 (0,0)));obtain ⟨⟨k0,k1,k2⟩,f0,f1,f2⟩:=bR.facts bk.out;clear hin)
    | (go_at_call 75;refine (bM.calls _ _ _ _ _ _ _ _ _ _ _ _ hp.out).mono ?_;rintro e w3 ⟨v,rfl,hv,hb3⟩;clear k0 k1 k2 f0 f1 f2;obtain ⟨vA,vn,vc,rfl⟩:=ay.slc hv;have hB3:=ah.mk ((ak hB2.out _).trans (hb3.mono (by have:=hB2.out.size;simp only [World.alloc,aiO];omega)));have hv:=ah.mk (Kd.sS hv (by have:=hB2.out.size;simp only [World.alloc,aiO];omega:w.heap.size ≤ _));have bk:=ah.mk (dR bk.out hb3);obtain ⟨⟨k0,k1,k2⟩,f0,f1,f2⟩:=bR.facts bk.out;clear hb3))
   refine bodyPost_ret (jO rfl _ _ w.heap.size 115 #[.string r1,.string r2,.slice vA vn vc] (0,0) _ rfl (bR.three (w:=w) (B:=0) bk.out).1 Try.underlying115 rfl (by kernel_rfl)) rfl ?_
   exact ⟨_,rfl,(bR.three (w:=w) (B:=0) bk.out).2.2 _ _ _ _ hv.out,(bR.three bk.out).2.1 hB3.out (ahG _)⟩
def d9.all (k:Nat):List ByteArray → Option (List ByteArray)
 | []=>some []
 | x :: l=>(mI.f k x).bind fun y=>(d9.all k l).bind fun m=>some (y :: m)
def d9.fin (p1 p2:ByteArray) (m:List ByteArray):Option ByteArray :=
 if p1.size + (strings_Join.cat m).size + p2.size ≤ 140737488355328 then (if m.length ≤ 1000000 then some (p1 ++ strings_Join.cat m ++ p2) else none) else none
def d9.f (k:Nat) (a0:Int) (a1:ByteArray):Option ByteArray :=
 (bR.f k a0 a1).bind fun p=>(d9.all k p.2.2.1).bind fun m=>d9.fin p.1 p.2.1 m
theorem d9.yu {k:Nat}:∀ {l m:List ByteArray},d9.all k l = some m → m.length = l.length
 | [],m,h=>by cases h;rfl
 | x :: l,m,h=>by
  rw [d9.all] at h
  obtain ⟨y,_,h⟩:=zbm h
  obtain ⟨m',h',h⟩:=zbm h
  cases h
  rw [List.length_cons,List.length_cons,d9.yu h']
theorem d9.calls (k:Nat) (a0:Int) (a1:ByteArray) (r:ByteArray) (w:World) (h:d9.f k a0 a1 = some r) :
  Calls Try.prog 83 #[.int .i64 a0,.string a1] w fun e w'=>e = .returned (.string r) ∧ Below w.heap.size w w':=by
 obtain ⟨⟨p1,p2,l,p4⟩,hp,h'⟩:=zbm h
 clear h
 obtain ⟨m,hm,h'⟩:=zbm h'
 replace hm:d9.all k l = some m:=hm
 replace h':d9.fin p1 p2 m = some r:=h'
 have hml:=d9.yu hm
 have HP:=ah.mk hp
 have HM:=ah.mk hm
 have HF:=ah.mk h'
 have HL:=ah.mk hml
 clear hp hm h' hml
 go_enter Try.func83,Try.ntmps83
 go_wp2_with (first
  | (go_at_call 51;refine (bR.calls _ _ _ _ _ _ _ _ HP.out).mono ?_;rintro e w1 ⟨v,rfl,hv,hb1⟩;obtain ⟨vA,vn,vc,rfl⟩:=ay.slc hv;obtain ⟨rfl,_,hcc⟩:=Kd.xK hv;have hmx:=ah.mk (Kd.aao hcc);clear hcc;have hv2:=ah.mk (Kd.fV hv (.cells #[.string p1,.string p2,.slice vA l.length vc] 115 (0,0)));have hb2:=ah.mk (ak hb1 (.cells #[.string p1,.string p2,.slice vA l.length vc] 115 (0,0)));have bk2:=ah.mk (sQ w1 (.cells #[.string p1,.string p2,.slice vA l.length vc] 115 (0,0)));have hge:=ah.mk hb1.size;clear hv hb1))
 generalize hw1:w1.alloc (.cells #[.string p1,.string p2,.slice vA l.length vc] 115 (0,0)) = w2 at *
 generalize hg:w1.heap.size = g at *
 clear hw1 hg
 go_loopw [18] (fun v18 wr=>∃ (j:Nat) (cur:List ByteArray),v18 = .int .i64 j ∧ j ≤ l.length ∧ ah (cur.length = l.length ∧ ∃ mm,d9.all k (cur.drop j) = some mm ∧ m = cur.take j ++ mm) ∧ ah (wr.heap[g]? = some (.cells #[.string p1,.string p2,.slice vA l.length vc] 115 (0,0))) ∧ ah (Kd.R Kd.string 9 wr w.heap.size (fun _=>True) (.slice vA l.length vc) cur) ∧ ah (Below w.heap.size w wr)) (fun v18 _=>l.length - (intOf v18).toNat)
 case atStart=>exact ⟨0,l,rfl,aij _,⟨rfl,m,HM.out,rfl⟩,bk2,hv2,hb2⟩
 case round =>
  clear HM hv2 hb2 bk2
  obtain ⟨j,cur,rfl,hj,hc,bk,hR,hB⟩:=hrel
  by_cases hlt:j < l.length
  ·obtain ⟨hcl,mm,hmm,hmt⟩:=hc.out
   have hjc:j < cur.length:=by omega
   rw [ajf hjc,d9.all] at hmm
   obtain ⟨y,hy,hmm⟩:=zbm hmm
   obtain ⟨m',hm',hmm⟩:=zbm hmm
   obtain rfl:mm = y :: m':=(aia hmm).symm
   have hnew:=ah.mk (show (cur.set j y).length = l.length ∧ ∃ mm,d9.all k ((cur.set j y).drop (j + 1)) = some mm ∧ m = (cur.set j y).take (j + 1) ++ mm from by
    refine ⟨by rw [ajg];exact hcl,m',?_,?_⟩
    ·rw [List.drop_set_of_lt (by omega)];exact hm'
    ·have e:(cur.set j y).take (j + 1) = cur.take j ++ [y]:=by
      rw [List.take_succ_eq_append_getElem (by rw [ajg];exact hjc),List.getElem_set_self,List.take_set_of_le (ahG j)]
     rw [hmt,e,air];rfl)
   obtain ⟨gr,cap,e0,_,_,cells,hcells⟩:=Kd.VI hR.out (by omega)
   injection e0 with e1 e2 e3
   subst e1 e3
   have hne:=ah.mk (show g ≠ gr from VD bk.out hcells (by decide))
   have hxc:=Kd.BS ByteArray.empty hR.out (j:Int) (by omega) (by omega)
   have hxe:FU ByteArray.empty cur (j:Int) = cur[j]:=by
    unfold FU
    rw [Int.toNat_natCast,ah5,ahQ hjc]
    rfl
   rw [hxe,Int.toNat_natCast] at hxc
   have HY:=ah.mk hy
   have c0:=hxc.1
   have c1:=(bR.facts bk.out).1.2.2
   have hlt2:=ah.mk hlt
   have p0:(0 ≤ (j:Int)) = True:=ahM (by omega)
   have q0:((j:Int) < (l.length:Int)) = True:=ahM (by omega)
   generalize cur[j] = x at *
   clear hmm hm' hmt hy hxe hxc hcells hc e2 hlt hjc hcl
   go_wp2
   go_region_with (first | (go_at_call 48;refine (mI.calls _ _ _ _ HY.out).mono ?_;rintro e w3 ⟨rfl,hb3⟩;have bk3:=dR (aQ bk.out) hb3;have Q6:=Kd.lG (Kd.gU hR.out) hb3;have hB3:=ah.mk ((ji hB.out).trans (hb3.mono hB.out.size));have d0:=(Kd.BS ByteArray.empty Q6 (j:Int) (by omega) (by have:=hlt2.out;omega)).1;have d1:=(Kd.BS ByteArray.empty Q6 (j:Int) (by omega) (by have:=hlt2.out;omega)).2;rw [Int.toNat_natCast] at d0 d1;have d2:=(bR.facts bk3).1.2.2;have bk3:=ah.mk bk3;have Q6:=ah.mk Q6;clear hb3))
   all_goals
    have hfin:=Kd.VK Q6.out (j:Int) y
    rw [Int.toNat_natCast] at hfin
    have bk4:=ah.mk (oo (p:=⟨gr,j,none⟩) bk3.out hne.out (.string y))
    have hR4:=ah.mk hfin.1
    have hB4:=ah.mk (hB3.out.grown hfin.2 hB3.out.size (fun k e=>by cases e;exact Kd.VH Q6.out gr rfl))
    clear hfin
    generalize w3.setCell ⟨gr,j,none⟩ (.string y) = w4 at *
    clear c0 c1 d0 d1 d2 p0 q0
    have hw:=(show wrap64 ((j:Int) + 1) = ((j + 1:Nat):Int) from by have hlt:=hlt2.out;have hm9:=hmx.out;rw [B.jH (by omega) (by omega)];omega)
    have hw:=ah.mk hw
    go_wp2
    go_roundw
    case rel=>have hlt:=hlt2.out;have hm9:=hmx.out;exact ⟨j + 1,cur.set j y,by rw [hw.out],hlt2.out,hnew,bk4,hR4,hB4⟩
    case measure=>have hlt:=hlt2.out;have hm9:=hmx.out;rw [hw.out];simp only [intOf];omega
  ·obtain rfl:j = l.length:=by omega
   have hcm:m = cur:=by
    obtain ⟨hcl,mm,hmm,hmt⟩:=hc.out
    rw [← hcl,List.drop_length] at hmm
    cases hmm
    rw [hmt,← hcl,aiv,aiG]
   subst hcm
   have q0:((l.length:Int) < (l.length:Int)) = False:=eq_false (by omega)
   obtain ⟨⟨k0,k1,k2⟩,_,_,_⟩:=bR.facts bk.out
   have hF:=HF.out
   unfold d9.fin at hF
   by_cases z1:p1.size + (strings_Join.cat m).size + p2.size ≤ 140737488355328
   ·rw [ahC z1] at hF
    by_cases z2:m.length ≤ 1000000
    ·rw [ahC z2] at hF
     obtain rfl:=aia hF
     have z1:=ah.mk z1
     have z2:=ah.mk z2
     clear hF HF
     go_wp2_with (first
      | (go_at_call 96;refine (iC.calls _ _ _ m _ _ _ hR.out z2.out z1.out).mono ?_;rintro e w4 ⟨rfl,hb4⟩;have hB4:=ah.mk (hB.out.trans (hb4.mono hB.out.size));clear hb4))
     go_ret
     exact ⟨rfl,hB4.out⟩
    ·rw [ahD z2] at hF;cases hF
   ·rw [ahD z1] at hF;cases hF
def mK.f (k:Nat) (a0:Int) (a1:ByteArray):Option (List ByteArray):=(bR.f k a0 a1).bind fun NG=>(some NG.2.2.1)
theorem mK.calls (k:Nat) (a0:Int) (a1:ByteArray) (r:List ByteArray) (w:World) (h:mK.f k a0 a1 = some r) :
  Calls Try.prog 29 #[.int .i64 a0,.string a1] w fun e w'=>∃ SY:Value,e = .returned (SY) ∧ Kd.R Kd.string 9 w' w.heap.size (fun _=>True) SY r ∧ Below w.heap.size w w':=by
 have aaL:=Try.underlying115
 have HB:=ah.mk (Below.refl w.heap.size w)
 have H:((bR.f k a0 a1).bind fun NG=>(some NG.2.2.1)) = some r:=h
 clear h
 replace H:=zbm H
 obtain ⟨⟨aa0,aa1,V5,t138⟩,A30,H⟩:=H
 replace H:(some V5) = some r:=H
 have A3:=ah.mk A30
 clear A30
 obtain rfl:=aia H
 go_enter Try.func29,Try.ntmps29
 go_wp2_with (first | ((with_reducible refine eG (f:=51) rfl ?_);refine jP (some 10) rfl rfl Try.func51 (by kernel_rfl) rfl #[.int .i64 a0,.string a1] rfl (by (try simp only [aix,ahO,ahV]) <;> rfl) ?_;(with_reducible refine (bR.calls k a0 a1 aa0 aa1 V5 t138 _ A3.out).mono ?_);rintro e w4 ⟨ahz,rfl,ho0,hb⟩;refine ⟨_,rfl,?_⟩;have iH:=ah.mk (Kd.sS ho0 (dJ (by repeat first | exact HB.out | apply ak | apply aj | apply av)));have ko:=ah.mk (dA (by repeat first | exact HB.out | apply ak | apply aj | apply av) hb);clear HB;have Ey:=iH;have HB:=ko;clear iH ko;(try clear hb);(try clear hb2);(try clear hk);(try clear hi);(try clear ho0)) | ((with_reducible refine mg (N:=5) rfl ?_);refine kK ?hg (N:=5) ?hd (cs:=#[.string (⟨#[]⟩:ByteArray),.string (⟨#[]⟩:ByteArray),.slice none 0 0]) (t:=115) ?hr ?_;(case hd=>rfl);(case hg=>rfl);(case hr=>first | (go_simp;done) | (go_simp;rfl));intro vC hg w5 nM hb;have iH:=ah.mk (Kd.lG (by (with_reducible repeat (first | apply Kd.fV | apply Kd.gN | apply Kd.gU));exact Ey.out) hb);have ko:=ah.mk (dA (by repeat first | exact HB.out | apply ak | apply aj | apply av) hb);have oD:=ah.mk (nM);have oF:=ah.mk ((by rw [hg];exact (dJ (by repeat first | exact HB.out | apply ak | apply aj | apply av)):w.heap.size ≤ vC));have qF:=ah.mk ((by rw [hg];exact (dJ (by repeat first | exact HB.out | apply ak | apply aj | apply av)):w.heap.size ≤ vC));clear Ey;clear HB;have Ey:=iH;have HB:=ko;have yw:=oD;have ahh:=oF;have aa2:=qF;clear iH ko oD oF qF;clear hb nM hg;have afa:w5.cell? ⟨vC,0,none⟩ = some (.string (⟨#[]⟩:ByteArray)):=(bJ yw.out 0).trans rfl;have afb:w5.cell? ⟨vC,1,none⟩ = some (.string (⟨#[]⟩:ByteArray)):=(bJ yw.out 1).trans rfl;have afc:w5.cell? ⟨vC,2,none⟩ = some (.slice none 0 0):=(bJ yw.out 2).trans rfl;have afd:=bE yw.out 0;have afe:=bE yw.out 1;have aff:=bE yw.out 2;obtain ⟨Ao7,co7,eo7⟩:=Kd.BR Ey.out;subst eo7))
 go_ret
 exact ⟨_,by first | rfl | (simp [aY,aZ] <;> rfl) | (simp [*,aY,aZ] <;> rfl),by (with_reducible repeat (first | apply Kd.fV | apply Kd.gN | apply Kd.gU));exact Kd.pI (Kd.sU (p:=⟨vC,2,none⟩) (Kd.sU (p:=⟨vC,1,none⟩) (Kd.sU (p:=⟨vC,0,none⟩) (Kd.sV Ey.out yw.out (by decide)) (fun _ hk=>hk.2) (.string aa0)) (fun _ hk=>hk.2) (.string aa1)) (fun _ hk=>hk.2) (.slice Ao7 V5.length co7)) (fun _ hk=>trivial),by repeat (first | (with_reducible first | exact HB.out | apply ak | apply aj | apply av | refine aT ?_ aa2.out) | exact HB.out)⟩
end
section
open Go.RowKit Go.Proofs.YtfokaoeinpnagaaW.aR Go.Proofs.YtfokaoeinpnagaaW.dD Go.Proofs.YtfokaoeinpnagaaW.eB
attribute [local go_sem] jD jE kN kP iV iW jF jG
theorem afg (d:Nat) (w:World) (x0 y0:Int) (x1 y1:Int) (x2 y2:Int) :
  (Op.equalIn (d + 2) 119 (.agg #[.int .i64 x0,.int .i64 x1,.int .i64 x2]) (.agg #[.int .i64 y0,.int .i64 y1,.int .i64 y2])).run Try.prog w = .ok (x0 == y0 && (x1 == y1 && (x2 == y2))) w:=by
 refine B.M5 Try.underlying119 (by kernel_rfl) (by kernel_rfl) ?_
 show (Op.eqItems _ 3 1 _ _ [0,1,2]).run _ _ = _
 refine B.Ef (by go_simp;rfl) (by go_simp;rfl) (by go_simp) ?_
 refine B.Ef (by go_simp;rfl) (by go_simp;rfl) (by go_simp) ?_
 exact B.M4 (by go_simp;rfl) (by go_simp;rfl) (by go_simp)
end
section
open Go.RowKit Go.Proofs.YtfokaoeinpnagaaW.aR Go.Proofs.YtfokaoeinpnagaaW.dD Go.Proofs.YtfokaoeinpnagaaW.eB Go.Proofs.Ytfokaoeinpnagaa.B
def Ao (msg:ByteArray) (i:Int):ByteArray × Int × Int:=(aX.f (rounds i) msg i).getD (⟨#[]⟩,0,0)
theorem Ti (msg:ByteArray) (i:Int) (hm:msg.size ≤ 100000):aX.f (rounds i) msg i = some (Ao msg i):=by
 obtain ⟨R,h1,_⟩:=JL (rounds i) msg i hm (ahG _)
 unfold Ao;rw [h1];rfl
theorem aa3 (k:Nat) (msg:ByteArray) (i:Int) (hm:msg.size ≤ 100000) (hk:rounds i ≤ k):aX.f k msg i = some (Ao msg i):=Es hk (Ti msg i hm)
theorem Ez (msg:ByteArray) (i:Int) (hm:msg.size ≤ 100000) :
  ((Ao msg i).2.2 = 0 ∧ je (Ao msg i).1 = true ∧ 0 ≤ i ∧ i < (Ao msg i).2.1 ∧ (Ao msg i).2.1 ≤ (msg.size:Int)) ∨ (((Ao msg i).2.2 = 2 ∨ (Ao msg i).2.2 = 3) ∧ (Ao msg i).1 = ⟨#[]⟩ ∧ (Ao msg i).2.1 = 0):=Gh hm (Ti msg i hm)
def Kn (msg:ByteArray) (e:Int):Nat → Int → List ByteArray → Option (List ByteArray × Int)
 | 0,i,l=>some (l,i)
 | n + 1,i,l=>if (Ao msg i).2.2 = 0 then (if (Ao msg i).2.1 > e then none else Kn msg e n (Ao msg i).2.1 (l ++ [(Ao msg i).1])) else none
theorem qp (msg:ByteArray) (e:Int) (hm:msg.size ≤ 100000):∀ (n:Nat) (i:Int) (l:List ByteArray) (R:List ByteArray × Int),Kn msg e n i l = some R → i ≤ e → i ≤ R.2 ∧ R.2 ≤ e ∧ R.1.length = l.length + n ∧ (∃ l',R.1 = l ++ l' ∧ ∀ x ∈ l',je x = true)
 | 0,i,l,R,h,hi=>by cases h;exact ⟨aiw _,hi,rfl,[],by simp,by simp⟩
 | n + 1,i,l,R,h,hi=>by
  rw [Kn] at h
  by_cases h0:(Ao msg i).2.2 = 0
  ·rw [ahC h0] at h
   by_cases h1:(Ao msg i).2.1 > e
   ·rw [ahC h1] at h;cases h
   ·rw [ahD h1] at h
    obtain ⟨a1,a2,a3,l',a4,a5⟩:=qp msg e hm n _ _ R h (by omega)
    rcases Ez msg i hm with ⟨_,b2,_,b4,_⟩ | ⟨b1,_⟩
    ·refine ⟨by omega,a2,by rw [a3,ahJ,List.length_singleton];omega,(Ao msg i).1 :: l',by rw [a4];simp,?_⟩
     intro x hx
     rcases ahT.mp hx with rfl | hx
     ·exact b2
     ·exact a5 x hx
    ·omega
  ·rw [ahD h0] at h;cases h
def K0 : Nat:=101000
theorem JR {msg:ByteArray} {i:Int} {k:Nat} (hm:msg.size ≤ 100000) (hi:i ≤ (msg.size:Int)) (hk:K0 ≤ k):rounds i ≤ k:=by unfold rounds;unfold K0 at hk;omega
theorem Co (msg:ByteArray) (e s0 s1 s2:Int) (a b:ByteArray) (hm:msg.size ≤ 100000) (he:e ≤ (msg.size:Int)) (h2:0 ≤ s2 ∧ s2 ≤ 1000) (c:Int) (hc:c ≤ 100):∀ (n k:Nat) (i x:Int) (l:List ByteArray),K0 + n ≤ k → x + n = c → 0 ≤ x → 0 ≤ i → i ≤ e → l.length + n ≤ 1000 →
  bM.l0 (k + 1) msg i e c x s0 s1 s2 a b l = (match Kn msg e n i l with
   | some R=>some (a,msg.extract R.2.toNat e.toNat,R.1,(((msg.extract R.2.toNat e.toNat).size:Int) == s2))
   | none=>some (⟨#[]⟩,⟨#[]⟩,[],false))
 | 0,k,i,x,l,hk,hx,hx0,hi,hie,hl=>by
  rw [bM.l0,ahD (by omega),ahC hi,ahC hie,ahC he,Kn]
 | n + 1,k,i,x,l,hk,hx,hx0,hi,hie,hl=>by
  obtain ⟨k,rfl⟩:∃ m,k = m + 1:=⟨k - 1,by omega⟩
  rw [bM.l0,ahC (by omega),aa3 (k + 1) msg i hm (JR hm (by omega) (by omega)),Kn]
  simp only [Option.bind_some]
  by_cases h0:(Ao msg i).2.2 = 0
  ·rw [ahC h0,ahC h0]
   by_cases h1:(Ao msg i).2.1 > e
   ·rw [ahC h1,ahC h1]
   ·rcases Ez msg i hm with ⟨_,_,_,b4,_⟩ | ⟨b1,_⟩
    ·rw [ahD h1,ahD h1,ahC (by omega),jH (by omega) (by omega)]
     exact Co msg e s0 s1 s2 a b hm he h2 c hc n k _ (x + 1) _ (by omega) (by omega) (by omega) (by omega) (by omega) (by rw [ahJ,List.length_singleton];omega)
    ·omega
  ·rw [ahD h0,ahD h0]
def Tj (s:ByteArray):Nat → Int → Bool
 | 0,_=>false
 | k + 1,i=>if i < (s.size:Int) then Tj s k (i + 1 + bt s i) else decide (i = s.size)
def NH (s:ByteArray):Bool:=decide (0 < s.size) && Tj s (s.size + 1) 0
theorem V6 (s:ByteArray) {k:Nat} {i:Int} (h:(s.size:Int) < i):Tj s k i = false:=by
 cases k with
 | zero=>rfl
 | succ k=>rw [Tj,ahD (by omega)];simp;omega
theorem NI (s:ByteArray) (hs:s.size ≤ 100000) (d:Nat):∀ (k m:Nat) (i:Int),0 ≤ i → i ≤ (s.size:Int) → s.size - i.toNat ≤ d → d + 1 ≤ k → d + 1 ≤ m → dB.l0 k (s.extract i.toNat s.size) = some (Tj s m i):=by
 induction d with
 | zero =>
  intro k m i h0 h1 h2 hk hm
  obtain ⟨k,rfl⟩:∃ j,k = j + 1:=⟨k - 1,by omega⟩
  obtain ⟨m,rfl⟩:∃ j,m = j + 1:=⟨m - 1,by omega⟩
  rw [dB.l0,ahC (toList_nil.mpr (by rw [aib];omega)),Tj,ahD (by omega),ahE (by omega)]
 | succ d ih =>
  intro k m i h0 h1 h2 hk hm
  obtain ⟨k,rfl⟩:∃ j,k = j + 1:=⟨k - 1,by omega⟩
  obtain ⟨m,rfl⟩:∃ j,m = j + 1:=⟨m - 1,by omega⟩
  have hz:(s.extract i.toNat s.size).size = s.size - i.toNat:=by rw [aib];omega
  by_cases hi:i < (s.size:Int)
  ·have hb:bt (s.extract i.toNat s.size) 0 = bt s i:=by
    rw [mE (by omega) (by omega)];congr 1;omega
   have hr:=gB s i
   rw [dB.l0,ahD (by rw [toList_nil];omega),ahC (by omega),hb,jH (n:=bt s i) (by omega) (by omega),jH (n:=1 + bt s i) (by omega) (by omega),Tj,ahC hi]
   by_cases h3:1 + bt s i > ((s.extract i.toNat s.size).size:Int)
   ·rw [ahC h3,V6 s (by omega)]
   ·rw [ahD h3,ahC (by omega),ahC (by omega)]
    have e:(s.extract i.toNat s.size).extract (1 + bt s i).toNat (s.extract i.toNat s.size).size = s.extract (i + 1 + bt s i).toNat s.size:=by
     rw [ByteArray.extract_extract,hz]
     congr 1 <;> omega
    rw [e]
    exact ih k m _ (by omega) (by omega) (by omega) (by omega) (by omega)
  ·rw [dB.l0,ahC (toList_nil.mpr (by omega)),Tj,ahD hi,ahE (by omega)]
theorem NJ (k:Nat) (hk:K0 ≤ k) (s:ByteArray) (hs:s.size ≤ 100000):dB.f k s = some (NH s):=by
 unfold dB.f NH
 by_cases h:s.toList = ([]:List UInt8)
 ·rw [ahC h];rw [toList_nil] at h;rw [h];rfl
 ·rw [ahD h]
  rw [toList_nil] at h
  unfold K0 at hk
  have:=NI s hs s.size k (s.size + 1) 0 (by omega) (by omega) (by omega) (by omega) (by omega)
  rw [show (0:Int).toNat = 0 from rfl,ajx] at this
  rw [this,ahE (by omega),Bool.true_and]
end
section
open Go.RowKit Go.Proofs.YtfokaoeinpnagaaW.aR Go.Proofs.YtfokaoeinpnagaaW.dD Go.Proofs.YtfokaoeinpnagaaW.eB Go.Proofs.Ytfokaoeinpnagaa.B
theorem EA {n:ByteArray} (h:je n = true):n.size ≤ 255:=by
 obtain ⟨l,_,_,hz⟩:=p9.mp h;exact hz
theorem yx : ∀ {l:List ByteArray},(∀ x ∈ l,je x = true) → (strings_Join.cat l).size ≤ 255 * l.length
 | [],_=>aij _
 | x :: l,h=>by
  have h1:=EA (h x (by simp))
  have h2:=yx (l:=l) (fun y hy=>h y (by simp [hy]))
  rw [strings_Join.cat,ah6,List.length_cons]
  omega
def zo (d:ByteArray):ByteArray × Int:=if (d.size:Int) > 65535 then (⟨#[]⟩,4) else (d,0)
theorem Ap (d:ByteArray):(if (d.size:Int) > 65535 then some ((⟨#[]⟩:ByteArray),(4:Int)) else some (d,0)) = some (zo d):=by
 unfold zo;split <;> rfl
def Q7 (msg:ByteArray) (i size:Int) (s:Int × Int × Int):ByteArray × Int :=
 if s.1 ≤ size then (match Kn msg (i + size) s.2.1.toNat (i + s.1) [] with
  | some R=>if R.2 + s.2.2 = i + size then zo (msg.extract i.toNat (i + s.1).toNat ++ strings_Join.cat R.1 ++ msg.extract R.2.toNat (i + size).toNat) else (⟨#[]⟩,4)
  | none=>(⟨#[]⟩,4)) else (⟨#[]⟩,4)
def Gn (msg:ByteArray) (i size kind:Int):ByteArray × Int :=
 if iB msg i size then (match ay.CP kind with
  | some s=>Q7 msg i size s
  | none=>if kind = 16 then (if NH (msg.extract i.toNat (i + size).toNat) = true then zo (msg.extract i.toNat (i + size).toNat) else (⟨#[]⟩,4)) else zo (msg.extract i.toNat (i + size).toNat))
 else (⟨#[]⟩,2)
theorem qw {kind:Int} {s:Int × Int × Int} (h:ay.CP kind = some s):0 ≤ s.1 ∧ s.1 ≤ 16 ∧ 0 ≤ s.2.1 ∧ s.2.1 ≤ 2 ∧ 0 ≤ s.2.2 ∧ s.2.2 ≤ 20 ∧ kind ≠ 16 ∧ (s.1 = 0 → s.2.1 = 0 → False):=by
 unfold ay.CP at h
 repeat' split at h
 all_goals (first | (cases h;subst_vars;decide) | cases h)
theorem V7 (k:Nat) (hk:K0 ≤ k) (kind:Int) (hkind:kind ≠ 16) (d:ByteArray):ay.fin k kind d true = some (zo d):=by
 unfold ay.fin
 rw [ahC rfl,ahD hkind,Ap]
theorem uJ (k:Nat) (kind:Int) (d:ByteArray):ay.fin k kind d false = some (⟨#[]⟩,4):=by
 unfold ay.fin;rw [ahD aiF]
theorem JU (msg:ByteArray) (i size kind:Int) (k:Nat) (hk:K0 ≤ k) (hm:msg.size ≤ 100000) (f:ByteArray → Option Bool) (hf:∀ s,s.size ≤ 100000 → f s = some (NH s)) (t:ByteArray) (ht:t.size ≤ 100000) :
  (if kind = 16 then ((f t).bind fun b=>if b = true then (if (t.size:Int) > 65535 then some ((⟨#[]⟩:ByteArray),(4:Int)) else some (t,0)) else some (⟨#[]⟩,4)) else (if (t.size:Int) > 65535 then some (⟨#[]⟩,4) else some (t,0))) =
   some (if kind = 16 then (if NH t = true then zo t else (⟨#[]⟩,4)) else zo t):=by
 rw [hf t ht,Ap]
 simp only [Option.bind_some]
 split
 ·split <;> rfl
 ·rfl
theorem JV (k:Nat) (hk:K0 + 10 ≤ k) (msg:ByteArray) (i size kind:Int) (hm:msg.size ≤ 100000) (ht:iB msg i size) (s:Int × Int × Int) (hs:ay.CP kind = some s):ay.g k msg i size kind s = some (Q7 msg i size s):=by
 obtain ⟨h0,h1,h2⟩:=ht
 obtain ⟨a1,a2,a3,a4,a5,a6,a7,a8⟩:=qw hs
 obtain ⟨s0,s1,s2⟩:=s
 simp only at a1 a2 a3 a4 a5 a6 a8
 have e1:wrap64 (i + size) = i + size:=jH (by omega) (by omega)
 have e2:wrap64 (i + size - i) = size:=by rw [jH (by omega) (by omega)];omega
 have e3:wrap64 (i + s0) = i + s0:=jH (by omega) (by omega)
 unfold ay.g bM.f Q7
 simp only [e1,e2,e3]
 by_cases c:s0 ≤ size
 ·rw [ahC c,ahC c,ahC h0,ahC (by omega),ahC (by omega)]
  obtain ⟨k,rfl⟩:∃ j,k = j + 1:=⟨k - 1,by omega⟩
  rw [Co msg (i + size) s0 s1 s2 _ _ hm h2 ⟨a5,by omega⟩ s1 (by omega) s1.toNat k (i + s0) 0 [] (by omega) (by omega) (aiw _) (by omega) (by omega) (by simp only [List.length_nil];omega)]
  have hz:(msg.extract i.toNat (i + s0).toNat).size ≤ 16:=by rw [aib];omega
  cases hr:Kn msg (i + size) s1.toNat (i + s0) [] with
  | none =>
   simp only [Option.bind_some]
   rw [ahC (by decide),ahC (by decide),uJ]
  | some R =>
   obtain ⟨b1,b2,b3,l',b4,b5⟩:=qp msg _ hm _ _ _ R hr (by omega)
   have hcz:=yx b5
   rw [List.nil_append] at b4
   rw [← b4] at hcz
   rw [List.length_nil,ah8] at b3
   have hbz:(msg.extract R.2.toNat (i + size).toNat).size = (i + size - R.2).toNat:=by rw [aib];omega
   simp only [Option.bind_some]
   rw [ahC (by omega),ahC (by omega)]
   by_cases d:R.2 + s2 = i + size
   ·rw [ahC d,show (((msg.extract R.2.toNat (i + size).toNat).size:Int) == s2) = true from aie.mpr (by omega),V7 k.succ (by omega) kind a7]
   ·rw [ahD d,show (((msg.extract R.2.toNat (i + size).toNat).size:Int) == s2) = false from aiH.mpr (by omega),uJ]
 ·rw [ahD c,ahD c]
  simp only [Option.bind_some]
  rw [ahC (by decide),ahC (by decide),uJ]
theorem V8 (k:Nat) (hk:K0 + 10 ≤ k) (msg:ByteArray) (i size kind:Int) (hm:msg.size ≤ 100000):ay.f k msg i size kind = some (Gn msg i size kind):=by
 unfold ay.f Gn
 rw [tH msg i size (by omega)]
 simp only [Option.bind_some]
 by_cases ht:iB msg i size
 ·rw [ahC ht,ahC ht]
  simp only [ah9]
  cases hs:ay.CP kind with
  | some s=>exact JV k hk msg i size kind hm ht s hs
  | none =>
   have hz:(msg.extract i.toNat (i + size).toNat).size ≤ 100000:=by rw [aib];omega
   have:=JU msg i size kind k (by omega) hm (dB.f k) (fun s h=>NJ k (by omega) s h) _ hz
   unfold ay.fin
   rw [ahC rfl]
   exact this
 ·rw [ahD ht,ahD ht];rfl
end
section
open Go.RowKit Go.Proofs.YtfokaoeinpnagaaW.aR Go.Proofs.YtfokaoeinpnagaaW.dD Go.Proofs.YtfokaoeinpnagaaW.eB Go.Proofs.Ytfokaoeinpnagaa.B
def CG (kind:Int) (d:ByteArray):Bool:=decide (d.size ≤ 65535) && (decide ((Gn d 0 d.size kind).2 = 0) && decide ((Gn d 0 d.size kind).1 = d))
theorem Cq {kind:Int} {d:ByteArray}:CG kind d = true ↔ d.size ≤ 65535 ∧ Gn d 0 d.size kind = (d,0):=by
 unfold CG
 simp only [ahK,ahZ]
 constructor
 ·rintro ⟨h1,h2,h3⟩;exact ⟨h1,Prod.ext h3 h2⟩
 ·rintro ⟨h1,h2⟩;rw [h2];exact ⟨h1,rfl,rfl⟩
theorem Aq (k:Nat) (hk:K0 + 10 ≤ k) (kind:Int) (d:ByteArray):iO.f k kind d = some (CG kind d):=by
 unfold iO.f CG
 by_cases h:(d.size:Int) > 65535
 ·rw [ahC h,ahH (by omega)];rfl
 ·rw [ahD h,V8 k hk d 0 _ kind (by omega),ahE (by omega),Bool.true_and]
  simp only [Option.bind_some]
  by_cases h0:(Gn d 0 d.size kind).2 = 0
  ·rw [ahC h0,ahE h0,Gd,Bool.true_and]
  ·rw [ahD h0,ahH h0,Bool.false_and]
theorem Gp (d:ByteArray):iB d 0 d.size:=⟨aiw _,by omega,by omega⟩
theorem JW {x d:ByteArray} (h:zo x = (d,0)):x = d ∧ x.size ≤ 65535:=by
 unfold zo at h
 split at h
 ·have:=ah1 Prod.snd h;cases this
 ·exact ⟨ah1 Prod.fst h,by omega⟩
theorem yA {kind:Int} {d:ByteArray} {s:Int × Int × Int} (h:CG kind d = true) (hs:ay.CP kind = some s) :
  ∃ R,s.1 ≤ (d.size:Int) ∧ Kn d d.size s.2.1.toNat s.1 [] = some R ∧ R.2 + s.2.2 = d.size ∧ d = d.extract 0 s.1.toNat ++ strings_Join.cat R.1 ++ d.extract R.2.toNat d.size ∧ s.1 ≤ R.2 ∧ R.2 ≤ (d.size:Int) ∧ R.1.length = s.2.1.toNat ∧ (∀ x ∈ R.1,je x = true) ∧ R.2 = s.1 + (strings_Join.cat R.1).size:=by
 obtain ⟨h0,h1⟩:=Cq.mp h
 unfold Gn Q7 at h1
 rw [ahC (Gp d),hs] at h1
 simp only [Int.zero_add,Int.toNat_natCast] at h1
 obtain ⟨a1,a2,a3,a4,a5,a6,a7,a8⟩:=qw hs
 by_cases c:s.1 ≤ (d.size:Int)
 ·rw [ahC c] at h1
  cases hr:Kn d d.size s.2.1.toNat s.1 [] with
  | none=>rw [hr] at h1;have:=ah1 Prod.snd h1;cases this
  | some R =>
   rw [hr] at h1
   simp only at h1
   by_cases e:R.2 + s.2.2 = d.size
   ·rw [ahC e] at h1
    obtain ⟨h2,_⟩:=JW h1
    obtain ⟨b1,b2,b3,l',b4,b5⟩:=qp d _ (by omega) _ _ _ R hr c
    rw [List.nil_append] at b4
    rw [← b4] at b5
    have hz:=ah1 ByteArray.size h2
    simp only [ah6,aib] at hz
    refine ⟨R,c,rfl,e,h2.symm,b1,b2,by rw [b3];simp,b5,?_⟩
    simp only [show (0:Int).toNat = 0 from rfl] at hz
    omega
   ·rw [ahD e] at h1;have:=ah1 Prod.snd h1;cases this
 ·rw [ahD c] at h1;have:=ah1 Prod.snd h1;cases this
def prt (kind:Int) (d:ByteArray):ByteArray × ByteArray × List ByteArray × Bool :=
 if CG kind d = true then (match ay.CP kind with
  | some s=>(match Kn d d.size s.2.1.toNat s.1 [] with
   | some R=>(d.extract 0 s.1.toNat,d.extract R.2.toNat d.size,R.1,true)
   | none=>(⟨#[]⟩,⟨#[]⟩,[],false))
  | none=>(d,⟨#[]⟩,[],true)) else (⟨#[]⟩,⟨#[]⟩,[],false)
theorem vS (k:Nat) (hk:K0 + 20 ≤ k) (d:ByteArray) (hd:d.size ≤ 65535) (s0 s1 s2:Int) (a1:0 ≤ s0) (a3:0 ≤ s1) (a4:s1 ≤ 2) (a5:0 ≤ s2) (a6:s2 ≤ 20) (R:List ByteArray × Int) (c1:s0 ≤ (d.size:Int)) (c2:Kn d d.size s1.toNat s0 [] = some R) (c3:R.2 + s2 = d.size) :
  bM.f k d 0 (d.size:Int) s0 s1 s2 = some (d.extract 0 s0.toNat,d.extract R.2.toNat d.size,R.1,true):=by
 unfold bM.f
 have e2:wrap64 ((d.size:Int) - 0) = d.size:=by rw [jH (by omega) (by omega)];omega
 have e3:wrap64 (0 + s0) = s0:=by rw [jH (by omega) (by omega)];omega
 obtain ⟨b1,b2,_⟩:=qp d _ (by omega) _ _ _ R c2 c1
 have hz:((d.extract R.2.toNat d.size).size:Int) = s2:=by rw [aib];omega
 obtain ⟨k,rfl⟩:∃ j,k = j + 1:=⟨k - 1,by omega⟩
 have h:=Co d d.size s0 s1 s2 (d.extract 0 s0.toNat) ⟨#[]⟩ (by omega) (aiw _) ⟨a5,by omega⟩ s1 (by omega) s1.toNat k s0 0 [] (by omega) (by omega) (aiw _) a1 c1 (by simp only [List.length_nil];omega)
 rw [c2] at h
 simp only [Int.toNat_natCast] at h
 rw [show (((d.extract R.2.toNat d.size).size:Int) == s2) = true from aie.mpr hz] at h
 rw [e2,ahC c1,ahC (aiw _),e3,ahC a1,ahC c1]
 exact h
theorem Au (k:Nat) (hk:K0 + 20 ≤ k) (kind:Int) (d:ByteArray):bR.f k kind d = some (prt kind d):=by
 unfold bR.f prt
 rw [Aq k (by omega)]
 simp only [Option.bind_some]
 by_cases h:CG kind d = true
 ·rw [ahC h,ahC h]
  cases hs:ay.CP kind with
  | none=>rfl
  | some s =>
   obtain ⟨R,c1,c2,c3,c4,c5,c6,c7,c8,c9⟩:=yA h hs
   obtain ⟨a1,a2,a3,a4,a5,a6,a7,a8⟩:=qw hs
   obtain ⟨h0,_⟩:=Cq.mp h
   obtain ⟨s0,s1,s2⟩:=s
   simp only at a1 a2 a3 a4 a5 a6 c1 c2 c3 c5
   simp only [c2]
   exact vS k hk d h0 s0 s1 s2 a1 a3 a4 a5 a6 R c1 c2 c3
 ·rw [ahD h,ahD h]
theorem NK (k:Nat) (hk:K0 + 20 ≤ k) (kind:Int) (d:ByteArray):mK.f k kind d = some (prt kind d).2.2.1:=by
 unfold mK.f;rw [Au k hk];rfl
theorem uK {kind:Int} {d:ByteArray}:(∀ x ∈ (prt kind d).2.2.1,je x = true) ∧ (prt kind d).2.2.1.length ≤ 2:=by
 unfold prt
 by_cases h:CG kind d = true
 ·rw [ahC h]
  cases hs:ay.CP kind with
  | none=>exact ⟨by simp,by simp⟩
  | some s =>
   obtain ⟨R,c1,c2,c3,c4,c5,c6,c7,c8,c9⟩:=yA h hs
   obtain ⟨a1,a2,a3,a4,a5,a6,a7,a8⟩:=qw hs
   simp only [c2]
   exact ⟨c8,by omega⟩
 ·rw [ahD h];exact ⟨by simp,by simp⟩
theorem vD (k:Nat) (hk:600 ≤ k) (n:ByteArray) (hs:n.size ≤ 1000000000):mI.f k n = some (if je n = true then kg n else ⟨#[]⟩):=by
 unfold mI.f
 rw [xY k hk n hs,VT n hs]
 simp only [Option.bind_some]
 split <;> rfl
theorem all_eq (k:Nat) (hk:600 ≤ k):∀ l:List ByteArray,(∀ x ∈ l,je x = true) → d9.all k l = some (l.map kg)
 | [],_=>rfl
 | x :: l,h=>by
  have hx:=h x (by simp)
  have hz:=EA hx
  rw [d9.all,vD k hk x (by omega),ahC hx]
  simp only [Option.bind_some]
  rw [all_eq k hk l (fun y hy=>h y (by simp [hy]))]
  rfl
theorem tK : ∀ l:List ByteArray,(strings_Join.cat (l.map kg)).size = (strings_Join.cat l).size
 | []=>rfl
 | x :: l=>by rw [ahO,strings_Join.cat,strings_Join.cat,ah6,ah6,lQ,tK l]
def lw (kind:Int) (d:ByteArray):ByteArray:=(prt kind d).1 ++ strings_Join.cat ((prt kind d).2.2.1.map kg) ++ (prt kind d).2.1
theorem JX {kind:Int} {d:ByteArray}:(prt kind d).1.size ≤ 65535 ∧ (prt kind d).2.1.size ≤ 65535:=by
 unfold prt
 by_cases h:CG kind d = true
 ·obtain ⟨h0,_⟩:=Cq.mp h
  rw [ahC h]
  cases hs:ay.CP kind with
  | none=>exact ⟨h0,by show (⟨#[]⟩:ByteArray).size ≤ 65535;decide⟩
  | some s =>
   obtain ⟨R,c1,c2,_⟩:=yA h hs
   simp only [c2]
   simp only [aib]
   omega
 ·rw [ahD h];exact ⟨by decide,by decide⟩
theorem Q8 (k:Nat) (hk:K0 + 20 ≤ k) (kind:Int) (d:ByteArray):d9.f k kind d = some (lw kind d):=by
 obtain ⟨p1,p2⟩:=@uK kind d
 obtain ⟨p3,p4⟩:=@JX kind d
 have hcz:=yx p1
 unfold d9.f
 rw [Au k hk]
 simp only [Option.bind_some]
 rw [all_eq k (by unfold K0 at hk;omega) _ p1]
 simp only [Option.bind_some]
 unfold d9.fin lw
 rw [ahC (by rw [tK];omega),ahC (by rw [ahF];omega)]
end
section
open Go.RowKit Go.Proofs.YtfokaoeinpnagaaW.aR Go.Proofs.YtfokaoeinpnagaaW.dD Go.Proofs.YtfokaoeinpnagaaW.eB Go.Proofs.Ytfokaoeinpnagaa.B
theorem EL (xs:List Int) (h:∀ x ∈ xs,0 ≤ x ∧ x ≤ 255):numsOf (strOfNums xs) = xs:=by
 unfold numsOf
 rw [strOfNums_data,ai5]
 conv=>rhs;rw [← List.map_id xs]
 refine List.map_congr_left fun x hx=>?_
 have:=h x hx
 simp [UInt8.toNat_ofNat']
 omega
theorem IC (b:Int) (h:0 ≤ b ∧ b ≤ 63):kg (sg b) = sg b:=by
 have e:numsOf (sg b) = [b]:=EL [b] (by intro x hx;simp only [ait] at hx;omega)
 unfold kg
 rw [e]
 have:mF b = b:=by unfold mF;rw [ahD (by omega)]
 rw [ahO,ahV,this]
 rfl
theorem J3 : kg root = root:=by rw [QE];exact IC 0 (by omega)
theorem Rq {x:ByteArray} (h:yQ x):yQ (kg x):=by unfold yQ at *;rw [lQ];exact h
theorem yG : ∀ (l:List ByteArray),(∀ x ∈ l,yQ x) → kg (enc l) = enc (l.map kg)
 | [],_=>by rw [ou,ahV,ou,J3]
 | x :: l,h=>by
  have hx:=h x (by simp)
  rw [mG,vB,vB,yG l (fun y hy=>h y (by simp [hy])),ahO,mG,lQ,IC _ (by have:=hx.2;omega)]
theorem Rt {l:List ByteArray} (h:∀ x ∈ l,yQ x):∀ x ∈ l.map kg,yQ x:=by
 intro x hx
 obtain ⟨y,hy,rfl⟩:=ah0.mp hx
 exact Rq (h y hy)
theorem IE {n:ByteArray} (h:je n = true):je (kg n) = true:=by
 obtain ⟨l,rfl,hok,hz⟩:=p9.mp h
 rw [yG l hok]
 refine QF (Rt hok) ?_
 rw [← yG l hok,lQ];exact hz
end
end Go.Proofs.Ytfokaoeinpnagaa.ZQ
namespace Go.Proofs.Ytfokaoeinpnagaa.Ev
section
open Go Go.RowKit
structure Old (w w':World):Prop where
 os:w'.os = w.os
 output:w'.output = w.output
 size:w.heap.size ≤ w'.heap.size
 block:∀ k,k < w.heap.size → w'.heap[k]? = w.heap[k]?
theorem Old.frame {W w':World} (h:Old W w') (may:MemPlace → Prop):W.keptBut w' may:=by
 refine ⟨h.os,h.output,fun i hi=>?_⟩
 rw [h.block i hi]
 split <;> simp_all
theorem Old.same {W w':World} (h:Old W w') {p:MemPlace} (hp:p.block < W.heap.size):W.sameAt w' p:=by
 cases p with
 | cell b o=>exact World.cell?_of_block (w:=W) (h.block b hp)
 | map b=>exact h.block b hp
theorem Old.trod {H:Type} {enc:TypeId × Value → H} {P:Program} {t:TypeId} (hl:laidOutB P = true) (hr:P.readableRec t = true) (hrow:t < P.types.size) {W W':World} {v:Value} {d:DataW H} {ps:List MemPlace}
  (h:DataW.Trod enc P W 0 (fun _=>true) true t v d ps) (hb:Old W W') (hlt:∀ x ∈ ps,x.block < W.heap.size):DataW.Trod enc P W' 0 (fun b=>decide (b < W.heap.size)) true t v d ps :=
 WideElems.Trod_stays hl hr hrow h (fun x hx=>hb.same (hlt x hx)) (fun x hx=>by simpa using hlt x hx)
theorem J6 {P:Program} {Γ:Env} (ku:gQ P Γ) {f:FuncId} {dW oU:List AV} {b:Bool} {vals:List Value} {W:World} (h:Γ f dW = some ([.one (.f (.bool b))],oU)) (ha:fu (fun k=>k < W.heap.size) W dW vals []) :
  Calls P f vals.toArray W fun e W'=>e = .returned (.bool b) ∧ Old W W':=by
 refine (ku f dW _ _ h (fun k=>k < W.heap.size) W vals [] ha aji (by simp) (fun _ h=>h)).mono fun e w' ⟨bn,sw,b1,b2,he,hp⟩=>?_
 refine ⟨?_,hp.kp.1,hp.kp.2,hp.big,fun k hk=>hp.ext k hk (by simp)⟩
 match sw,hp.rs with
 | [v],⟨c1,c2,h1,h2,h3⟩=>rw [he,show v = .bool b from h1.1];rfl
def N7 (P:Program) {α:Type} (T:TypeId) (f:α → List FV) (G:α → Prop):Prop :=
 ∀ {H:Type} (enc:TypeId × Value → H) (w:World) (spare:Nat → Bool) (held:Bool) (fuel:Nat) (cs:List Value) (x:DataW H × List MemPlace),
  DataW.trod enc P w 0 spare held fuel T cs = some x → (∀ n ∈ x.1.weights P T,n ≤ reachBytes) → ∃ a:α,bV (fun k=>k < w.heap.size) w (f a) cs ∧ G a
section
variable {P : Program}
theorem IG {k:IntKind} {T:TypeId} (h:P.underlying T = some (.int k)):N7 P T (fun n=>[FV.int k n]) (fun n=>(Lit.int k n).wf = true):=by
 intro H enc w spare held fuel cs x hx _
 obtain ⟨n,rfl,rfl,hw⟩:=DataW.trod_int h hx
 exact ⟨n,⟨by simp only [eO],trivial⟩,hw⟩
theorem II {T:TypeId} (h:P.underlying T = some .string):N7 P T (fun s=>[FV.str s]) (fun s=>s.size ≤ 140737488351232):=by
 intro H enc w spare held fuel cs x hx hz
 obtain ⟨s,rfl,rfl,hw⟩:=DataW.trod_string h hx
 refine ⟨s,⟨by simp only [eO],trivial⟩,?_⟩
 have:=hz s.data.toList.length (by simp [DataW.weights])
 rw [Array.length_toList] at this
 exact this
theorem nP {H:Type} {e:TypeId}:∀ {ds:List (DataW H)} {i:Nat} {d:DataW H},ds[i]? = some d → ∀ n ∈ d.weights P e,n ∈ DataW.weightsAll P e ds
 | [],i,d,h,_,_=>by simp at h
 | d0 :: ds,0,d,h,n,hn=>by
  simp at h;subst h
  exact ah2.mpr (.inl hn)
 | d0 :: ds,i + 1,d,h,n,hn=>by
  simp at h
  exact ah2.mpr (.inr (nP h n hn))
theorem vF {H:Type} {ts:List TypeId} {ds:List (DataW H)} (h:(DataW.weightsEach P ts ds).all (· ≤ reachBytes) = true) {j:Nat} {t:TypeId} {d:DataW H} (ht:ts[j]? = some t) (hd:ds[j]? = some d) :
  ∀ n ∈ d.weights P t,n ≤ reachBytes:=fun n hn=>by
 have:=ahR.1 h n (DataW.weights_mem_each ht hd n hn)
 simpa using this
theorem tN {α:Type} {Q:Nat → α → Prop}:∀ n,(∀ i,i < n → ∃ y,Q i y) → ∃ ys:List α,ys.length = n ∧ ∀ i y,ys[i]? = some y → Q i y
 | 0,_=>⟨[],rfl,by simp⟩
 | n + 1,h=>by
  obtain ⟨ys,hl,hq⟩:=tN n (fun i hi=>h i (by omega))
  obtain ⟨y,hy⟩:=h n (by omega)
  refine ⟨ys ++ [y],by simp [hl],fun i z hz=>?_⟩
  by_cases hi:i < n
  ·rw [aju (by omega)] at hz
   exact hq i z hz
  ·have hlt:=(aiu.1 hz).1
   simp only [ahJ,List.length_singleton] at hlt
   obtain rfl:i = n:=by omega
   rw [List.getElem?_append_right (by omega),hl,Nat.sub_self] at hz
   simp at hz
   subst hz
   exact hy
theorem Az {Fz:Nat → Prop} {w:World} {b:Nat}:∀ (xs:List FV) (cs:List Value) (o:Nat),bV Fz w xs cs → (∀ i u,cs[i]? = some u → w.cell? ⟨b,o + i,none⟩ = some u) → dU Fz w b o xs
 | [],_,_,_,_=>by simp only [dU]
 | x :: xs,[],_,h,_=>h.elim
 | x :: xs,c :: cs,o,h,hc=>by
  simp only [dU]
  exact ⟨⟨c,hc 0 c rfl,h.1⟩,Az xs cs (o + 1) h.2 fun i u hi=>by rw [show o + 1 + i = o + (i + 1) from by omega];exact hc (i + 1) u hi⟩
theorem yH {Fz:Nat → Prop} {w:World} {sz b:Nat} {α:Type} {f:α → List FV} (hf:∀ a,(f a).length = sz):∀ (l:List α) (o:Nat),(∀ i y,l[i]? = some y → dU Fz w b (o + i * sz) (f y)) → bY Fz w sz b o (l.map f)
 | [],_,_=>by simp only [ahV,bY]
 | y :: l,o,h=>by
  simp only [ahO,bY]
  refine ⟨hf y,by simpa using h 0 y rfl,yH hf l (o + sz) fun i z hz=>?_⟩
  rw [show o + sz + i * sz = o + (i + 1) * sz from by rw [Nat.add_mul];omega]
  exact h (i + 1) z hz
theorem J7 (a:Addr) (x y:Nat):(a.add x).add y = a.add (x + y):=by
 unfold Addr.add
 by_cases hx:x = 0
 ·subst hx;simp
 ·by_cases hy:y = 0
  ·subst hy;simp [hx]
  ·simp [hx,hy,Nat.add_assoc]
theorem yI {w:World} {a:Addr} {u:Value} (h:w.cell? a = some u):a = ⟨a.block,a.off,none⟩ ∧ a.block < w.heap.size:=by
 unfold World.cell? at h
 split at h
 ·rename_i c _ _ hb
  split at h
  ·cases h
  ·rename_i hs
   obtain ⟨b,o,s⟩:=a
   cases s with
   | none=>exact ⟨rfl,by have:=(aiJ.mp hb).1;exact this⟩
   | some s=>simp at hs
 ·cases h
theorem J8 {α:Type} {f:α → List FV} {T e:TypeId} {G:α → Prop} (sz:Nat) (h:P.underlying T = some (.slice e)) (hc:P.cellsOf e = sz) (h0:0 < sz) (hf:∀ a,(f a).length = sz) (hby:decide (1 ≤ P.bytesOf e) = true) (hd:N7 P e f G) :
  N7 P T (fun l:List α=>[FV.sl (l.map f)]) (fun l=>l.length ≤ 140737488351232 ∧ ∀ x ∈ l,G x):=by
 intro H enc w spare held fuel cs x hx hz
 rcases DataW.trod_slice h hx with ⟨rfl,rfl⟩ | ⟨a,len,cap,elems,rest,n,_,rfl,rfl,hb,hl,hm,hlen,hel,_,_⟩
 ·refine ⟨[],⟨?_,trivial⟩,by simp⟩
  simp only [eO]
  exact ⟨none,0,rfl,ahG _,by simp,.inl rfl⟩
 ·have hw:∀ m ∈ (elems.length + rest.length) * P.bytesOf e :: (DataW.weightsAll P e (elems.map (·.1)) ++ DataW.weightsAll P e (rest.map (·.1))),m ≤ reachBytes:=by
   intro m hm'
   refine hz m ?_
   simp only [DataW.weights,h,ahF]
   exact hm'
  obtain ⟨ys,hyl,hys⟩:=tN (α:=α) (Q:=fun i y=>∃ c,w.cells? 0 (a.add (i * P.cellsOf e)) (P.cellsOf e) = some c ∧ bV (fun k=>k < w.heap.size) w (f y) c ∧ G y) len (fun i hi=>by
   have h1:=hel i hi
   rw [ahQ (by omega),Option.bind_eq_some_iff] at h1
   obtain ⟨c,hc1,hc2⟩:=h1
   obtain ⟨y,hy,hg⟩:=hd enc w spare held n c _ hc2 (fun m hm'=>by
    refine hw m (ais _ (ah2.mpr (.inl ?_)))
    exact nP (i:=i) (d:=(elems[i]'(by omega)).1) (by rw [ahN,ahQ (by omega)];rfl) m hm')
   exact ⟨y,c,hc1,hy,hg⟩)
  have hlen1:(elems.length + rest.length) * P.bytesOf e ≤ reachBytes:=hw _ (by simp)
  have hlm:cap ≤ 9223372036854775807:=by unfold maxLen at hm;omega
  refine ⟨ys,⟨?_,trivial⟩,?_,?_⟩
  ·simp only [eO,ahF]
   refine ⟨some a,cap,by rw [hyl],by omega,by omega,?_⟩
   cases hy0:ys with
   | nil=>exact .inl rfl
   | cons y0 ys0 =>
    right
    obtain ⟨c0,k0,_,_⟩:=hys 0 y0 (by rw [hy0];rfl)
    rw [hc] at k0
    obtain ⟨_,kl,kc⟩:=World.cells?_some k0
    have k1:=kc 0 h0
    rw [ahQ (by omega)] at k1
    obtain ⟨ea,eb⟩:=yI k1
    have ea0:(a.add (0 * sz)).add 0 = a:=by simp [Addr.add]
    rw [ea0] at ea eb
    refine ⟨a.block,a.off,sz,ah1 some ea,eb,?_⟩
    rw [← hy0]
    refine yH hf ys a.off fun i y hi=>?_
    obtain ⟨c,hc1,hk,_⟩:=hys i y hi
    rw [hc] at hc1
    obtain ⟨_,hcl,hcc⟩:=World.cells?_some hc1
    refine Az _ c _ hk fun j u hj=>?_
    have hj':j < sz:=by have:=(aiu.1 hj).1;omega
    have:=hcc j hj'
    rw [J7,hj] at this
    obtain ⟨e1,_⟩:=yI this
    rw [e1] at this
    have e2:a.add (i * sz + j) = ⟨a.block,a.off + i * sz + j,none⟩:=by
     rw [ea];unfold Addr.add;split
     ·rename_i hz;congr 1;simp only;omega
     ·congr 1;simp only;omega
    rw [e2] at this
    exact this
  ·rw [hyl,← hlen]
   have h1:elems.length * P.bytesOf e ≤ (elems.length + rest.length) * P.bytesOf e:=ai8 _ (by omega)
   have h2:reachBytes = 140737488351232:=rfl
   have h3:elems.length * 1 ≤ elems.length * P.bytesOf e:=Nat.mul_le_mul_left _ (ahY hby)
   omega
  ·intro y hy
   obtain ⟨i,hi,rfl⟩:=List.mem_iff_getElem.1 hy
   obtain ⟨_,_,_,hg⟩:=hys i _ (ahQ hi)
   exact hg
def Rx (P:Program) {α:Type} (sz:Nat) (f:α → List FV) (fs:List (TypeId × Nat)) (off:Nat) (G:α → Prop):Prop :=
 ∀ {H:Type} (enc:TypeId × Value → H) (w:World) (spare:Nat → Bool) (held:Bool) (n:Nat) (cs:List Value) (xs:List (DataW H × List MemPlace)),
  (∀ (i:Nat) (f:TypeId × Nat),fs[i]? = some f → DataW.trod enc P w 0 spare held n f.1 ((cs.drop f.2).take (P.cellsOf f.1)) = xs[i]?) → xs.length = fs.length →
  (∀ (i:Nat) (x:DataW H × List MemPlace) (f:TypeId × Nat),xs[i]? = some x → fs[i]? = some f → ∀ m ∈ x.1.weights P f.1,m ≤ reachBytes) → cs.length = off + sz → ∃ a,bV (fun k=>k < w.heap.size) w (f a) (cs.drop off) ∧ G a
theorem J9 {α:Type} {sz:Nat} {f:α → List FV} {t:TypeId} {off:Nat} {G:α → Prop} (hd:N7 P t f G) (hc:P.cellsOf t = sz):Rx P sz f [(t,off)] off G:=by
 intro H enc w spare held n cs xs hf hl hw hn
 match xs,hl with
 | [y],_ =>
  have h1:=hf 0 _ rfl
  have h2:(cs.drop off).take (P.cellsOf t) = cs.drop off:=ajh (by rw [ah4];omega)
  rw [h2] at h1
  exact hd enc w spare held n _ y h1 (hw 0 y _ rfl rfl)
theorem AA {Fz:Nat → Prop} {w:World}:∀ {xs ys:List FV} {cs ds:List Value},bV Fz w xs cs → bV Fz w ys ds → bV Fz w (xs ++ ys) (cs ++ ds)
 | [],_,[],_,_,h=>h
 | [],_,_ :: _,_,h,_=>h.elim
 | _ :: _,_,[],_,h,_=>h.elim
 | x :: xs,ys,c :: cs,ds,h,k=>⟨h.1,AA h.2 k⟩
theorem AB {α β:Type} {sz sz':Nat} {f:α → List FV} {g:β → List FV} {t:TypeId} {fs:List (TypeId × Nat)} {off:Nat} {G:α → Prop} {G':β → Prop} (hd:N7 P t f G) (hc:P.cellsOf t = sz)
  (hr:Rx P sz' g fs (off + sz) G'):Rx P (sz + sz') (fun p:α × β=>f p.1 ++ g p.2) ((t,off) :: fs) off (fun p=>G p.1 ∧ G' p.2):=by
 intro H enc w spare held n cs xs hf hl hw hn
 match xs,hl with
 | y :: ys,hl =>
  have h1:=hf 0 _ rfl
  obtain ⟨a,ha,ga⟩:=hd enc w spare held n _ y h1 (hw 0 y _ rfl rfl)
  obtain ⟨b,hb,gb⟩:=hr enc w spare held n cs ys (fun i f hi=>hf (i + 1) f hi) (by simpa using hl) (fun i x f hx hfi=>hw (i + 1) x f hx hfi) (by omega)
  refine ⟨(a,b),?_,ga,gb⟩
  have e:cs.drop off = (cs.drop off).take (P.cellsOf t) ++ cs.drop (off + sz):=by rw [← List.drop_drop,hc,ajr]
  rw [e]
  exact AA ha hb
theorem Gs {α:Type} {sz:Nat} {f:α → List FV} {T:TypeId} {fs:Array Field} {G:α → Prop} (h:P.underlying T = some (.struct fs)) (hc:P.cellsOf T = sz)
  (hd:Rx P sz f (fs.toList.map fun f=>(f.type,f.offset)) 0 G):N7 P T f G:=by
 intro H enc w spare held fuel cs x hx hz
 obtain ⟨xs,n,_,rfl,hl,hlen,hf⟩:=DataW.trod_struct h hx
 have hd':=hd enc w spare held n cs xs ?_ (by rw [ahF,Array.length_toList];exact hlen) ?_ (by rw [ah8,← hc];exact hl)
 ·obtain ⟨a,ha,ga⟩:=hd'
  exact ⟨a,by simpa using ha,ga⟩
 ·intro i f hi
  rw [ahN,ajc] at hi
  obtain ⟨f',hf',rfl⟩:=hi
  exact hf i f' (by rw [← aiR];exact hf')
 ·intro i x f hxi hfi m hm
  refine hz m ?_
  simp only [DataW.weights,h]
  refine DataW.weights_mem_each (j:=i) (t:=f.1) (d:=x.1) ?_ ?_ m hm
  ·rw [ahN] at hfi ⊢
   rw [ajc] at hfi ⊢
   obtain ⟨f',hf',rfl⟩:=hfi
   exact ⟨f',hf',rfl⟩
  ·rw [ahN,hxi];rfl
theorem IJ {α β:Type} {T:TypeId} {f:α → List FV} {f':β → List FV} {G:α → Prop} {G':β → Prop} (g:α → β) (hg:∀ a,f' (g a) = f a) (hG:∀ a,G a → G' (g a)) (hd:N7 P T f G):N7 P T f' G':=by
 intro H enc w spare held fuel cs x hx hz
 obtain ⟨a,ha,ga⟩:=hd enc w spare held fuel cs x hx hz
 exact ⟨g a,by rw [hg];exact ha,hG a ga⟩
theorem yJ {w:World} {r:Reach} {base:Nat} {t:TypeId} {fs:Array Field} {v:Value} (ht:P.underlying t = some (.struct fs)) (h:Value.okWide P w r base t v):∃ cs,v = .agg cs:=by
 simp only [Value.okWide,ht] at h
 obtain ⟨cs,h1,_⟩:=h
 exact ⟨cs,h1⟩
theorem EM {Fz:Nat → Prop} {w:World}:∀ {xs:List FV} {cs:List Value},bV Fz w xs cs → kr Fz w (xs.map .f) cs []
 | [],[],_=>rfl
 | [],_ :: _,h=>h.elim
 | _ :: _,[],h=>h.elim
 | x :: xs,c :: cs,h=>⟨[],[],⟨h.1,rfl⟩,EM h.2,rfl⟩
theorem N8 {Fz:Nat → Prop} {w:World} {xs:List FV} {cs:Array Value} (h:bV Fz w xs cs.toList):nV Fz w (.agg (xs.map .f)) (.agg cs) []:=⟨cs,rfl,EM h⟩
theorem EN {Fz:Nat → Prop} {w:World} {x:FV} {v:Value} (h:eO Fz w x v):nV Fz w (.one (.f x)) v []:=⟨h,rfl⟩
theorem ru {Fz:Nat → Prop} {w:World} {x:AV} {v:Value} {xs:List AV} {vs:List Value} (h:nV Fz w x v []) (k:fu Fz w xs vs []):fu Fz w (x :: xs) (v :: vs) []:=⟨[],[],h,k,rfl⟩
theorem Ka {Fz:Nat → Prop} {w:World}:fu Fz w [] [] []:=rfl
end
end
section
open Go
attribute [go_sem ↓] Fp Lr uh Fq Fu
attribute [go_sem] gG
attribute [go_sem ↓] OZ Ls Uy
section
variable {α β:Type} {k:α → Prop} {u:Tok k}
@[go_sem ↓] theorem adJ {c:Prop} [Decidable c] {a b:Option α}:W k u (if c then a else b) ↔ (c → W k u a) ∧ (¬ c → W k u b):=YE
end
def Jd : CV → Option (Nat × Nat)
 | .one (.ptr k o)=>some (k,o)
 | _=>none
def qA : CV → Option ByteArray
 | .one (.f (.str s))=>some s
 | _=>none
def Lu : CV → Option (List PL)
 | .agg l=>some l
 | _=>none
def Uz : PV → Option (List CV)
 | .tO l=>some l
 | _=>none
@[go_sem] theorem YH {l:List CV}:Uz (.tO l) = some l:=rfl
def fav (off:Nat):CV → Option CV
 | .one (.ptr key o)=>some (.one (.ptr key (o + off)))
 | .one (.fp cs)=>some (.one (.fp (cs.drop off)))
 | .one (.rp key z i o)=>some (.one (.rp key z i (o + off)))
 | _=>none
@[go_sem] theorem abf {off k o:Nat}:fav off (.one (.ptr k o)) = some (.one (.ptr k (o + off))):=rfl
@[go_sem] theorem adK {off:Nat} {cs:List FV}:fav off (.one (.fp cs)) = some (.one (.fp (cs.drop off))):=rfl
@[go_sem] theorem adL {off k z i o:Nat}:fav off (.one (.rp k z i o)) = some (.one (.rp k z i (o + off))):=rfl
def UA : CV → Option Bool
 | .one .bT=>some true
 | .one (.f (.sl (_ :: _)))=>some false
 | _=>none
@[go_sem] theorem adM : UA (.one .bT) = some true:=rfl
@[go_sem] theorem adN {r:List FV} {l:List (List FV)}:UA (.one (.f (.sl (r :: l)))) = some false:=rfl
section
variable {α : Type}
@[go_sem] theorem get_nil {i:Nat}:get ([]:List (Nat × α)) i = none:=rfl
@[go_sem] theorem YI {k:Nat} {v:α} {l:List (Nat × α)} {i:Nat}:get ((k,v) :: l) i = if k = i then some v else get l i:=rfl
@[go_sem] theorem abg {i:Nat}:rem ([]:List (Nat × α)) i = []:=rfl
@[go_sem] theorem YJ {k:Nat} {v:α} {l:List (Nat × α)} {i:Nat}:rem ((k,v) :: l) i = if k = i then rem l i else (k,v) :: rem l i:=rfl
@[go_sem] theorem abh {i:Nat} {v:α}:put ([]:List (Nat × α)) i v = [(i,v)]:=rfl
@[go_sem] theorem YK {k:Nat} {w:α} {l:List (Nat × α)} {i:Nat} {v:α}:put ((k,w) :: l) i v = if k = i then (i,v) :: rem l i else (k,w) :: put l i v:=rfl
def Lv (k:Nat) (r:List (Nat × α)):Option α → List (Nat × α)
 | some v=>(k,v) :: r
 | none=>r
@[go_sem] theorem UC {k:Nat} {v:α} {r:List (Nat × α)}:Lv k r (some v) = (k,v) :: r:=rfl
@[go_sem] theorem UD {k:Nat} {r:List (Nat × α)}:Lv k r none = r:=rfl
@[go_sem] theorem YL {l:List (Nat × α)}:pick [] l = []:=rfl
@[go_sem] theorem WQ {k:Nat} {ks:List Nat} {l:List (Nat × α)}:pick (k :: ks) l = Lv k (pick ks l) (get l k):=by
 unfold pick
 rw [List.filterMap_cons]
 cases get l k <;> rfl
end
section
variable {Γ : Env} {F d:Nat} {q:Bool} {σ:St}
section
variable {k : Out × St → Prop} {u:Tok k}
@[go_sem ↓] theorem adP : W k u (ev Γ F .skip σ) ↔ k (.iP,σ):=by simp only [ev];exact gG
@[go_sem ↓] theorem afu {is:List G} {ks:List Nat}:W k u (ev Γ F (.reg is ks) σ) ↔ W (fun s=>W k ⟨⟩ (some (.iP,⟨pick ks s.tm,s.ob⟩))) ⟨⟩ (vH Γ false is σ):=by simp only [ev,dL,bO,bg]
@[go_sem ↓] theorem afv {pre:List (G × List Nat)} {lu:List Nat} {jA rest:List G} {ks:List Nat}:W k u (ev Γ F (.rz pre lu jA rest ks) σ) ↔ W (fun s=>W k ⟨⟩ (some (.iP,⟨pick ks s.tm,s.ob⟩))) ⟨⟩ (WJ Γ pre lu jA rest σ):=by simp only [ev,dL,bO,bg]
@[go_sem ↓] theorem YM {gs:List G} {ks lT:List Nat} {r:St}:kF Γ gs ks lT σ r [] ↔ True:=ahI
@[go_sem ↓] theorem WR {gs:List G} {ks lT:List Nat} {r:St} {o:List Nat} {os:List (List Nat)}:kF Γ gs ks lT σ r (o :: os) ↔ W (fun s=>W (fun t=>t = r) ⟨⟩ (some (⟨pick ks s.tm,pick lT s.ob⟩:St))) ⟨⟩ (vH Γ false (o.map fun i=>gs.getD i default) σ) ∧ kF Γ gs ks lT σ r os:=by
 conv=>lhs;unfold kF
 simp only [dL,V,ahP,exists_eq_left']
@[go_sem ↓] theorem YN {gs:List G} {o:List Nat} {os:List (List Nat)} {ks lT:List Nat}:W k u (ev Γ F (.any gs (o :: os) ks lT) σ) ↔ W (fun s=>W (fun r=>kF Γ gs ks lT σ r os ∧ W k ⟨⟩ (some (.iP,r))) ⟨⟩ (some (⟨pick ks s.tm,pick lT s.ob⟩:St))) ⟨⟩ (vH Γ false (o.map fun i=>gs.getD i default) σ):=by
 simp only [ev,evO,dL,aK,bH,bg]
@[go_sem ↓] theorem afw {a b:CC}:W k u (ev Γ F (.seq a b) σ) ↔ W (fun p=>match p.1 with
  | .iP=>W k ⟨⟩ (ev Γ F b p.2)
  | o=>k (o,p.2)) ⟨⟩ (ev Γ F a σ):=by
 simp only [ev,dL,aK]
 refine bX fun p=>?_
 obtain ⟨o,s⟩:=p
 cases o <;> first | rfl | exact bg
@[go_sem ↓] theorem adQ {c:dF} {a b:CC}:W k u (ev Γ F (.cond c a b) σ) ↔ W (fun v=>W (fun t=>Br t (fun _=>W k ⟨⟩ (ev Γ F a σ)) (fun _=>W k ⟨⟩ (ev Γ F b σ)) ⟨⟩) ⟨⟩ (bool? v)) ⟨⟩ (val σ c):=by
 simp only [ev,dL,aK]
 refine bX fun v=>bX fun t=>?_
 cases t <;> simp [Br,dL]
@[go_sem ↓] theorem abj {id:Nat} {c:CC}:W k u (ev Γ F (.block id c) σ) ↔ W (fun p=>match p.1 with
  | .ext i=>if i = id then k (.iP,p.2) else k (.ext i,p.2)
  | o=>k (o,p.2)) ⟨⟩ (ev Γ F c σ):=by
 simp only [ev,dL,bO]
 refine bX fun p=>?_
 obtain ⟨o,s⟩:=p
 cases o with
 | ext i=>by_cases hi:i = id <;> simp [hi]
 | _=>exact ahI
@[go_sem ↓] theorem lZ {keep AJ:List Nat} {rws:List (Nat × Nat)} {c:CC}:W k u (ev Γ F (.loop keep AJ rws c) σ) ↔ W k u (iter (ev Γ F c) (res keep AJ rws) F σ):=by simp only [ev]
@[go_sem ↓] theorem adR {id:Nat}:W k u (ev Γ F (.exit id) σ) ↔ k (.ext id,σ):=by simp only [ev];exact gG
@[go_sem ↓] theorem afx : W k u (ev Γ F .ret σ) ↔ k (.ret,σ):=by simp only [ev];exact gG
end
section
variable {k : St → Prop} {u:Tok k}
@[go_sem ↓] theorem WS : W k u (vH Γ q [] σ) ↔ k σ:=gG
@[go_sem ↓] theorem UE {g:G} {l:List G}:W k u (vH Γ q (g :: l) σ) ↔ W (fun s=>W k ⟨⟩ (vH Γ q l s)) ⟨⟩ (Oa Γ q σ g):=by
 show W k u ((Oa Γ q σ g).bind (vH Γ q l)) ↔ _
 rw [Fp]
@[go_sem ↓] theorem afy {g:G}:W k u (Oa Γ q σ g) ↔ W (fun p=>W k ⟨⟩ (some (qz p.2 g.dst p.1))) ⟨⟩ (lV Γ q σ g):=by simp only [Oa,dL,bO,bg]
def UF (f:Nat → Option (PV × St)):List Nat → Prop
 | []=>True
 | j :: l=>W (fun _=>True) ⟨⟩ (f j) ∧ UF f l
theorem G7 {f:Nat → Option (PV × St)}:∀ {l:List Nat},l.all (fun j=>(f j).isSome) = true ↔ UF f l
 | []=>by simp [UF]
 | j :: l=>by
  rw [List.all_cons,ahK,G7 (l:=l)]
  refine and_congr_left fun _=>?_
  cases h:f j with
  | none=>simp [uh]
  | some y=>simp [gG]
@[go_sem ↓] theorem abk {f:Nat → Option (PV × St)}:UF f [] ↔ True:=ahI
@[go_sem ↓] theorem YO {f:Nat → Option (PV × St)} {j:Nat} {l:List Nat}:UF f (j :: l) ↔ W (fun _=>True) ⟨⟩ (f j) ∧ UF f l:=ahI
def wkv : Option CV → List Nat
 | some (.one (.ptr k _))=>[k]
 | _=>[]
@[go_sem] theorem abl {k o:Nat}:wkv (some (.one (.ptr k o))) = [k]:=rfl
@[go_sem] theorem abm {tm:List (Nat × PV)} {dst:Option Nat} {gd:Option (Option Nat × Bool)} {n:Nat} {x y:dF}:rR tm ⟨dst,gd,.store n x y⟩ = wkv (val ⟨tm,[]⟩ x):=by
 show (match val ⟨tm,[]⟩ x with | some (.one (.ptr k _))=>[k] | _=>[]) = _
 cases val ⟨tm,[]⟩ x with
 | none=>rfl
 | some v=>cases v with
  | one y=>cases y <;> rfl
  | agg _=>rfl
@[go_sem ↓] theorem afz {pre:List (G × List Nat)} {lu:List Nat} {jA rest:List G}:W k u (WJ Γ pre lu jA rest σ) ↔ pre.all (fun g=>!je g.1.i || fresh σ (cZ (g.1.dst.getD 999))) = true ∧ W (fun s=>W (fun tm=>UF (fun j=>lV Γ true ⟨tm,σ.ob.filter (fun p=>!(jA.flatMap (rR tm)).contains p.1)⟩ (pre.getD j default).1) lu ∧ W (fun ob=>W (fun s=>W k ⟨⟩ (vH Γ false rest s)) ⟨⟩ (some ⟨tm,ob⟩)) ⟨⟩ (Kv Γ tm jA s.ob)) ⟨⟩ (some (pick (s.tm.map (·.1)) s.tm))) ⟨⟩ (Ou Γ σ.ob pre σ):=by
 simp only [WJ,dL,aK,bH,bg,← G7]
@[go_sem ↓] theorem WT {qH:List (Nat × Ob)}:W k u (Ou Γ qH [] σ) ↔ k σ:=gG
@[go_sem ↓] theorem UG {qH:List (Nat × Ob)} {g:G} {nk:List Nat} {l:List (G × List Nat)}:W k u (Ou Γ qH ((g,nk) :: l) σ) ↔ W (fun p=>nk.any (fun k=>qG k p.1 || (je g.i && (p.2.ob.take 1).any (fun r=>r.1 == k || lU k r.2))) = false ∧ W (fun s=>W k ⟨⟩ (Ou Γ qH l s)) ⟨⟩ (some ⟨rO g.dst σ.tm p.1,if je g.i then p.2.ob.take 1 ++ σ.ob else σ.ob⟩)) ⟨⟩ (lV Γ true ⟨σ.tm,qH⟩ g):=by
 conv=>lhs;unfold Ou
 simp only [dL,aK,bZ,bg,aiC]
end
section
variable {k : List (Nat × Ob) → Prop} {u:Tok k} {tm:List (Nat × PV)} {ob:List (Nat × Ob)}
@[go_sem ↓] theorem WU : W k u (Kv Γ tm [] ob) ↔ k ob:=gG
@[go_sem ↓] theorem UH {n:Nat} {x y:dF} {dst:Option Nat} {gd:Option (Option Nat × Bool)} {l:List G}:W k u (Kv Γ tm (⟨dst,gd,.store n x y⟩ :: l) ob) ↔ W (fun v=>W (fun _=>W (fun p=>W k ⟨⟩ (Kv Γ tm l p.2.ob)) ⟨⟩ (bU Γ true ⟨tm,ob⟩ 999 (.store n x y))) ⟨⟩ (Jd v)) ⟨⟩ (val ⟨tm,ob⟩ x):=by
 conv=>lhs;unfold Kv
 simp only
 cases hv:val ⟨tm,ob⟩ x with
 | none=>simp only [uh]
 | some v =>
  rw [gG]
  cases v with
  | one y=>cases y <;> simp only [Jd,dL,jh,bg,aK]
  | agg xs=>simp only [Jd,uh]
end
section
variable {i : Nat}
def vl : Option PV → Option CV
 | some (.c x)=>some x
 | _=>none
@[go_sem] theorem abn {x:CV}:vl (some (.c x)) = some x:=rfl
@[go_sem] theorem YP : val σ (.t i) = vl (get σ.tm i):=by simp only [val];cases get σ.tm i with | none=>rfl | some v=>cases v <;> rfl
@[go_sem] theorem afA {x:CV}:val σ (.k x) = some x:=rfl
@[go_sem] theorem adS : rM σ (.t i) = get σ.tm i:=rfl
@[go_sem] theorem adT {x:CV}:rM σ (.k x) = some (.c x):=rfl
@[go_sem] theorem YQ {k:IntKind} {n:Int}:int? (.one (.f (.int k n))) = some (k,n):=rfl
@[go_sem] theorem UJ {b:Bool}:bool? (.one (.f (.bool b))) = some b:=rfl
@[go_sem] theorem YR {k o:Nat}:Jd (.one (.ptr k o)) = some (k,o):=rfl
@[go_sem] theorem YS {s:ByteArray}:qA (.one (.f (.str s))) = some s:=rfl
@[go_sem] theorem YT {l:List PL}:Lu (.agg l) = some l:=rfl
@[go_sem] theorem cells_one {x:PL}:cells (.one x) = [x]:=rfl
@[go_sem] theorem WV {xs:List PL}:cells (.agg xs) = xs:=rfl
def oc : Option Ob → Option (List PL)
 | some (.eY xs)=>some xs
 | _=>none
def Lx : Option Ob → Option (Nat × List (List FV))
 | some (.row sz rows)=>some (sz,rows)
 | _=>none
def om : Option Ob → Option (KS × List (KV × FC))
 | some (.map sh ents)=>some (sh,ents)
 | _=>none
@[go_sem] theorem adU {xs:List PL}:oc (some (.eY xs)) = some xs:=rfl
@[go_sem] theorem abo {sz:Nat} {rows:List (List FV)}:Lx (some (.row sz rows)) = some (sz,rows):=rfl
@[go_sem] theorem adV {sh:KS} {ents:List (KV × FC)}:om (some (.map sh ents)) = some (sh,ents):=rfl
def gb (want:Bool):Option PV → Option Bool
 | some (.c (.one (.f (.bool b))))=>some (b == want)
 | some (.c (.one .und))=>some false
 | _=>none
@[go_sem] theorem abp {b:Bool}:gb true (some (.c (.one (.f (.bool b))))) = some b:=by cases b <;> rfl
@[go_sem] theorem YU {b:Bool}:gb false (some (.c (.one (.f (.bool b))))) = some (!b):=by cases b <;> rfl
@[go_sem] theorem adW {w:Bool}:gb w (some (.c (.one .und))) = some false:=rfl
@[go_sem] theorem WW {v:PV}:qz σ (some i) v = ⟨put σ.tm i v,σ.ob⟩:=rfl
@[go_sem] theorem WX {v:PV}:qz σ none v = σ:=rfl
@[go_sem] theorem WY {tm:List (Nat × PV)} {v:PV}:rO (some i) tm v = put tm i v:=rfl
@[go_sem] theorem WZ {tm:List (Nat × PV)} {v:PV}:rO none tm v = tm:=rfl
end
section
variable {α : Type} {n off:Nat} {x:α} {xs ys:List α}
@[go_sem] theorem YV : seg 0 0 xs = some []:=by simp [seg]
@[go_sem] theorem YW : seg (n + 1) 0 (x :: xs) = (seg n 0 xs).map (x :: ·):=by
 unfold seg
 simp only [ah8,List.length_cons,Nat.add_le_add_iff_right,aiM,List.take_succ_cons]
 split <;> rfl
@[go_sem] theorem YX : seg n (off + 1) (x :: xs) = seg n off xs:=by
 unfold seg
 simp only [List.length_cons,List.drop_succ_cons]
 by_cases h:off + n ≤ xs.length
 ·rw [ahC h,ahC (by omega)]
 ·rw [ahD h,ahD (by omega)]
@[go_sem] theorem abq : lay 0 ([]:List α) xs = some xs:=by simp [lay]
@[go_sem] theorem abr {y:α}:lay 0 (y :: ys) (x :: xs) = (lay 0 ys xs).map (y :: ·):=by
 unfold lay
 simp only [ah8,List.length_cons,Nat.add_le_add_iff_right,List.take_zero,List.drop_succ_cons,List.nil_append,List.cons_append]
 split <;> rfl
@[go_sem] theorem YZ : lay (off + 1) ys (x :: xs) = (lay off ys xs).map (x :: ·):=by
 unfold lay
 simp only [List.length_cons,List.take_succ_cons]
 rw [show off + 1 + ys.length = off + ys.length + 1 from by omega]
 by_cases h:off + ys.length ≤ xs.length
 ·rw [ahC h,ahC (by omega)];rfl
 ·rw [ahD h,ahD (by omega)];rfl
end
@[go_sem] theorem adX {xs:List PL}:mk true xs = some (.agg xs):=rfl
@[go_sem] theorem mk_one {x:PL}:mk false [x] = some (.one x):=rfl
def oJ (σ:St) (key:Nat):Option (List PL):=oc (get σ.ob key)
def iw (σ:St) (key:Nat):Option (Nat × List (List FV)):=Lx (get σ.ob key)
def nW (σ:St) (key:Nat):Option (KS × List (KV × FC)):=om (get σ.ob key)
attribute [go_sem] oJ iw nW Option.map_some Option.map_none Option.bind_some Option.bind_none
def j3 (σ:St) (n:Nat):CV → Option (List PL)
 | .one (.ptr key off)=>(oJ σ key).bind (seg n off)
 | .one (.fp cs)=>(seg n 0 cs).map (·.map .f)
 | .one (.rp key z i off)=>(iw σ key).bind fun p=>if p.1 ≠ z then none else p.2[i]?.bind fun r=>(seg n off r).map (·.map .f)
 | _=>none
@[go_sem ↓] theorem RN {n key off:Nat}:j3 σ n (.one (.ptr key off)) = (oJ σ key).bind (seg n off):=rfl
@[go_sem] theorem UK {n:Nat} {cs:List FV}:j3 σ n (.one (.fp cs)) = (seg n 0 cs).map (·.map .f):=rfl
section
variable {k : List PL → Prop} {u:Tok k}
@[go_sem ↓] theorem RO {n key off:Nat}:W k u (j3 σ n (.one (.ptr key off))) ↔ W (fun xs=>W k ⟨⟩ (seg n off xs)) ⟨⟩ (oJ σ key):=Fp
@[go_sem ↓] theorem UL {n:Nat} {cs:List FV}:W k u (j3 σ n (.one (.fp cs))) ↔ W (fun l=>k (l.map .f)) ⟨⟩ (seg n 0 cs):=Lr
@[go_sem ↓] theorem UM {n key z i off:Nat}:W k u (j3 σ n (.one (.rp key z i off))) ↔ W (fun p=>p.1 = z ∧ W (fun r=>W (fun l=>k (l.map .f)) ⟨⟩ (seg n off r)) ⟨⟩ (p.2[i]?)) ⟨⟩ (iw σ key):=by
 simp only [j3,dL,aK,bO,bZ,ne_eq,ail]
end
section
variable {k : PV × St → Prop} {u:Tok k} {x y c:dF}
@[go_sem ↓] theorem adY {dst:Option Nat} {i:I}:W k u (lV Γ q σ ⟨dst,none,i⟩) ↔ W k u (bU Γ q σ (dst.getD 999) i):=ahI
@[go_sem ↓] theorem W9 {dst:Option Nat} {s:Nat} {want:Bool} {i:I}:W k u (lV Γ q σ ⟨dst,some (some s,want),i⟩) ↔ W (fun w=>Br w (fun _=>W k ⟨⟩ (bU Γ q σ (dst.getD 999) i)) (fun _=>k (.c (.one .und),σ)) ⟨⟩) ⟨⟩ (gb want (get σ.tm s)):=by
 have h:yV σ (some (some s,want)) = gb want (get σ.tm s):=by
  simp only [yV]
  cases get σ.tm s with
  | none=>rfl
  | some v =>
   cases v with
   | tO l=>rfl
   | c x =>
    cases x with
    | agg l=>rfl
    | one p =>
     cases p with
     | f z=>cases z <;> rfl
     | _=>rfl
 simp only [lV,dL,aK,h]
 refine bX fun t=>?_
 cases t <;> simp [bg,Br,dL]
@[go_sem ↓] theorem ahi : W k u (bU Γ q σ d (.mv x)) ↔ W (fun v=>k (v,σ)) ⟨⟩ (rM σ x):=by simp only [bU];exact Lr
@[go_sem ↓] theorem adZ : W k u (bU Γ q σ d (.pick c x y)) ↔ W (fun v=>W (fun t=>Br t (fun _=>W (fun z=>k (.c z,σ)) ⟨⟩ (val σ x)) (fun _=>W (fun z=>k (.c z,σ)) ⟨⟩ (val σ y)) ⟨⟩) ⟨⟩ (bool? v)) ⟨⟩ (val σ c):=by
 simp only [bU,dL,aK,bO]
 refine bX fun v=>bX fun t=>?_
 cases t <;> simp [Br,dL]
@[go_sem ↓] theorem abt {e:TypeId} {z:List PL}:W k u (bU Γ q σ d (.alloc e z)) ↔ z.any (dS (cZ d)) = false ∧ W (fun s=>k (.c (.one (.ptr (cZ d) 0)),s)) ⟨⟩ (new σ (cZ d) (.eY z)):=by
 simp only [bU,dL,bZ,gF,bO,aiC]
@[go_sem ↓] theorem afB {e:TypeId}:W k u (bU Γ q σ d (.box e x)) ↔ W (fun v=>((cells v).any oN || (cells v).any (dS (cZ d))) = false ∧ W (fun s=>k (.c (.one (.ptr (cZ d) 0)),s)) ⟨⟩ (new σ (cZ d) (.eY (cells v)))) ⟨⟩ (val σ x):=by
 simp only [bU,dL,aK,bZ,gF,bO,aiC]
@[go_sem ↓] theorem abu {z:List PL} {ps:List (Nat × Nat × dF)}:W k u (bU Γ q σ d (.build z ps)) ↔ W (fun l=>W (fun z=>k (.c (.agg z),σ)) ⟨⟩ (fill z l)) ⟨⟩ (vals σ ps):=by
 simp only [bU,dL,aK,bO]
@[go_sem ↓] theorem afC {e:TypeId} {sz len:Nat} {z:List PL} {ps:List (Nat × Nat × dF)}:W k u (bU Γ q σ d (.yK e sz len z ps)) ↔ W (fun l=>W (fun z=>(q && z.any fU) = false ∧ W (fun p=>W (fun s=>k (.c (.one (.own (cZ d) len)),s)) ⟨⟩ (new p.2 (cZ d) (.row sz (rowsOf sz len p.1)))) ⟨⟩ (jY σ z)) ⟨⟩ (fill z l)) ⟨⟩ (vals σ ps):=by
 simp only [bU,dL,aK,bZ,gF,bO,aiC]
@[go_sem ↓] theorem abv {x:PL}:W k u (CW (.c (.one x)) σ) ↔ W (fun p=>k (.c (.one (.f p.1)),p.2)) ⟨⟩ (uN σ x):=by simp only [CW,dL,bO]
@[go_sem ↓] theorem afD {e:TypeId} {sz len:Nat} {z:List PL} {ps:List (Nat × Nat × dF)}:W k u (bU Γ q σ d (.N9 e sz len z ps)) ↔ W (fun l=>W (fun z=>(q && z.any fU) = false ∧ W (fun p=>W (fun s=>W k ⟨⟩ (CW (.c (.one (.own (cZ d) len))) s)) ⟨⟩ (new p.2 (cZ d) (.row sz (rowsOf sz len p.1)))) ⟨⟩ (jY σ z)) ⟨⟩ (fill z l)) ⟨⟩ (vals σ ps):=by
 simp only [bU,dL,aK,bZ,gF,bO,aiC]
@[go_sem ↓] theorem ad1 {n:Nat} {agg:Bool}:W k u (bU Γ q σ d (.load n agg x)) ↔ W (fun v=>W (fun l=>W (fun z=>k (.c z,σ)) ⟨⟩ (mk agg l)) ⟨⟩ (j3 σ n v)) ⟨⟩ (val σ x):=by
 have h:bU Γ q σ d (.load n agg x) = (val σ x).bind fun v=>(j3 σ n v).bind fun l=>(mk agg l).map fun z=>(.c z,σ):=by
  simp only [bU]
  congr 1
  funext v
  cases v with
  | agg l=>rfl
  | one p =>
   cases p with
   | ptr key off=>simp only [j3,oJ];cases get σ.ob key with | none=>rfl | some o=>cases o <;> rfl
   | fp cs=>simp only [j3];cases seg n 0 cs <;> rfl
   | rp key z i off =>
    simp only [j3,iw]
    cases get σ.ob key with
    | none=>rfl
    | some o =>
     cases o with
     | row sz rows =>
      simp only [Lx,Option.bind_some]
      split
      ·rfl
      ·cases rows[i]? with
       | none=>rfl
       | some r=>simp only [Option.bind_some];cases seg n off r <;> rfl
     | _=>rfl
   | _=>rfl
 rw [h]
 simp only [dL,aK,bO]
def DI (q:Bool) (σ:St) (ys:List PL):CV → Option St
 | .one (.ptr key off)=>(oJ σ key).bind fun xs=>(lay off ys xs).map fun l=>jf σ key (.eY l)
 | .one (.rp key z i off)=>if q && ys.any fU then none else (jY σ ys).bind fun p=>(iw p.2 key).bind fun o=>if o.1 ≠ z then none else o.2[i]?.bind fun r=>(lay off p.1 r).map fun l=>jf p.2 key (.row o.1 (o.2.set i l))
 | _=>none
@[go_sem ↓] theorem abw {n:Nat}:W k u (bU Γ q σ d (.store n x y)) ↔ W (fun v=>W (fun z=>((cells z).length = n ∧ (cells z).any oN = false) ∧ W (fun s=>k (.c (.one .und),s)) ⟨⟩ (DI q σ (cells z) v)) ⟨⟩ (val σ y)) ⟨⟩ (val σ x):=by
 have h:bU Γ q σ d (.store n x y) = (val σ x).bind fun v=>(val σ y).bind fun z=>if (cells z).length = n ∧ (cells z).any oN = false then (DI q σ (cells z) v).map fun s=>(.c (.one .und),s) else none:=by
  simp only [bU]
  congr 1
  funext v
  congr 1
  funext z
  split
  ·cases v with
   | agg l=>rfl
   | one p =>
    cases p with
    | ptr key off =>
     simp only [DI,oJ]
     cases get σ.ob key with
     | none=>rfl
     | some o=>cases o <;> first | rfl | (simp only [oc,Option.bind_some,Option.map_map];rfl)
    | rp key zz i off =>
     simp only [DI,iw]
     split
     ·rfl
     ·cases jY σ (cells z) with
      | none=>rfl
      | some p =>
       simp only [Option.bind_some]
       cases get p.2.ob key with
       | none=>rfl
       | some o =>
        cases o with
        | row sz rows =>
         simp only [Lx,Option.bind_some]
         split
         ·rfl
         ·cases rows[i]? with
          | none=>rfl
          | some r=>simp only [Option.bind_some,Option.map_map];rfl
        | _=>rfl
    | _=>rfl
  ·rfl
 rw [h]
 simp only [dL,aK,bH,bO]
end
section
variable {k : St → Prop} {u:Tok k}
@[go_sem ↓] theorem UN {ys:List PL} {key off:Nat}:W k u (DI q σ ys (.one (.ptr key off))) ↔ W (fun xs=>W (fun l=>k (jf σ key (.eY l))) ⟨⟩ (lay off ys xs)) ⟨⟩ (oJ σ key):=by
 simp only [DI,dL,aK,bO]
@[go_sem ↓] theorem Xa {ys:List PL} {key z i off:Nat}:W k u (DI q σ ys (.one (.rp key z i off))) ↔ (q && ys.any fU) = false ∧ W (fun p=>W (fun o=>o.1 = z ∧ W (fun r=>W (fun l=>k (jf p.2 key (.row o.1 (o.2.set i l)))) ⟨⟩ (lay off p.1 r)) ⟨⟩ (o.2[i]?)) ⟨⟩ (iw p.2 key)) ⟨⟩ (jY σ ys):=by
 simp only [DI,dL,bZ,aK,bO,ne_eq,ail,aiC]
end
end
end
section
open Go
section
variable {Γ : Env} {F d:Nat} {q:Bool} {σ:St} {k:PV × St → Prop} {u:Tok k} {x y z:dF}
def O1 : CV → Option CV
 | .one (.ptr k o)=>some (.one (.ptr k o))
 | .one (.fp cs)=>some (.one (.fp cs))
 | .one (.rp k z i o)=>some (.one (.rp k z i o))
 | _=>none
@[go_sem] theorem Y0 {k o:Nat}:O1 (.one (.ptr k o)) = some (.one (.ptr k o)):=rfl
@[go_sem] theorem abx {cs:List FV}:O1 (.one (.fp cs)) = some (.one (.fp cs)):=rfl
@[go_sem] theorem aby {k z i o:Nat}:O1 (.one (.rp k z i o)) = some (.one (.rp k z i o)):=rfl
@[go_sem ↓] theorem ad2 : W k u (bU Γ q σ d (.gL x)) ↔ W (fun v=>W (fun w=>k (.c w,σ)) ⟨⟩ (O1 v)) ⟨⟩ (val σ x):=by
 simp only [bU,dL,aK]
 refine bX fun v=>?_
 cases v with
 | agg l=>exact bS
 | one p=>cases p <;> first | exact bS | exact kX ahI
def Y1 : CV → Option Bool
 | .one .iD=>some true
 | .one (.ptr _ _)=>some false
 | .one (.fp _)=>some false
 | .one (.rp _ _ _ _)=>some false
 | _=>none
@[go_sem] theorem abz : Y1 (.one .iD) = some true:=rfl
@[go_sem] theorem abA {k o:Nat}:Y1 (.one (.ptr k o)) = some false:=rfl
@[go_sem] theorem ad3 {cs:List FV}:Y1 (.one (.fp cs)) = some false:=rfl
@[go_sem] theorem ad4 {k z i o:Nat}:Y1 (.one (.rp k z i o)) = some false:=rfl
@[go_sem ↓] theorem ad5 {neg:Bool}:W k u (bU Γ q σ d (.wh neg x)) ↔ W (fun v=>W (fun b=>k (.c (.one (.f (.bool (if neg then !b else b)))),σ)) ⟨⟩ (Y1 v)) ⟨⟩ (val σ x):=by
 simp only [bU,dL,aK]
 refine bX fun v=>?_
 cases v with
 | agg l=>exact bS
 | one p=>cases p <;> first | exact bS | (cases neg <;> exact kX ahI)
@[go_sem ↓] theorem ahj {off:Nat}:W k u (bU Γ q σ d (.fa off x)) ↔ W (fun v=>W (fun w=>k (.c w,σ)) ⟨⟩ (fav off v)) ⟨⟩ (val σ x):=by
 simp only [bU,dL,aK]
 refine bX fun v=>?_
 cases v with
 | agg l=>exact bS
 | one p=>cases p <;> first | exact bS | exact kX ahI
@[go_sem ↓] theorem ahk {o:Ar}:W k u (bU Γ q σ d (.ar o x y)) ↔ W (fun a=>W (fun b=>W (fun a=>W (fun b=>a.1 = b.1 ∧ W (fun n=>k (.c (.one (.f (.int a.1 n))),σ)) ⟨⟩ (Ke o a.1 a.2 b.2)) ⟨⟩ (int? b)) ⟨⟩ (int? a)) ⟨⟩ (val σ y)) ⟨⟩ (val σ x):=by
 simp only [bU,dL,aK,bH,one,bg]
@[go_sem ↓] theorem afE {o:WB}:W k u (bU Γ q σ d (.cmp o x y)) ↔ W (fun a=>W (fun b=>W (fun a=>W (fun b=>a.1 = b.1 ∧ k (.c (.one (.f (.bool (wB o a.2 b.2)))),σ)) ⟨⟩ (int? b)) ⟨⟩ (int? a)) ⟨⟩ (val σ y)) ⟨⟩ (val σ x):=by
 simp only [bU,dL,aK,bH,one,bg]
@[go_sem] theorem abB {k:IntKind} {a b:Int}:Ke .add k a b = some (k.wrap (a + b)):=rfl
@[go_sem] theorem abC {k:IntKind} {a b:Int}:Ke .sub k a b = some (k.wrap (a - b)):=rfl
@[go_sem] theorem abD {k:IntKind} {a b:Int}:Ke .mul k a b = some (k.wrap (a * b)):=rfl
section
variable {k : Int → Prop} {u:Tok k} {kk:IntKind} {a b:Int}
@[go_sem ↓] theorem afF : W k u (Ke .quo kk a b) ↔ ¬ b = 0 ∧ k (kk.wrap (a.tdiv b)):=by simp only [Ke,dL,bZ,bg]
@[go_sem ↓] theorem afG : W k u (Ke .rem kk a b) ↔ ¬ b = 0 ∧ k (a.tmod b):=by simp only [Ke,dL,bZ,bg]
end
section
variable {a b:Int}
@[go_sem] theorem abE : wB .eq a b = decide (a = b):=rfl
@[go_sem] theorem abF : wB .ne a b = !decide (a = b):=rfl
@[go_sem] theorem abG : wB .lt a b = decide (a < b):=rfl
@[go_sem] theorem abH : wB .le a b = decide (a ≤ b):=rfl
@[go_sem] theorem abI : wB .gt a b = decide (b < a):=rfl
@[go_sem] theorem abJ : wB .ge a b = decide (b ≤ a):=rfl
end
@[go_sem ↓] theorem afH {sh:KS} {neg:Bool}:W k u (bU Γ q σ d (.rA sh neg x y)) ↔ W (fun a=>W (fun b=>W (fun a=>W (fun b=>(a.ks = sh ∧ b.ks = sh) ∧ k (.c (.one (.f (.bool (if neg then !decide (a = b) else decide (a = b))))),σ)) ⟨⟩ (keyOf b)) ⟨⟩ (keyOf a)) ⟨⟩ (val σ y)) ⟨⟩ (val σ x):=by
 simp only [bU,dL,aK,bH,one,bg]
@[go_sem ↓] theorem afI : W k u (bU Γ q σ d (.cat x y)) ↔ W (fun a=>W (fun b=>W (fun a=>W (fun b=>a.size + b.size ≤ 9223372036854775807 ∧ k (.c (.one (.f (.str (a ++ b)))),σ)) ⟨⟩ (qA b)) ⟨⟩ (qA a)) ⟨⟩ (val σ y)) ⟨⟩ (val σ x):=by
 simp only [bU,dL,aK]
 refine bX fun v=>bX fun w=>?_
 have no:V k none ↔ False:=jh
 have nb:∀ {g:ByteArray → Prop},V g none ↔ False:=jh
 have nn:∀ {x:Option ByteArray},V (fun _:ByteArray=>False) x ↔ False:=by intro x;cases x <;> simp [V]
 cases v with
 | agg l=>simp only [qA,no,nb]
 | one p =>
  cases p with
  | f a =>
   cases a with
   | str s =>
    cases w with
    | agg l=>simp only [qA,no,nb,bg]
    | one p =>
     cases p with
     | f b =>
      cases b with
      | str t=>simp only [qA,bg,bH,one]
      | _=>simp only [qA,no,nb,bg]
     | _=>simp only [qA,no,nb,bg]
   | _=>simp only [qA,no,nb]
  | _=>simp only [qA,no,nb]
@[go_sem ↓] theorem ahl : W k u (bU Γ q σ d (.no x)) ↔ W (fun v=>W (fun b=>k (.c (.one (.f (.bool (!b)))),σ)) ⟨⟩ (bool? v)) ⟨⟩ (val σ x):=by
 simp only [bU,dL,aK,one,bg]
@[go_sem ↓] theorem ahm {kk:IntKind}:W k u (bU Γ q σ d (.ci kk x)) ↔ W (fun v=>W (fun a=>k (.c (.one (.f (.int kk (kk.wrap a.2)))),σ)) ⟨⟩ (int? v)) ⟨⟩ (val σ x):=by
 simp only [bU,dL,aK,one,bg]
@[go_sem ↓] theorem afJ : W k u (bU Γ q σ d (.mM x)) ↔ W (fun v=>W (fun s=>k (.c (.one (.f (.str s))),σ)) ⟨⟩ (qA v)) ⟨⟩ (val σ x):=by
 simp only [bU,dL,aK]
 refine bX fun v=>?_
 cases v with
 | agg l=>exact bS
 | one p=>cases p with
  | f a=>cases a <;> first | exact bS | exact kX ahI
  | _=>exact bS
@[go_sem ↓] theorem abK {sh:KS}:W k u (bU Γ q σ d (.oM sh)) ↔ W (fun s=>k (.c (.one (.mp (cZ d))),s)) ⟨⟩ (new σ (cZ d) (.map sh [])):=by
 simp only [bU,gF,dL,bO]
@[go_sem ↓] theorem ahn : W k u (bU Γ q σ d (.mn x y)) ↔ W (fun a=>W (fun b=>W (fun a=>W (fun b=>a.1 = b.1 ∧ k (.c (.one (.f (.int a.1 (if b.2 < a.2 then b.2 else a.2)))),σ)) ⟨⟩ (int? b)) ⟨⟩ (int? a)) ⟨⟩ (val σ y)) ⟨⟩ (val σ x):=by
 simp only [bU,dL,aK,bH,one,bg]
@[go_sem ↓] theorem aho : W k u (bU Γ q σ d (.mx x y)) ↔ W (fun a=>W (fun b=>W (fun a=>W (fun b=>a.1 = b.1 ∧ k (.c (.one (.f (.int a.1 (if a.2 < b.2 then b.2 else a.2)))),σ)) ⟨⟩ (int? b)) ⟨⟩ (int? a)) ⟨⟩ (val σ y)) ⟨⟩ (val σ x):=by
 simp only [bU,dL,aK,bH,one,bg]
@[go_sem ↓] theorem afK {o:BinOp}:W k u (bU Γ q σ d (.bit o x y)) ↔ W (fun a=>W (fun b=>W (fun a=>W (fun b=>a.1 = b.1 ∧ k (.c (.one (.f (.int a.1 (Go.bits o a.1 a.2 b.2)))),σ)) ⟨⟩ (int? b)) ⟨⟩ (int? a)) ⟨⟩ (val σ y)) ⟨⟩ (val σ x):=by
 simp only [bU,dL,aK,bH,one,bg]
@[go_sem ↓] theorem afL {l:Bool}:W k u (bU Γ q σ d (.TG l x y)) ↔ W (fun a=>W (fun b=>W (fun a=>W (fun b=>0 ≤ b.2 ∧ k (.c (.one (.f (.int a.1 (if l then a.1.wrap (a.2 * 2 ^ (min b.2.toNat a.1.bits)) else a.2.fdiv (2 ^ (min b.2.toNat a.1.bits)))))),σ)) ⟨⟩ (int? b)) ⟨⟩ (int? a)) ⟨⟩ (val σ y)) ⟨⟩ (val σ x):=by
 simp only [bU,dL,aK,bH,one,bg]
@[go_sem ↓] theorem ad6 {lo hi:Option dF}:W k u (bU Γ q σ d (.IK x lo hi)) ↔ W (fun v=>W (fun s=>W (fun p=>k (.c (.one (.f (.str (s.extract p.1 p.2)))),σ)) ⟨⟩ (rng s.size σ lo hi)) ⟨⟩ (qA v)) ⟨⟩ (val σ x):=by
 simp only [bU,dL,aK]
 refine bX fun v=>?_
 cases v with
 | agg l=>exact bS
 | one p=>cases p with
  | f a =>
   cases a with
   | str s=>simp only [qA,bg,aK,one]
   | _=>exact bS
  | _=>exact bS
section
variable {k : Nat × Nat → Prop} {u:Tok k} {len:Nat} {lo hi:Option dF}
@[go_sem ↓] theorem afM : W k u (rng len σ lo hi) ↔ W (fun h=>W (fun l=>k (l,h)) ⟨⟩ (bnd σ h lo 0)) ⟨⟩ (bnd σ len hi len):=by
 simp only [rng,dL,aK,bO]
end
section
variable {k : Nat → Prop} {u:Tok k} {len dd:Nat}
@[go_sem ↓] theorem UO : W k u (bnd σ len none dd) ↔ k dd:=gG
@[go_sem ↓] theorem UQ : W k u (bnd σ len (some x) dd) ↔ W (fun v=>W (fun p=>(0 ≤ p.2 ∧ p.2 ≤ (len:Int)) ∧ k p.2.toNat) ⟨⟩ (int? v)) ⟨⟩ (val σ x):=by
 simp only [bnd,dL,aK,bH,bg]
end
def DJ (q:Bool) (σ:St) (sz:Nat) (lo hi:Option dF):CV → Option (PV × St)
 | .one (.f (.sl rows))=>if rows.all (fun r=>r.length == sz) = false then none else (rng rows.length σ lo hi).bind fun p=>one (.sl ((rows.drop p.1).take (p.2 - p.1))) σ
 | .one .bT=>(rng 0 σ lo hi).bind fun p=>one (.sl []) σ
 | .one (.own key _)=>(iw σ key).bind fun o=>if o.1 ≠ sz then none else (rng o.2.length σ lo hi).bind fun p=>if q then none else (yL σ key).bind fun s=>one (.sl ((o.2.drop p.1).take (p.2 - p.1))) s
 | _=>none
@[go_sem ↓] theorem afN {sz:Nat} {lo hi:Option dF}:W k u (bU Γ q σ d (.cut sz x lo hi)) ↔ W (fun v=>W k ⟨⟩ (DJ q σ sz lo hi v)) ⟨⟩ (val σ x):=by
 simp only [bU,dL,aK]
 refine bX fun v=>?_
 cases v with
 | agg l=>exact ahI
 | one p=>cases p with
  | f a=>cases a <;> exact ahI
  | own key n=>simp only [DJ,iw];cases get σ.ob key with | none=>exact ahI | some o=>cases o <;> exact ahI
  | _=>exact ahI
@[go_sem ↓] theorem Y2 {sz:Nat} {lo hi:Option dF} {rows:List (List FV)}:W k u (DJ q σ sz lo hi (.one (.f (.sl rows)))) ↔ rows.all (fun r=>r.length == sz) = true ∧ W (fun p=>k (.c (.one (.f (.sl ((rows.drop p.1).take (p.2 - p.1))))),σ)) ⟨⟩ (rng rows.length σ lo hi):=by
 simp only [DJ,dL,aK,bZ,one,bg,Bool.not_eq_false]
@[go_sem ↓] theorem Y3 {sz:Nat} {lo hi:Option dF}:W k u (DJ q σ sz lo hi (.one .bT)) ↔ W (fun p=>k (.c (.one (.f (.sl []))),σ)) ⟨⟩ (rng 0 σ lo hi):=by
 simp only [DJ,dL,aK,one,bg]
@[go_sem ↓] theorem Y4 {sz key n:Nat} {lo hi:Option dF}:W k u (DJ q σ sz lo hi (.one (.own key n))) ↔ W (fun o=>o.1 = sz ∧ W (fun p=>q = false ∧ W (fun s=>k (.c (.one (.f (.sl ((o.2.drop p.1).take (p.2 - p.1))))),s)) ⟨⟩ (yL σ key)) ⟨⟩ (rng o.2.length σ lo hi)) ⟨⟩ (iw σ key):=by
 simp only [DJ,dL,aK,bZ,one,bg,ne_eq,ail,aiC]
@[go_sem ↓] theorem afO {off n:Nat} {agg:Bool}:W k u (bU Γ q σ d (.WC off n agg x)) ↔ W (fun v=>W (fun l=>W (fun l=>W (fun z=>k (.c z,σ)) ⟨⟩ (mk agg l)) ⟨⟩ (seg n off l)) ⟨⟩ (Lu v)) ⟨⟩ (val σ x):=by
 simp only [bU,dL,aK]
 refine bX fun v=>?_
 cases v with
 | agg l=>simp only [Lu,bg,aK,bO]
 | one p=>exact bS
def UR (σ:St) (sz:Nat) (i:Int):CV → Option PL
 | .one (.f (.sl rows))=>rows[i.toNat]?.bind fun r=>if r.length = sz then some (.fp r) else none
 | .one (.own key n)=>(iw σ key).bind fun o=>if o.1 = sz ∧ i < n ∧ n = o.2.length then some (.rp key sz i.toNat 0) else none
 | _=>none
@[go_sem ↓] theorem ahp {sz:Nat}:W k u (bU Γ q σ d (.ia sz x y)) ↔ W (fun v=>W (fun j=>W (fun p=>0 ≤ p.2 ∧ W (fun l=>k (.c (.one l),σ)) ⟨⟩ (UR σ sz p.2 v)) ⟨⟩ (int? j)) ⟨⟩ (val σ y)) ⟨⟩ (val σ x):=by
 simp only [bU,dL,aK,bH]
 refine bX fun v=>bX fun j=>bX fun p=>aiU ahI ?_
 cases v with
 | agg l=>exact bS
 | one a =>
  cases a with
  | f a =>
   cases a with
   | sl rows=>simp only [UR,aK,bH,bg]
   | _=>exact bS
  | own key n =>
   simp only [UR,iw]
   cases get σ.ob key with
   | none=>exact bS
   | some o =>
    cases o with
    | row sz' rows=>simp only [Lx,Option.bind_some,bH,bg]
    | _=>exact bS
  | _=>exact bS
section
variable {k : PL → Prop} {u:Tok k} {sz:Nat} {i:Int}
@[go_sem ↓] theorem abL {rows:List (List FV)}:W k u (UR σ sz i (.one (.f (.sl rows)))) ↔ W (fun r=>r.length = sz ∧ k (.fp r)) ⟨⟩ (rows[i.toNat]?):=by
 simp only [UR,dL,aK,bH,bg]
@[go_sem ↓] theorem abM {key n:Nat}:W k u (UR σ sz i (.one (.own key n))) ↔ W (fun o=>(o.1 = sz ∧ i < n ∧ n = o.2.length) ∧ k (.rp key sz i.toNat 0)) ⟨⟩ (iw σ key):=by
 simp only [UR,dL,aK,bH,bg]
end
@[go_sem ↓] theorem afP {sz len:Nat} {agg:Bool}:W k u (bU Γ q σ d (.idx sz len agg x y)) ↔ W (fun v=>W (fun j=>W (fun p=>(0 ≤ p.2 ∧ p.2 < (len:Int)) ∧ W (fun l=>W (fun l=>W (fun z=>k (.c z,σ)) ⟨⟩ (mk agg l)) ⟨⟩ (seg sz (p.2.toNat * sz) l)) ⟨⟩ (Lu v)) ⟨⟩ (int? j)) ⟨⟩ (val σ y)) ⟨⟩ (val σ x):=by
 simp only [bU,dL,aK,bH]
 refine bX fun v=>bX fun j=>bX fun p=>aiU ahI ?_
 cases v with
 | agg l=>simp only [Lu,bg,aK,bO]
 | one p=>exact bS
@[go_sem ↓] theorem afQ : W k u (bU Γ q σ d (.chr x y)) ↔ W (fun v=>W (fun j=>W (fun p=>W (fun s=>0 ≤ p.2 ∧ W (fun b=>k (.c (.one (.f (.int .u8 b.toNat))),σ)) ⟨⟩ (s.data[p.2.toNat]?)) ⟨⟩ (qA v)) ⟨⟩ (int? j)) ⟨⟩ (val σ y)) ⟨⟩ (val σ x):=by
 simp only [bU,dL,aK]
 refine bX fun v=>bX fun j=>bX fun p=>?_
 cases v with
 | agg l=>exact bS
 | one p=>cases p with
  | f a =>
   cases a with
   | str s=>simp only [qA,bg,bH,aK,one]
   | _=>exact bS
  | _=>exact bS
@[go_sem ↓] theorem afR {i:Nat}:W k u (bU Γ q σ d (.ext x i)) ↔ W (fun v=>W (fun l=>W (fun w=>k (.c w,σ)) ⟨⟩ (l[i]?)) ⟨⟩ (Uz v)) ⟨⟩ (rM σ x):=by
 simp only [bU,dL]
 cases rM σ x with
 | none=>exact bS
 | some v =>
  rw [bg]
  cases v with
  | c y=>exact bS
  | tO l=>simp only [Uz,bg,bO]
@[go_sem ↓] theorem ad7 : W k u (bU Γ q σ d (.CS x)) ↔ W (fun v=>W (fun s=>k (.c (.one (.f (.int .i64 s.size))),σ)) ⟨⟩ (qA v)) ⟨⟩ (val σ x):=by
 simp only [bU,dL,aK]
 refine bX fun v=>?_
 cases v with
 | agg l=>exact bS
 | one p=>cases p with
  | f a=>cases a <;> first | exact bS | exact kX ahI
  | _=>exact bS
def O4 (σ:St):CV → Option Nat
 | .one .eX=>some 0
 | .one (.mp key)=>(nW σ key).map fun o=>o.2.length
 | _=>none
@[go_sem] theorem Y5 : O4 σ (.one .eX) = some 0:=rfl
@[go_sem] theorem abN {key:Nat}:O4 σ (.one (.mp key)) = (nW σ key).map fun o=>o.2.length:=rfl
def O5 : CV → Option Nat
 | .one (.f (.sl rows))=>some rows.length
 | .one .bT=>some 0
 | .one (.own _ n)=>some n
 | _=>none
@[go_sem] theorem ad8 {rows:List (List FV)}:O5 (.one (.f (.sl rows))) = some rows.length:=rfl
@[go_sem] theorem ad9 : O5 (.one .bT) = some 0:=rfl
@[go_sem] theorem aea {k n:Nat}:O5 (.one (.own k n)) = some n:=rfl
@[go_sem ↓] theorem aeb : W k u (bU Γ q σ d (.iE x)) ↔ W (fun v=>W (fun n:Nat=>k (.c (.one (.f (.int .i64 (n:Int)))),σ)) ⟨⟩ (O5 v)) ⟨⟩ (val σ x):=by
 simp only [bU,dL,aK]
 refine bX fun v=>?_
 cases v with
 | agg l=>exact bS
 | one p=>cases p with
  | f a=>cases a <;> first | exact bS | exact kX ahI
  | _=>first | exact bS | exact kX ahI
@[go_sem ↓] theorem aec {neg:Bool}:W k u (bU Γ q σ d (.yS neg x)) ↔ W (fun v=>W (fun b=>k (.c (.one (.f (.bool (if neg then !b else b)))),σ)) ⟨⟩ (UA v)) ⟨⟩ (val σ x):=by
 simp only [bU,dL,aK]
 refine bX fun v=>?_
 cases v with
 | agg l=>exact bS
 | one p=>cases p with
  | f a =>
   cases a with
   | sl rows=>cases rows <;> first | exact bS | (cases neg <;> exact kX ahI)
   | _=>exact bS
  | bT=>cases neg <;> exact kX ahI
  | _=>exact bS
end
end
section
open Go
section
variable {Γ : Env} {F d:Nat} {q:Bool} {σ:St} {k:PV × St → Prop} {u:Tok k} {x y z:dF}
def LA (σ:St) (sh:KS):CV → Option (Option (Nat × List (KV × FC)))
 | .one .eX=>some none
 | .one (.mp key)=>(nW σ key).bind fun o=>if o.1 = sh then some (some (key,o.2)) else none
 | _=>none
@[go_sem] theorem Y6 {sh:KS}:LA σ sh (.one .eX) = some none:=rfl
section
variable {k : Option (Nat × List (KV × FC)) → Prop} {u:Tok k}
@[go_sem ↓] theorem aed {sh:KS} {key:Nat}:W k u (LA σ sh (.one (.mp key))) ↔ W (fun o=>o.1 = sh ∧ k (some (key,o.2))) ⟨⟩ (nW σ key):=by
 simp only [LA,dL,aK,bH,bg]
end
def rT (m:Option (Nat × List (KV × FC))) (a:KV):Option FC:=m.bind fun m=>rD m.2 a
def cnt (m:Option (Nat × List (KV × FC))):Nat:=match m with
 | none=>0
 | some m=>m.2.length
@[go_sem] theorem Y7 {a:KV}:rT none a = none:=rfl
@[go_sem] theorem Y8 {key:Nat} {l:List (KV × FC)} {a:KV}:rT (some (key,l)) a = rD l a:=rfl
@[go_sem] theorem Y9 : cnt none = 0:=rfl
@[go_sem] theorem Za {key:Nat} {l:List (KV × FC)}:cnt (some (key,l)) = l.length:=rfl
def lkv (z:FC) (ok:Bool) (r:Option FC):PV:=if ok then .tO [wz (r.getD z),.one (.f (.bool r.isSome))] else .c (wz (r.getD z))
@[go_sem] theorem aee {z:FC} {r:Option FC}:lkv z true r = .tO [wz (r.getD z),.one (.f (.bool r.isSome))]:=rfl
@[go_sem] theorem aef {z:FC} {r:Option FC}:lkv z false r = .c (wz (r.getD z)):=rfl
@[go_sem] theorem Zb {x:FV}:wz (.one x) = .one (.f x):=rfl
@[go_sem] theorem Zc {xs:List FV}:wz (.agg xs) = .agg (xs.map .f):=rfl
@[go_sem ↓] theorem aeg {sh:KS} {z:FC} {ok:Bool}:W k u (bU Γ q σ d (.look sh z ok x y)) ↔ W (fun v=>W (fun w=>W (fun a=>a.ks = sh ∧ W (fun m=>k (lkv z ok (rT m a),σ)) ⟨⟩ (LA σ sh v)) ⟨⟩ (keyOf w)) ⟨⟩ (val σ y)) ⟨⟩ (val σ x):=by
 simp only [bU,dL,aK,bZ,bO,ne_eq,ail]
 refine bX fun v=>bX fun w=>bX fun a=>aiU ahI ?_
 cases v with
 | agg l=>exact bS
 | one p =>
  cases p with
  | eX=>exact kX ahI
  | mp key =>
   simp only [LA,nW]
   cases get σ.ob key with
   | none=>exact bS
   | some o =>
    cases o with
    | map sh' ents =>
     simp only [om,Option.bind_some]
     by_cases hs:sh' = sh
     ·rw [ahC hs,ahC hs];exact kX (by cases ok <;> exact ahI)
     ·rw [ahD hs,ahD hs];exact bS
    | _=>exact bS
  | _=>exact bS
@[go_sem ↓] theorem aeh : W k u (bU Γ q σ d (.IL x)) ↔ W (fun v=>W (fun n:Nat=>k (.c (.one (.f (.int .i64 (n:Int)))),σ)) ⟨⟩ (O4 σ v)) ⟨⟩ (val σ x):=by
 simp only [bU,dL,aK]
 refine bX fun v=>?_
 cases v with
 | agg l=>exact bS
 | one p =>
  cases p with
  | eX=>exact kX ahI
  | mp key =>
   simp only [O4,nW]
   cases get σ.ob key with
   | none=>exact bS
   | some o=>cases o <;> first | exact bS | exact kX ahI
  | _=>exact bS
def upv (σ:St) (sh:KS) (a:KV) (p:FC × St):CV → Option St
 | .one (.mp key)=>(nW p.2 key).bind fun o=>if o.1 = sh then some (jf p.2 key (.map sh (wu o.2 a p.1))) else none
 | _=>none
@[go_sem ↓] theorem aei {sh:KS}:W k u (bU Γ q σ d (.wm sh x y z)) ↔ W (fun v=>W (fun w=>W (fun a=>a.ks = sh ∧ W (fun w=>(q && (cells w).any fU) = false ∧ W (fun p=>W (fun s=>k (.c (.one .und),s)) ⟨⟩ (upv σ sh a p v)) ⟨⟩ (WH σ w)) ⟨⟩ (val σ z)) ⟨⟩ (keyOf w)) ⟨⟩ (val σ y)) ⟨⟩ (val σ x):=by
 simp only [bU,dL,aK,bZ,ne_eq,ail,aiC]
 refine bX fun v=>bX fun w=>bX fun a=>aiU ahI (bX fun w=>aiU ahI (bX fun p=>?_))
 cases v with
 | agg l=>exact bS
 | one b =>
  cases b with
  | mp key =>
   simp only [upv,nW]
   cases get p.2.ob key with
   | none=>exact bS
   | some o =>
    cases o with
    | map sh' ents =>
     simp only [om,Option.bind_some]
     split
     ·exact kX ahI
     ·exact bS
    | _=>exact bS
  | _=>exact bS
section
variable {k : St → Prop} {u:Tok k} {sh:KS} {a:KV} {key:Nat}
@[go_sem ↓] theorem afS {p:FC × St}:W k u (upv σ sh a p (.one (.mp key))) ↔ W (fun o=>o.1 = sh ∧ k (jf p.2 key (.map sh (wu o.2 a p.1)))) ⟨⟩ (nW p.2 key):=by
 simp only [upv,dL,aK,bH,bg]
end
def Zd (σ:St) (sh:KS) (a:KV):CV → Option St
 | .one .eX=>some σ
 | .one (.mp key)=>(nW σ key).bind fun o=>if o.1 = sh then some (jf σ key (.map sh (AL o.2 a))) else none
 | _=>none
@[go_sem] theorem abO {sh:KS} {a:KV}:Zd σ sh a (.one .eX) = some σ:=rfl
section
variable {k : St → Prop} {u:Tok k} {sh:KS} {a:KV} {key:Nat}
@[go_sem ↓] theorem afT : W k u (Zd σ sh a (.one (.mp key))) ↔ W (fun o=>o.1 = sh ∧ k (jf σ key (.map sh (AL o.2 a)))) ⟨⟩ (nW σ key):=by
 simp only [Zd,dL,aK,bH,bg]
end
@[go_sem ↓] theorem afU {sh:KS}:W k u (bU Γ q σ d (.del sh x y)) ↔ W (fun v=>W (fun w=>W (fun a=>a.ks = sh ∧ W (fun s=>k (.tO [],s)) ⟨⟩ (Zd σ sh a v)) ⟨⟩ (keyOf w)) ⟨⟩ (val σ y)) ⟨⟩ (val σ x):=by
 simp only [bU,dL,aK,bZ,ne_eq,ail]
 refine bX fun v=>bX fun w=>bX fun a=>aiU ahI ?_
 cases v with
 | agg l=>exact bS
 | one b =>
  cases b with
  | eX=>exact kX ahI
  | mp key =>
   simp only [Zd,nW]
   cases get σ.ob key with
   | none=>exact bS
   | some o =>
    cases o with
    | map sh' ents =>
     simp only [om,Option.bind_some]
     split
     ·exact kX ahI
     ·exact bS
    | _=>exact bS
  | _=>exact bS
def Xb (σ:St):CV → Option (List (List FV))
 | .one .bT=>some []
 | .one (.f (.sl rows))=>some rows
 | .one (.own key _)=>(iw σ key).map (·.2)
 | _=>none
@[go_sem] theorem afV : Xb σ (.one .bT) = some []:=rfl
@[go_sem] theorem afW {rows:List (List FV)}:Xb σ (.one (.f (.sl rows))) = some rows:=rfl
@[go_sem] theorem afX {key n:Nat}:Xb σ (.one (.own key n)) = (iw σ key).map (·.2):=rfl
def Xc (q:Bool) (σ:St) (d sz bytes:Nat) (w:CV) (DK:List (List FV)):CV → Option (PV × St)
 | .one .bT=>if q = false ∧ DK.length * bytes ≤ 140737488355328 ∧ DK.all (fun r=>r.length == sz) then (new σ (cZ d) (.row sz DK)).map fun s=>(.c (.one (.own (cZ d) DK.length)),s) else none
 | .one (.own key n)=>(iw σ key).bind fun o=>if q = false ∧ (o.2.length + DK.length) * bytes ≤ 140737488355328 ∧ o.1 = sz ∧ n = o.2.length ∧ uM key w = false ∧ key % 2 = 0 ∧ DK.all (fun r=>r.length == sz) then
   some (.c (.one (.own key (o.2.length + DK.length))),jf (sub σ key .any) key (.row sz (o.2 ++ DK))) else none
 | _=>none
@[go_sem ↓] theorem afY {e:TypeId} {sz bytes:Nat}:W k u (bU Γ q σ d (.app e sz bytes x y)) ↔ W (fun v=>W (fun w=>W (fun l=>W k ⟨⟩ (Xc q σ d sz bytes w l v)) ⟨⟩ (Xb σ w)) ⟨⟩ (val σ y)) ⟨⟩ (val σ x):=by
 simp only [bU,dL,aK]
 refine bX fun v=>bX fun w=>?_
 have e:pK σ w = Xb σ w:=by
  cases w with
  | agg l=>rfl
  | one p=>cases p with
   | f a=>cases a <;> rfl
   | own key n=>simp only [pK,Xb,iw];cases get σ.ob key with | none=>rfl | some o=>cases o <;> rfl
   | _=>rfl
 rw [e]
 refine bX fun l=>?_
 cases v with
 | agg l=>exact bS
 | one p =>
  cases p with
  | bT=>exact ahI
  | own key n =>
   simp only [Xc,iw]
   cases get σ.ob key with
   | none=>exact bS
   | some o=>cases o <;> exact ahI
  | _=>exact bS
@[go_sem ↓] theorem abP {sz bytes:Nat} {w:CV} {l:List (List FV)}:W k u (Xc q σ d sz bytes w l (.one .bT)) ↔ (q = false ∧ l.length * bytes ≤ 140737488355328 ∧ l.all (fun r=>r.length == sz) = true) ∧ W (fun s=>k (.c (.one (.own (cZ d) l.length)),s)) ⟨⟩ (new σ (cZ d) (.row sz l)):=by
 simp only [Xc,dL,bH,bO]
@[go_sem ↓] theorem abQ {sz bytes key n:Nat} {w:CV} {l:List (List FV)}:W k u (Xc q σ d sz bytes w l (.one (.own key n))) ↔ W (fun o=>(q = false ∧ (o.2.length + l.length) * bytes ≤ 140737488355328 ∧ o.1 = sz ∧ n = o.2.length ∧ uM key w = false ∧ key % 2 = 0 ∧ l.all (fun r=>r.length == sz) = true) ∧ k (.c (.one (.own key (o.2.length + l.length))),jf (sub σ key .any) key (.row sz (o.2 ++ l)))) ⟨⟩ (iw σ key):=by
 simp only [Xc,dL,aK,bH,bg]
def cov (σ:St) (sz:Nat) (i:Int):CV → Option (PV × St)
 | .one (.own key n)=>(iw σ key).bind fun o=>if o.1 = sz ∧ key % 2 = 0 ∧ 0 ≤ i ∧ i ≤ o.2.length then some (.c (.one (.own key i.toNat)),jf (sub σ key .any) key (.row sz (o.2.take i.toNat))) else none
 | _=>none
@[go_sem ↓] theorem aej {sz:Nat}:W k u (bU Γ q σ d (.CU sz x y)) ↔ q = false ∧ W (fun v=>W (fun j=>W (fun p=>W k ⟨⟩ (cov σ sz p.2 v)) ⟨⟩ (int? j)) ⟨⟩ (val σ y)) ⟨⟩ (val σ x):=by
 simp only [bU,dL,aK,bZ,aiC]
 refine aiU ahI (bX fun v=>bX fun j=>bX fun p=>?_)
 cases v with
 | agg l=>exact bS
 | one b =>
  cases b with
  | own key n =>
   simp only [cov,iw]
   cases get σ.ob key with
   | none=>exact bS
   | some o=>cases o <;> exact ahI
  | _=>exact bS
@[go_sem ↓] theorem afZ {sz key n:Nat} {i:Int}:W k u (cov σ sz i (.one (.own key n))) ↔ W (fun o=>(o.1 = sz ∧ key % 2 = 0 ∧ 0 ≤ i ∧ i ≤ (o.2.length:Int)) ∧ k (.c (.one (.own key i.toNat)),jf (sub σ key .any) key (.row sz (o.2.take i.toNat)))) ⟨⟩ (iw σ key):=by
 simp only [cov,dL,aK,bH,bg]
def cvv (σ:St) (sz:Nat) (i:Int):CV → Option PL
 | .one (.own key n)=>(iw σ key).bind fun o=>if o.1 = sz ∧ 0 ≤ i ∧ i ≤ o.2.length then some (.vw key sz o.2.length i.toNat) else none
 | _=>none
@[go_sem ↓] theorem aek {sz:Nat}:W k u (bU Γ q σ d (.cutV sz x y)) ↔ W (fun v=>W (fun j=>W (fun p=>W (fun l=>k (.c (.one l),σ)) ⟨⟩ (cvv σ sz p.2 v)) ⟨⟩ (int? j)) ⟨⟩ (val σ y)) ⟨⟩ (val σ x):=by
 simp only [bU,dL,aK]
 refine bX fun v=>bX fun j=>bX fun p=>?_
 cases v with
 | agg l=>exact bS
 | one b =>
  cases b with
  | own key n =>
   simp only [cvv,iw]
   cases get σ.ob key with
   | none=>exact bS
   | some o =>
    cases o with
    | row sz' rows=>simp only [Lx,Option.bind_some,bH,bg]
    | _=>exact bS
  | _=>exact bS
section
variable {k : PL → Prop} {u:Tok k}
@[go_sem ↓] theorem af0 {sz key n:Nat} {i:Int}:W k u (cvv σ sz i (.one (.own key n))) ↔ W (fun o=>(o.1 = sz ∧ 0 ≤ i ∧ i ≤ (o.2.length:Int)) ∧ k (.vw key sz o.2.length i.toNat)) ⟨⟩ (iw σ key):=by
 simp only [cvv,dL,aK,bH,bg]
end
def vw? : CV → Option (Nat × Nat × Nat × Nat)
 | .one (.vw key z n lo)=>some (key,z,n,lo)
 | _=>none
@[go_sem] theorem ael {a b c e:Nat}:vw? (.one (.vw a b c e)) = some (a,b,c,e):=rfl
@[go_sem ↓] theorem af2 {sz:Nat} {zs:List FV}:W k u (bU Γ q σ d (.Rz sz zs x)) ↔ W (fun v=>W (fun p=>W (fun o=>(o.1 = sz ∧ p.2.1 = sz ∧ zs.length = sz ∧ p.2.2.1 = o.2.length ∧ p.2.2.2 ≤ p.2.2.1) ∧ k (.tO [],jf σ p.1 (.row sz (o.2.take p.2.2.2 ++ List.replicate (p.2.2.1 - p.2.2.2) zs)))) ⟨⟩ (iw σ p.1)) ⟨⟩ (vw? v)) ⟨⟩ (val σ x):=by
 simp only [bU,dL,aK]
 refine bX fun v=>?_
 cases v with
 | agg l=>exact bS
 | one b =>
  cases b with
  | vw key z n lo =>
   simp only [vw?,bg,iw]
   cases get σ.ob key with
   | none=>exact bS
   | some o =>
    cases o with
    | row sz' rows=>simp only [Lx,bH,bg]
    | _=>exact bS
  | _=>exact bS
def RP (σ:St):CV → Option (List (List FV))
 | .one (.f (.sl rows))=>some rows
 | .one .bT=>some []
 | .one (.own key _)=>(iw σ key).bind fun o=>if o.1 = 1 then some o.2 else none
 | _=>none
@[go_sem] theorem af3 {rows:List (List FV)}:RP σ (.one (.f (.sl rows))) = some rows:=rfl
@[go_sem] theorem af4 : RP σ (.one .bT) = some []:=rfl
@[go_sem] theorem RQ : bytesOf [] = some ⟨#[]⟩:=rfl
@[go_sem] theorem O6 {n:Int} {l:List (List FV)}:bytesOf ([.int .u8 n] :: l) = (bytesOf l).map fun s=>⟨#[UInt8.ofNat n.toNat] ++ s.data⟩:=rfl
section
variable {k : List (List FV) → Prop} {u:Tok k}
@[go_sem ↓] theorem af5 {key n:Nat}:W k u (RP σ (.one (.own key n))) ↔ W (fun o=>o.1 = 1 ∧ k o.2) ⟨⟩ (iw σ key):=by
 simp only [RP,dL,aK,bH,bg]
end
@[go_sem ↓] theorem af6 : W k u (bU Γ q σ d (.WE x)) ↔ W (fun v=>W (fun l=>W (fun s=>k (.c (.one (.f (.str s))),σ)) ⟨⟩ (bytesOf l)) ⟨⟩ (RP σ v)) ⟨⟩ (val σ x):=by
 simp only [bU,dL,aK]
 refine bX fun v=>?_
 cases v with
 | agg l=>exact bS
 | one b =>
  cases b with
  | f a =>
   cases a with
   | sl rows=>simp only [RP,aK,bg,one]
   | _=>exact bS
  | bT=>simp only [RP,bg,bytesOf,one]
  | own key n =>
   simp only [RP,iw]
   cases get σ.ob key with
   | none=>exact bS
   | some o =>
    cases o with
    | row sz' rows=>simp only [Lx,Option.bind_some,bH,aK,bg,one]
    | _=>exact bS
  | _=>exact bS
@[go_sem ↓] theorem af7 {f:FuncId} {xs:List dF}:W k u (bU Γ q σ d (.Ol f xs)) ↔ W (fun l=>W (fun p=>k (.c (.one (.fn f p.1)),p.2)) ⟨⟩ (lC q σ l)) ⟨⟩ (iZ σ xs):=by
 simp only [bU,dL,aK,bO]
@[go_sem ↓] theorem aem {f:FuncId} {xs:List dF}:W k u (bU Γ q σ d (.yR f xs)) ↔ W (fun l=>W (fun dW=>W (fun r=>W (fun p=>W (fun s=>k (.c (.one (.own (cZ d) p.2.length)),s)) ⟨⟩ (new σ (cZ d) (.row p.1 p.2))) ⟨⟩ (TJ r.1)) ⟨⟩ (Γ f dW)) ⟨⟩ (Kr l)) ⟨⟩ (iZ σ xs):=by
 simp only [bU,rJ,dL,aK,bO]
attribute [go_sem] avT Ot avC Kr
@[go_sem] theorem Ze {sz:Nat} {rows:List (List FV)}:TJ [.one (.own sz rows)] = some (sz,rows):=rfl
@[go_sem ↓] theorem abR {gv:Bool} {f:FuncId} {xs:List dF}:W k u (bU Γ q σ d (.call gv f xs)) ↔ W (fun l=>W k ⟨⟩ (kE Γ gv q σ d f l)) ⟨⟩ (iZ σ xs):=by
 simp only [bU,dL,aK]
def fn? : CV → Option (FuncId × List (List FV))
 | .one (.fn f caps)=>some (f,caps)
 | _=>none
@[go_sem] theorem aen {f:FuncId} {caps:List (List FV)}:fn? (.one (.fn f caps)) = some (f,caps):=rfl
@[go_sem ↓] theorem af8 {xs:List dF}:W k u (bU Γ q σ d (.dyn x xs)) ↔ W (fun v=>W (fun p=>W (fun l=>W k ⟨⟩ (kE Γ false q σ d p.1 (l ++ p.2.map fun c=>.one (.fp c)))) ⟨⟩ (iZ σ xs)) ⟨⟩ (fn? v)) ⟨⟩ (val σ x):=by
 simp only [bU,dL,aK]
 refine bX fun v=>?_
 cases v with
 | agg l=>exact bS
 | one b =>
  cases b with
  | fn f caps=>simp only [fn?,bg,aK]
  | _=>exact bS
def Fv (gv:Bool) (args:List CV) (p:List AV × St) (r:List AV × List AV):Option St:=if (!gv && ((r.1.any vG || !p.1.all fE) && args.any (fun x=>(cells x).any fU))) = true then rF p.2 args else some p.2
def Fw (d:Nat) (σ:St) (args:List CV) (p:List AV × St) (r:List AV × List AV) (s:St):Option St:=if p.1.all fE = true then some s else yU σ (args.flatMap cells) (cZ d + 10000) s args r.2
@[go_sem ↓] theorem Zf {gv:Bool} {f:FuncId} {args:List CV}:W k u (kE Γ gv q σ d f args) ↔ W (fun p=>W (fun r0=>W (fun r=>((q && !(p.1.all fE && r.1.all fE)) = false ∧ (q && ((r.1.any vG || !p.1.all fE) && args.any (fun x=>(cells x).any fU))) = false) ∧
  W (fun s=>W (fun s=>W (fun v=>k (IW v.1,v.2)) ⟨⟩ (wD (cZ d) 0 [] s r.1)) ⟨⟩ (Fw d σ args p r s)) ⟨⟩ (Fv gv args p r)) ⟨⟩ (some (TI q r0))) ⟨⟩ (Γ f p.1)) ⟨⟩ (rE gv σ args):=by
 simp only [kE,dL,aK,bZ,bO,bg,Fv,Fw,aiC,and_assoc]
@[go_sem] theorem aeo {r:List AV × List AV}:TI false r = r:=rfl
@[go_sem] theorem abS {r:List AV × List AV}:TI true r = (r.1.map Oq,r.2):=rfl
@[go_sem] theorem abT {sz:Nat} {rows:List (List FV)}:Oq (.one (.own sz rows)) = .one (.f (.sl rows)):=rfl
@[go_sem] theorem af9 {x:FV}:Oq (.one (.f x)) = .one (.f x):=rfl
@[go_sem] theorem abU {xs:List TV}:Oq (.agg xs) = .agg xs:=rfl
@[go_sem] theorem abV {xs:List CL}:Oq (.one (.ptr xs)) = .one (.ptr xs):=rfl
end
section
variable {Γ : Env} {F:Nat} {k:List AV × List AV → Prop} {u:Tok k} {cf:CF} {dW:List AV}
@[go_sem ↓] theorem aga : W k u (IX Γ F cf dW) ↔ dW.length = cf.np ∧ W (fun e=>W (fun p=>(∀ id,p.1 ≠ .ext id) ∧ W (fun b=>W (fun l=>W (fun r=>k (r.1,b.1)) ⟨⟩ (lW cf.ro b.2 l)) ⟨⟩ (slots b.2 cf.res)) ⟨⟩ (jL p.2 e.1 dW)) ⟨⟩ (ev Γ F cf.body e.2)) ⟨⟩ (enter cf.bo 0 [] ⟨[],[]⟩ dW):=by
 simp only [IX,dL,bZ,aK,ne_eq,ail]
 refine aiU ahI (bX fun e=>bX fun p=>?_)
 obtain ⟨o,s⟩:=p
 cases o with
 | ext id=>simp [jh]
 | _=>simp [aK,bO]
@[go_sem] theorem abW : (∀ id,Out.iP ≠ .ext id) ↔ True:=by simp
@[go_sem] theorem abX : (∀ id,Out.ret ≠ .ext id) ↔ True:=by simp
@[go_sem] theorem abY {i:Nat}:(∀ id,Out.ext i ≠ .ext id) ↔ False:=by simp
end
end
end Go.Proofs.Ytfokaoeinpnagaa.Ev

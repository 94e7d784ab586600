/- A part of the proof of SeekDone: cut, joined and given short names by a program of this session (wip/tools/pack.py); Lean checks it. No condition. -/
import Derived.Test.YtfokaoeinpnagaaGreatPSDneg
import Derived.Test.YtfokaoeinpnagaaGreatPSDneh
import Derived.Deep.RegionHeld3
import Derived.WalkSpells
import Derived.Test.YtfokaoeinpnagaaGreatPSDnee
import Derived.ProofKit
import Derived.OpenShut
import Derived.SizedLaws
import Derived.ChangeArms
import Derived.ChangeSlices
import Derived.Carry
import Derived.Test.YtfokaoeinpnagaaGreatPSDnef
import Derived.Test.YtfokaoeinpnagaaGreatPSDned
set_option linter.unusedSectionVars false
set_option linter.unusedSimpArgs false
set_option linter.unusedVariables false
set_option maxHeartbeats 16000000
set_option maxRecDepth 100000
namespace Go.Proofs.YtfokaoeinpnagaaGreat.ZQ
section
open Go.RowKit Go.Proofs.YtfokaoeinpnagaaGreatW.aT Go.Proofs.YtfokaoeinpnagaaGreatW.dO Go.Proofs.YtfokaoeinpnagaaGreatW.eX
attribute [local go_sem] jM jN kW kX jd je jO jP
def bR.agg (a b c:Int):Value:=.agg #[.int .i64 a,.int .i64 b,.int .i64 c]
def bR.tab : List (Int × Value):=[(1,bR.agg 4 0 0),(28,bR.agg 16 0 0),(2,bR.agg 0 1 0),(5,bR.agg 0 1 0),(12,bR.agg 0 1 0),(6,bR.agg 0 2 20),(15,bR.agg 2 1 0),(33,bR.agg 6 1 0)]
theorem bR.calls (w:World):Calls Tryz.prog 129 #[] w fun e w'=>∃ g,e = .returned (.map (some g)) ∧ Mi.In w.heap.size w w' g bR.tab:=by
 have hmm:=@run_makeMap Tryz.prog
 have hi:=ah.mk (Mi.In.made (w:=w))
 generalize hg:w.heap.size = g at hi
 have hg':=ah.mk hg
 go_enter Tryz.func129,Tryz.ntmps129
 go_wp2_with (first | (refine Mi.EM 207 _ _ _ rfl ?_;refine Mi.aa3 _ rfl _ _ _ 207 rfl 3 205 Tryz.underlying207 Tryz.underlying3 _ _ rfl (ah.out (by assumption)) _ _ rfl rfl rfl ?_;clear hi;intro w1 hi))
 go_ret
 exact ⟨g,rfl,hi.out⟩
def bN.l0 : Nat → ByteArray → Int → Int → Int → Int → Int → Int → Int → ByteArray → ByteArray → List ByteArray → Option (ByteArray × ByteArray × List ByteArray × Bool)
 | 0,_,_,_,_,_,_,_,_,_,_,_=>none
 | k + 1,x0,x1,x2,x37,x38,Rz,RA,IU,IV,RB,CQ=>if x38 < x37 then ((bg.f k x0 x1).bind fun IW=>(if IW.2.2 = 0 then (if IW.2.1 > x2 then (some ((⟨#[]⟩:ByteArray),(⟨#[]⟩:ByteArray),([]:List ByteArray),false)) else (if CQ.length < 8796093022208 then (bN.l0 k x0 IW.2.1 x2 x37 (wrap64 (x38 + 1)) Rz RA IU IV RB (CQ ++ [IW.1])) else (none))) else (some ((⟨#[]⟩:ByteArray),(⟨#[]⟩:ByteArray),([]:List ByteArray),false)))) else (if 0 ≤ x1 then (if x1 ≤ x2 then (if x2 ≤ (x0.size:Int) then (some (IV,x0.extract (x1:Int).toNat (x2:Int).toNat,CQ,(((x0.extract (x1:Int).toNat (x2:Int).toNat).size:Int) == IU))) else (none)) else (none)) else (none))
def bN.f (k:Nat) (a0:ByteArray) (a1:Int) (a2:Int) (eO:Int) (iR:Int) (jZ:Int):Option (ByteArray × ByteArray × List ByteArray × Bool):=if (eO ≤ (wrap64 (a2 - a1))) then (if 0 ≤ a1 then (if a1 ≤ (wrap64 (a1 + eO)) then (if (wrap64 (a1 + eO)) ≤ (a0.size:Int) then (bN.l0 k a0 (wrap64 (a1 + eO)) a2 iR 0 eO iR jZ (a0.extract (a1:Int).toNat ((wrap64 (a1 + eO)):Int).toNat) (⟨#[]⟩:ByteArray) ([]:List ByteArray)) else (none)) else (none)) else (none)) else (some ((⟨#[]⟩:ByteArray),(⟨#[]⟩:ByteArray),([]:List ByteArray),false))
def bN.T15 : Bool × List (List Nat × List Nat):=(true,[([],[]),([],[]),([1],[1]),([2],[2]),([],[]),([4],[4]),([3,5],[3,5]),([0,0],[0]),([6,7,0,1,2,3,4,5,6,7],[6])])
def bN.B15 : List Nat:=[0,0,2,6,0,16,62,1,255]
theorem bN.aa4 : mV .any (opsOf Tryz.f130 15) = bN.T15:=by kernel_rfl
theorem bN.WO : qA bN.T15.2 bN.B15 = true:=by kernel_rfl
theorem bN.calls (k:Nat) (a0:ByteArray) (a1:Int) (a2:Int) (eO:Int) (iR:Int) (jZ:Int) (r1:ByteArray) (r2:ByteArray) (r3:List ByteArray) (r4:Bool) (w:World) (h:bN.f k a0 a1 a2 eO iR jZ = some (r1,r2,r3,r4)) :
  Calls Tryz.prog 130 #[.string a0,.int .i64 a1,.int .i64 a2,.agg #[.int .i64 eO,.int .i64 iR,.int .i64 jZ]] w fun e w'=>∃ v2_:Value,e = .returned (.tuple #[.agg #[.string r1,.string r2,v2_],.bool r4]) ∧ Kd.R Kd.string 9 w' w.heap.size (fun _=>True) v2_ r3 ∧ Below w.heap.size w w':=by
 have ahl:=Tryz.underlying205
 have aa5:=Tryz.underlying191
 have HB:=ah.mk (Below.refl w.heap.size w)
 have H:(if (eO ≤ (wrap64 (a2 - a1))) then (if 0 ≤ a1 then (if a1 ≤ (wrap64 (a1 + eO)) then (if (wrap64 (a1 + eO)) ≤ (a0.size:Int) then (bN.l0 k a0 (wrap64 (a1 + eO)) a2 iR 0 eO iR jZ (a0.extract (a1:Int).toNat ((wrap64 (a1 + eO)):Int).toNat) (⟨#[]⟩:ByteArray) ([]:List ByteArray)) else (none)) else (none)) else (none)) else (some ((⟨#[]⟩:ByteArray),(⟨#[]⟩:ByteArray),([]:List ByteArray),false))) = some (r1,r2,r3,r4):=h
 clear h
 by_cases c5:(eO ≤ (wrap64 (a2 - a1)))
 ·rw [ail c5] at H
  have J3:decide (eO ≤ (wrap64 (a2 - a1))) = true:=aip c5
  (try (have RD:decide (eO ≤ ((a2 - a1))) = true:=by have h_:decide (eO ≤ (wrap64 (a2 - a1))) = true:=aip c5;rw [B.jQ (by omega) (by omega)] at h_;exact h_))
  clear c5
  by_cases c6:0 ≤ a1
  ·rw [ail c6] at H
   have Gr:=aix c6
   have JW:decide (0 ≤ a1) = true:=aip c6
   clear c6
   by_cases c7:a1 ≤ (wrap64 (a1 + eO))
   ·rw [ail c7] at H
    have afL:=aix c7
    have afM:decide (a1 ≤ (wrap64 (a1 + eO))) = true:=aip c7
    by_cases c8:(wrap64 (a1 + eO)) ≤ (a0.size:Int)
    ·rw [ail c8] at H
     have JX:=aix c8
     have JY:decide ((wrap64 (a1 + eO)) ≤ (a0.size:Int)) = true:=aip c8
     have H':=ah.mk H
     clear H
     go_enter Tryz.func130,Tryz.ntmps130
     go_wp2_with (first | ((with_reducible refine mE (N:=7) rfl ?_);refine kU ?hg (N:=7) ?hd (cs:=#[.int .i64 eO,.int .i64 iR,.int .i64 jZ]) (t:=205) ?hr ?_;(case hd=>rfl);(case hg=>rfl);(case hr=>first | (go_simp;done) | (go_simp;rfl));intro fJ hg w9 nP hb;have iq:=ah.mk (cZ (by repeat first | exact HB.out | apply ak | apply aj | apply ay) hb);have kH:=ah.mk (nP);have oD:=ah.mk ((by rw [hg];exact (dN (by repeat first | exact HB.out | apply ak | apply aj | apply ay)):w.heap.size ≤ fJ));have oF:=ah.mk ((by rw [hg];exact (dN (by repeat first | exact HB.out | apply ak | apply aj | apply ay)):w.heap.size ≤ fJ));clear HB;have HB:=iq;have dF:=kH;have aa6:=oD;have iZ:=oF;clear iq kH oD oF;clear hb nP hg) | ((with_reducible refine mE (N:=8) rfl ?_);refine kU ?hg (N:=8) ?hd (cs:=#[.string (⟨#[]⟩:ByteArray),.string (⟨#[]⟩:ByteArray),.slice none 0 0]) (t:=191) ?hr ?_;(case hd=>rfl);(case hg=>rfl);(case hr=>first | (go_simp;done) | (go_simp;rfl));intro dD hg w10 nP hb;have iq:=ah.mk (dX (g:=fJ) (o:=.cells #[.int .i64 eO,.int .i64 iR,.int .i64 jZ] 205 (0,0)) (by (with_reducible repeat (first | refine aM ?_ _ | refine aR ?_ | refine aJ ?_ _));exact dF.out) hb);have kH:=ah.mk (cZ (by repeat (first | (with_reducible first | exact HB.out | apply ak | apply aj | apply ay | refine aU ?_ iZ.out) | exact HB.out)) hb);have oD:=ah.mk (nP);have oF:=ah.mk ((by rw [hg];exact (dN (by repeat (first | (with_reducible first | exact HB.out | apply ak | apply aj | apply ay | refine aU ?_ iZ.out) | exact HB.out))):w.heap.size ≤ dD));have qO:=ah.mk ((by rw [hg];exact (dN (by repeat (first | (with_reducible first | exact HB.out | apply ak | apply aj | apply ay | refine aU ?_ iZ.out) | exact HB.out))):w.heap.size ≤ dD));have Oh:=ah.mk ((by rw [hg];exact Nat.ne_of_lt (jG (g:=fJ) (o:=.cells #[.int .i64 eO,.int .i64 iR,.int .i64 jZ] 205 (0,0)) (by (with_reducible repeat (first | refine aM ?_ _ | refine aR ?_ | refine aJ ?_ _));exact dF.out)):fJ ≠ dD));have Oi:=ah.mk ((by rw [hg];exact Nat.ne_of_gt (jG (g:=fJ) (o:=.cells #[.int .i64 eO,.int .i64 iR,.int .i64 jZ] 205 (0,0)) (by (with_reducible repeat (first | refine aM ?_ _ | refine aR ?_ | refine aJ ?_ _));exact dF.out)):dD ≠ fJ));clear dF;clear HB;have dF:=iq;have HB:=kH;have dz:=oD;have aa7:=oF;have kG:=qO;have fE:=Oh;have ko:=Oi;clear iq kH oD oF qO Oh Oi;clear hb nP hg) | ((with_reducible refine mE (N:=10) rfl ?_);refine kU ?hg (N:=10) ?hd (cs:=#[.string (⟨#[]⟩:ByteArray),.string (⟨#[]⟩:ByteArray),.slice none 0 0]) (t:=191) ?hr ?_;(case hd=>rfl);(case hg=>rfl);(case hr=>first | (go_simp;done) | (go_simp;rfl));intro fC hg WI nP hb;have iq:=ah.mk (dX (g:=fJ) (o:=.cells #[.int .i64 eO,.int .i64 iR,.int .i64 jZ] 205 (0,0)) (by (with_reducible repeat (first | refine aM ?_ _ | refine aR ?_ | refine aJ ?_ _));exact dF.out) hb);have kH:=ah.mk (dX (g:=dD) (o:=.cells #[.string (⟨#[]⟩:ByteArray),.string (⟨#[]⟩:ByteArray),.slice none 0 0] 191 (0,0)) (by (with_reducible repeat (first | refine aM ?_ _ | refine aR ?_ | refine aJ ?_ _));exact dz.out) hb);have oD:=ah.mk (cZ (by repeat (first | (with_reducible first | exact HB.out | apply ak | apply aj | apply ay | refine aU ?_ iZ.out | refine aU ?_ kG.out) | exact HB.out)) hb);have oF:=ah.mk (nP);have qO:=ah.mk ((by rw [hg];exact (dN (by repeat (first | (with_reducible first | exact HB.out | apply ak | apply aj | apply ay | refine aU ?_ iZ.out | refine aU ?_ kG.out) | exact HB.out))):w.heap.size ≤ fC));have Oh:=ah.mk ((by rw [hg];exact (dN (by repeat (first | (with_reducible first | exact HB.out | apply ak | apply aj | apply ay | refine aU ?_ iZ.out | refine aU ?_ kG.out) | exact HB.out))):w.heap.size ≤ fC));have Oi:=ah.mk ((by rw [hg];exact Nat.ne_of_lt (jG (g:=fJ) (o:=.cells #[.int .i64 eO,.int .i64 iR,.int .i64 jZ] 205 (0,0)) (by (with_reducible repeat (first | refine aM ?_ _ | refine aR ?_ | refine aJ ?_ _));exact dF.out)):fJ ≠ fC));have n7_:=ah.mk ((by rw [hg];exact Nat.ne_of_gt (jG (g:=fJ) (o:=.cells #[.int .i64 eO,.int .i64 iR,.int .i64 jZ] 205 (0,0)) (by (with_reducible repeat (first | refine aM ?_ _ | refine aR ?_ | refine aJ ?_ _));exact dF.out)):fC ≠ fJ));have n8_:=ah.mk ((by rw [hg];exact Nat.ne_of_lt (jG (g:=dD) (o:=.cells #[.string (⟨#[]⟩:ByteArray),.string (⟨#[]⟩:ByteArray),.slice none 0 0] 191 (0,0)) (by (with_reducible repeat (first | refine aM ?_ _ | refine aR ?_ | refine aJ ?_ _));exact dz.out)):dD ≠ fC));have n9_:=ah.mk ((by rw [hg];exact Nat.ne_of_gt (jG (g:=dD) (o:=.cells #[.string (⟨#[]⟩:ByteArray),.string (⟨#[]⟩:ByteArray),.slice none 0 0] 191 (0,0)) (by (with_reducible repeat (first | refine aM ?_ _ | refine aR ?_ | refine aJ ?_ _));exact dz.out)):fC ≠ dD));clear dF;clear dz;clear HB;have dF:=iq;have dz:=kH;have HB:=oD;have dW:=oF;have aa8:=qO;have nQ:=Oh;have kr:=Oi;have nR:=n7_;have gN:=n8_;have eZ:=n9_;clear iq kH oD oF qO Oh Oi n7_ n8_ n9_;clear hb nP hg;have ahm:=fE.out;have ahn:=ko.out;have aho:=kr.out;have ahp:=nR.out;have RF:WI.cell? ⟨fJ,0,none⟩ = some (.int .i64 eO):=(bK dF.out 0).trans rfl;have RG:WI.cell? ⟨fJ,1,none⟩ = some (.int .i64 iR):=(bK dF.out 1).trans rfl;have RH:WI.cell? ⟨fJ,2,none⟩ = some (.int .i64 jZ):=(bK dF.out 2).trans rfl;have RI:=bG dF.out 0;have RJ:=bG dF.out 1;have RL:=bG dF.out 2;have ahq:=eZ.out;have ahr:=gN.out;have RN:WI.cell? ⟨fC,0,none⟩ = some (.string (⟨#[]⟩:ByteArray)):=(bK dW.out 0).trans rfl;have RO:WI.cell? ⟨fC,1,none⟩ = some (.string (⟨#[]⟩:ByteArray)):=(bK dW.out 1).trans rfl;have RP:WI.cell? ⟨fC,2,none⟩ = some (.slice none 0 0):=(bK dW.out 2).trans rfl;have RQ:=bG dW.out 0;have RS:=bG dW.out 1;have RU:=bG dW.out 2))
     go_loopg [1,38] k (fun kq v1 v38 w'=>∃ (lI:Int) (uf:Int) (gB:ByteArray) (fF:ByteArray) (iw:List ByteArray) (iT:Value),v1 = .int .i64 lI ∧ v38 = .int .i64 uf ∧ ah (bN.l0 kq a0 lI a2 iR uf eO iR jZ (a0.extract (a1:Int).toNat ((wrap64 (a1 + eO)):Int).toNat) (⟨#[]⟩:ByteArray) iw = some (r1,r2,r3,r4)) ∧ ah (kq ≤ k) ∧ ah (Kd.R Kd.string 9 w' w.heap.size (fun _=>True) iT iw) ∧ ah (w'.heap[fJ]? = some (.cells #[.int .i64 eO,.int .i64 iR,.int .i64 jZ] 205 (0,0))) ∧ ah (w'.heap[dD]? = some (.cells #[.string gB,.string fF,(.slice none 0 0)] 191 (0,0))) ∧ ah (w'.heap[fC]? = some (.cells #[.string (a0.extract (a1:Int).toNat ((wrap64 (a1 + eO)):Int).toNat),.string (⟨#[]⟩:ByteArray),iT] 191 (0,0))) ∧ ah (Below w.heap.size w w'))
     case atStart=>exact ⟨(wrap64 (a1 + eO)),(0),((⟨#[]⟩:ByteArray)),((⟨#[]⟩:ByteArray)),(([]:List ByteArray)),(.slice none 0 0),(by first | rfl | (simp;done) | (simp [*];done) | (simp [B.dS];done) | (simp [B.dU];done)),(by first | rfl | (simp;done) | (simp [*];done) | (simp [B.dS];done) | (simp [B.dU];done)),H',⟨aiq _⟩,⟨by first | exact Kd.j3 _ _ _ _ _ | exact Kd.mG _ _ _ _ _ | exact Kd.mH _ _ _ _ _ | exact Kd.mD _ _ _ _ _ | exact Kd.mF _ _ _ _ _⟩,⟨by (with_reducible repeat (first | refine aM ?_ _ | refine aR ?_ | refine aJ ?_ _));refine oo ?_ kr.out _;(with_reducible repeat (first | refine aM ?_ _ | refine aR ?_ | refine aJ ?_ _));exact dF.out⟩,⟨by (with_reducible repeat (first | refine aM ?_ _ | refine aR ?_ | refine aJ ?_ _));refine oo ?_ gN.out _;(with_reducible repeat (first | refine aM ?_ _ | refine aR ?_ | refine aJ ?_ _));exact dz.out⟩,⟨by (with_reducible repeat (first | refine aM ?_ _ | refine aR ?_ | refine aJ ?_ _));refine gV (cs:=#[.string (⟨#[]⟩:ByteArray),.string (⟨#[]⟩:ByteArray),.slice none 0 0]) ?_ 0 _ rfl;(with_reducible repeat (first | refine aM ?_ _ | refine aR ?_ | refine aJ ?_ _));exact dW.out⟩,⟨by repeat (first | (with_reducible first | exact HB.out | apply ak | apply aj | apply ay | refine aU ?_ iZ.out | refine aU ?_ kG.out | refine aU ?_ nQ.out) | exact HB.out)⟩⟩
     case round =>
      clear H'
      try clear c1
      try clear p2
      try clear c5
      try clear J3
      try clear RD
      try clear c6
      try clear Gr
      try clear JW
      try clear p6
      try clear c7
      try clear afL
      try clear afM
      try clear c8
      try clear JX
      try clear JY
      try clear c12
      try clear c13
      try clear c15
      try clear RF
      try clear RG
      try clear RH
      try clear RN
      try clear RO
      try clear RP
      try clear RI
      try clear RJ
      try clear RL
      try clear RQ
      try clear RS
      try clear RU
      obtain ⟨lI,uf,gB,fF,iw,iT,rfl,rfl,HA,OX,dP,dF,dz,dW,HB⟩:=hrel
      cases gk with
      | zero=>exact absurd HA.out (by simp [bN.l0])
      | succ k1 =>
       have H:=HA.out
       clear HA
       simp only [bN.l0] at H
       by_cases c17:uf < iR
       ·rw [ail c17] at H
        have aa9:decide (uf < iR) = true:=aip c17
        clear c17
        replace H:=zbm H
        obtain ⟨⟨GA,zM,t127⟩,abb,H⟩:=H
        replace H:(if t127 = 0 then (if zM > a2 then (some ((⟨#[]⟩:ByteArray),(⟨#[]⟩:ByteArray),([]:List ByteArray),false)) else (if iw.length < 8796093022208 then (bN.l0 k1 a0 zM a2 iR (wrap64 (uf + 1)) eO iR jZ (a0.extract (a1:Int).toNat ((wrap64 (a1 + eO)):Int).toNat) (⟨#[]⟩:ByteArray) (iw ++ [GA])) else (none))) else (some ((⟨#[]⟩:ByteArray),(⟨#[]⟩:ByteArray),([]:List ByteArray),false))) = some (r1,r2,r3,r4):=H
        have A18:=ah.mk abb
        clear abb
        by_cases c19:t127 = 0
        ·rw [ail c19] at H
         have abd:(t127 == 0) = true:=aiY.mpr c19
         have abe:(t127 != 0) = false:=ajT.mpr c19
         clear c19
         by_cases c20:zM > a2
         ·rw [ail c20] at H
          have abf:decide (a2 < zM) = true:=aip c20
          clear c20
          simp only [aiz,aiE] at H
          obtain ⟨rfl,rfl,rfl,rfl⟩:=H
          go_wp2_with (first | ((with_reducible refine dJ (f:=146) rfl ?_);refine jh (some 43) rfl rfl Tryz.func146 (by kernel_rfl) rfl #[.string a0,.int .i64 lI] rfl (by (try simp only [ai8,aiy,aiF]) <;> rfl) ?_;(with_reducible refine (bg.calls k1 a0 lI GA zM t127 _ A18.out).mono ?_);rintro e w21 ⟨rfl,hb⟩;refine ⟨_,rfl,?_⟩;have iq:=ah.mk (Kd.lS (by (with_reducible repeat (first | apply Kd.gq | apply Kd.gU | apply Kd.gZ));exact dP.out) hb);have kH:=ah.mk (dX (g:=fJ) (o:=.cells #[.int .i64 eO,.int .i64 iR,.int .i64 jZ] 205 (0,0)) (by (with_reducible repeat (first | refine aM ?_ _ | refine aR ?_ | refine aJ ?_ _));exact dF.out) hb);have oD:=ah.mk (dX (g:=dD) (o:=.cells #[.string gB,.string fF,.slice none 0 0] 191 (0,0)) (by (with_reducible repeat (first | refine aM ?_ _ | refine aR ?_ | refine aJ ?_ _));exact dz.out) hb);have oF:=ah.mk (dX (g:=fC) (o:=.cells #[.string (a0.extract (a1:Int).toNat ((wrap64 (a1 + eO)):Int).toNat),.string (⟨#[]⟩:ByteArray),iT] 191 (0,0)) (by (with_reducible repeat (first | refine aM ?_ _ | refine aR ?_ | refine aJ ?_ _));exact dW.out) hb);have qO:=ah.mk (cZ (by repeat (first | (with_reducible first | exact HB.out | apply ak | apply aj | apply ay | refine aU ?_ iZ.out | refine aU ?_ kG.out | refine aU ?_ nQ.out) | exact HB.out)) hb);clear dP;clear dF;clear dz;clear dW;clear HB;have dP:=iq;have dF:=kH;have dz:=oD;have dW:=oF;have HB:=qO;clear iq kH oD oF qO;(try clear hb);(try clear hb2);(try clear hk);(try clear hi);have ahs:=ko.out;have aht:=fE.out;have ahu:=gN.out;have ahv:=eZ.out;have acZ:w21.cell? ⟨dD,0,none⟩ = some (.string gB):=(bK dz.out 0).trans rfl;have ac0:w21.cell? ⟨dD,1,none⟩ = some (.string fF):=(bK dz.out 1).trans rfl;have ac1:w21.cell? ⟨dD,2,none⟩ = some (.slice none 0 0):=(bK dz.out 2).trans rfl;have ac2:=bG dz.out 0;have ac3:=bG dz.out 1;have ac4:=bG dz.out 2))
          refine bodyPost_ret (jY rfl _ _ dD 191 #[.string (⟨#[]⟩:ByteArray),.string (⟨#[]⟩:ByteArray),.slice none 0 0] (0,0) _ rfl (by (with_reducible repeat (first | refine aM ?_ _ | refine aR ?_ | refine aJ ?_ _));refine gV (cs:=#[.string (⟨#[]⟩:ByteArray),.string (⟨#[]⟩:ByteArray),.slice none 0 0]) ?_ 2 _ rfl;(with_reducible repeat (first | refine aM ?_ _ | refine aR ?_ | refine aJ ?_ _));refine gV (cs:=#[.string (⟨#[]⟩:ByteArray),.string fF,.slice none 0 0]) ?_ 1 _ rfl;(with_reducible repeat (first | refine aM ?_ _ | refine aR ?_ | refine aJ ?_ _));refine gV (cs:=#[.string gB,.string fF,.slice none 0 0]) ?_ 0 _ rfl;(with_reducible repeat (first | refine aM ?_ _ | refine aR ?_ | refine aJ ?_ _));exact dz.out) Tryz.underlying191 rfl (by kernel_rfl)) rfl ?_
          exact ⟨_,by first | rfl | (simp [aV,aW] <;> rfl) | (simp [*,aV,aW] <;> rfl),by first | exact Kd.j3 _ _ _ _ _ | exact Kd.mG _ _ _ _ _ | exact Kd.mH _ _ _ _ _ | exact Kd.mD _ _ _ _ _ | exact Kd.mF _ _ _ _ _,by repeat (first | (with_reducible first | exact HB.out | apply ak | apply aj | apply ay | refine aU ?_ iZ.out | refine aU ?_ kG.out | refine aU ?_ nQ.out) | exact HB.out)⟩
         ·rw [ain c20] at H
          have abf:decide (a2 < zM) = false:=air c20
          clear c20
          by_cases MV:iw.length < 8796093022208
          ·rw [ail MV] at H
           have abg:=ah.mk MV
           clear MV
           obtain ⟨RV,hy128⟩:∃ y_:List ByteArray,y_ = (iw ++ [GA]):=⟨_,rfl⟩
           replace H:(bN.l0 k1 a0 zM a2 iR (wrap64 (uf + 1)) eO iR jZ (a0.extract (a1:Int).toNat ((wrap64 (a1 + eO)):Int).toNat) (⟨#[]⟩:ByteArray) RV) = some (r1,r2,r3,r4):=by first | (rw [hy128];with_reducible exact H) | (have NM:=(Option.bind_some _ _).symm.trans H;rw [hy128];with_reducible exact NM) | (have NM:=(Option.bind_some _ _).symm.trans H;with_reducible exact NM) | with_reducible exact H | (rw [hy128];exact H) | exact H
           have abh:=ah.mk hy128
           clear hy128
           have H':=ah.mk H
           clear H
           go_wp2_with (first | ((with_reducible refine dJ (f:=146) rfl ?_);refine jh (some 43) rfl rfl Tryz.func146 (by kernel_rfl) rfl #[.string a0,.int .i64 lI] rfl (by (try simp only [ai8,aiy,aiF]) <;> rfl) ?_;(with_reducible refine (bg.calls k1 a0 lI GA zM t127 _ A18.out).mono ?_);rintro e w26 ⟨rfl,hb⟩;refine ⟨_,rfl,?_⟩;have iq:=ah.mk (Kd.lS (by (with_reducible repeat (first | apply Kd.gq | apply Kd.gU | apply Kd.gZ));exact dP.out) hb);have kH:=ah.mk (dX (g:=fJ) (o:=.cells #[.int .i64 eO,.int .i64 iR,.int .i64 jZ] 205 (0,0)) (by (with_reducible repeat (first | refine aM ?_ _ | refine aR ?_ | refine aJ ?_ _));exact dF.out) hb);have oD:=ah.mk (dX (g:=dD) (o:=.cells #[.string gB,.string fF,.slice none 0 0] 191 (0,0)) (by (with_reducible repeat (first | refine aM ?_ _ | refine aR ?_ | refine aJ ?_ _));exact dz.out) hb);have oF:=ah.mk (dX (g:=fC) (o:=.cells #[.string (a0.extract (a1:Int).toNat ((wrap64 (a1 + eO)):Int).toNat),.string (⟨#[]⟩:ByteArray),iT] 191 (0,0)) (by (with_reducible repeat (first | refine aM ?_ _ | refine aR ?_ | refine aJ ?_ _));exact dW.out) hb);have qO:=ah.mk (cZ (by repeat (first | (with_reducible first | exact HB.out | apply ak | apply aj | apply ay | refine aU ?_ iZ.out | refine aU ?_ kG.out | refine aU ?_ nQ.out) | exact HB.out)) hb);clear dP;clear dF;clear dz;clear dW;clear HB;have dP:=iq;have dF:=kH;have dz:=oD;have dW:=oF;have HB:=qO;clear iq kH oD oF qO;(try clear hb);(try clear hb2);(try clear hk);(try clear hi);have ahw:=nR.out;have ahx:=kr.out;have ahy:=eZ.out;have ahz:=gN.out;have ac5:w26.cell? ⟨fC,0,none⟩ = some (.string (a0.extract (a1:Int).toNat ((wrap64 (a1 + eO)):Int).toNat)):=(bK dW.out 0).trans rfl;have ac6:w26.cell? ⟨fC,1,none⟩ = some (.string (⟨#[]⟩:ByteArray)):=(bK dW.out 1).trans rfl;have ac7:w26.cell? ⟨fC,2,none⟩ = some (iT):=(bK dW.out 2).trans rfl;have ac8:=bG dW.out 0;have ac9:=bG dW.out 1;have ada:=bG dW.out 2) | ((with_reducible refine tT (b:=.append) (xs:=#[.tmp 56,.tmp 58]) rfl ?_);at_builtin;refine Kd.Ey Kd.string (w0:=w) w.heap.size rfl (.tmp 56) (.tmp 58) 40 9 (.string ⟨#[]⟩) 16 rfl Tryz.underlying40 NI rfl (by decide) (by omega) iT iw GA [.string GA] (fun _=>True) (fun _=>False) rfl rfl ?aP (fun _ hk=>hk.elim) ?aF ?aO ?aB ?aS ?aL ?_;(case aP=>exact rfl);(case aB=>exact (by repeat (first | (with_reducible first | exact HB.out | apply ak | apply aj | apply ay | refine aU ?_ iZ.out | refine aU ?_ kG.out | refine aU ?_ nQ.out) | exact HB.out)));(case aF=>exact (fun _ _=>trivial));(case aO=>exact (by (with_reducible repeat (first | apply Kd.gq | apply Kd.gU | apply Kd.gZ));exact dP.out));(case aS=>exact (dN (by repeat (first | (with_reducible first | exact HB.out | apply ak | apply aj | apply ay | refine aU ?_ iZ.out | refine aU ?_ kG.out | refine aU ?_ nQ.out) | exact HB.out))));(case aL=>have:=abg.out;omega);intro aic w30 ho hb hg hat;rw [← abh.out] at ho;have iq:=ah.mk (uU (g:=fJ) (o:=.cells #[.int .i64 eO,.int .i64 iR,.int .i64 jZ] 205 (0,0)) (by (with_reducible repeat (first | refine aM ?_ _ | refine aR ?_ | refine aJ ?_ _));exact dF.out) hg (Kd.Wv dP.out dF.out (by decide)));have kH:=ah.mk (uU (g:=dD) (o:=.cells #[.string gB,.string fF,.slice none 0 0] 191 (0,0)) (by (with_reducible repeat (first | refine aM ?_ _ | refine aR ?_ | refine aJ ?_ _));exact dz.out) hg (Kd.Wv dP.out dz.out (by decide)));have oD:=ah.mk (uU (g:=fC) (o:=.cells #[.string (a0.extract (a1:Int).toNat ((wrap64 (a1 + eO)):Int).toNat),.string (⟨#[]⟩:ByteArray),iT] 191 (0,0)) (by (with_reducible repeat (first | refine aM ?_ _ | refine aR ?_ | refine aJ ?_ _));exact dW.out) hg (Kd.Wv dP.out dW.out (by decide)));have oF:=ah.mk (hb);have qO:=ah.mk (ho);clear dF;clear dz;clear dW;clear HB;clear dP;have dF:=iq;have dz:=kH;have dW:=oD;have HB:=oF;have Ua:=qO;clear iq kH oD oF qO;clear ho hb hg hat;obtain ⟨abj,abk,afN⟩:=Kd.Cv Ua.out;subst afN;have adb:w30.cell? ⟨fC,0,none⟩ = some (.string (a0.extract (a1:Int).toNat ((wrap64 (a1 + eO)):Int).toNat)):=(bK dW.out 0).trans rfl;have ade:w30.cell? ⟨fC,1,none⟩ = some (.string (⟨#[]⟩:ByteArray)):=(bK dW.out 1).trans rfl;have adf:w30.cell? ⟨fC,2,none⟩ = some (iT):=(bK dW.out 2).trans rfl;have adg:=bG dW.out 0;have adh:=bG dW.out 1;have adi:=bG dW.out 2))
           go_roundg k1
           case measure=>have:=OX.out;omega
           case rel=>exact ⟨(zM),(wrap64 (uf + 1)),(gB),(fF),(RV),(.slice abj RV.length abk),(by first | rfl | (simp;done) | (simp [*];done) | (simp [B.dS];done) | (simp [B.dU];done)),(by first | rfl | (simp;done) | (simp [*];done) | (simp [B.dS];done) | (simp [B.dU];done)),H',⟨by have:=OX.out;omega⟩,⟨by (with_reducible repeat (first | apply Kd.gq | apply Kd.gU | apply Kd.gZ));exact Kd.pU (Kd.tK (p:=⟨fC,2,none⟩) (Kd.tL Ua.out dW.out (by decide)) (fun _ hk=>hk.2) (.slice abj RV.length abk)) (fun _ hk=>trivial)⟩,⟨by (with_reducible repeat (first | refine aM ?_ _ | refine aR ?_ | refine aJ ?_ _));refine oo ?_ kr.out _;(with_reducible repeat (first | refine aM ?_ _ | refine aR ?_ | refine aJ ?_ _));exact dF.out⟩,⟨by (with_reducible repeat (first | refine aM ?_ _ | refine aR ?_ | refine aJ ?_ _));refine oo ?_ gN.out _;(with_reducible repeat (first | refine aM ?_ _ | refine aR ?_ | refine aJ ?_ _));exact dz.out⟩,⟨by (with_reducible repeat (first | refine aM ?_ _ | refine aR ?_ | refine aJ ?_ _));refine gV (cs:=#[.string (a0.extract (a1:Int).toNat ((wrap64 (a1 + eO)):Int).toNat),.string (⟨#[]⟩:ByteArray),iT]) ?_ 2 _ rfl;(with_reducible repeat (first | refine aM ?_ _ | refine aR ?_ | refine aJ ?_ _));exact dW.out⟩,⟨by repeat (first | (with_reducible first | exact HB.out | apply ak | apply aj | apply ay | refine aU ?_ iZ.out | refine aU ?_ kG.out | refine aU ?_ nQ.out) | exact HB.out)⟩⟩
          ·rw [ain MV] at H
           exact absurd H (by simp)
        ·rw [ain c19] at H
         have abd:(t127 == 0) = false:=ajo.mpr c19
         have abe:(t127 != 0) = true:=ajC.mpr c19
         simp only [aiz,aiE] at H
         obtain ⟨rfl,rfl,rfl,rfl⟩:=H
         go_wp2_with (first | ((with_reducible refine dJ (f:=146) rfl ?_);refine jh (some 43) rfl rfl Tryz.func146 (by kernel_rfl) rfl #[.string a0,.int .i64 lI] rfl (by (try simp only [ai8,aiy,aiF]) <;> rfl) ?_;(with_reducible refine (bg.calls k1 a0 lI GA zM t127 _ A18.out).mono ?_);rintro e w33 ⟨rfl,hb⟩;refine ⟨_,rfl,?_⟩;have iq:=ah.mk (Kd.lS (by (with_reducible repeat (first | apply Kd.gq | apply Kd.gU | apply Kd.gZ));exact dP.out) hb);have kH:=ah.mk (dX (g:=fJ) (o:=.cells #[.int .i64 eO,.int .i64 iR,.int .i64 jZ] 205 (0,0)) (by (with_reducible repeat (first | refine aM ?_ _ | refine aR ?_ | refine aJ ?_ _));exact dF.out) hb);have oD:=ah.mk (dX (g:=dD) (o:=.cells #[.string gB,.string fF,.slice none 0 0] 191 (0,0)) (by (with_reducible repeat (first | refine aM ?_ _ | refine aR ?_ | refine aJ ?_ _));exact dz.out) hb);have oF:=ah.mk (dX (g:=fC) (o:=.cells #[.string (a0.extract (a1:Int).toNat ((wrap64 (a1 + eO)):Int).toNat),.string (⟨#[]⟩:ByteArray),iT] 191 (0,0)) (by (with_reducible repeat (first | refine aM ?_ _ | refine aR ?_ | refine aJ ?_ _));exact dW.out) hb);have qO:=ah.mk (cZ (by repeat (first | (with_reducible first | exact HB.out | apply ak | apply aj | apply ay | refine aU ?_ iZ.out | refine aU ?_ kG.out | refine aU ?_ nQ.out) | exact HB.out)) hb);clear dP;clear dF;clear dz;clear dW;clear HB;have dP:=iq;have dF:=kH;have dz:=oD;have dW:=oF;have HB:=qO;clear iq kH oD oF qO;(try clear hb);(try clear hb2);(try clear hk);(try clear hi);have ahA:=ko.out;have ahB:=fE.out;have ahC:=gN.out;have ahD:=eZ.out;have adj:w33.cell? ⟨dD,0,none⟩ = some (.string gB):=(bK dz.out 0).trans rfl;have adk:w33.cell? ⟨dD,1,none⟩ = some (.string fF):=(bK dz.out 1).trans rfl;have adl:w33.cell? ⟨dD,2,none⟩ = some (.slice none 0 0):=(bK dz.out 2).trans rfl;have adn:=bG dz.out 0;have ado:=bG dz.out 1;have adp:=bG dz.out 2))
         refine bodyPost_ret (jY rfl _ _ dD 191 #[.string (⟨#[]⟩:ByteArray),.string (⟨#[]⟩:ByteArray),.slice none 0 0] (0,0) _ rfl (by (with_reducible repeat (first | refine aM ?_ _ | refine aR ?_ | refine aJ ?_ _));refine gV (cs:=#[.string (⟨#[]⟩:ByteArray),.string (⟨#[]⟩:ByteArray),.slice none 0 0]) ?_ 2 _ rfl;(with_reducible repeat (first | refine aM ?_ _ | refine aR ?_ | refine aJ ?_ _));refine gV (cs:=#[.string (⟨#[]⟩:ByteArray),.string fF,.slice none 0 0]) ?_ 1 _ rfl;(with_reducible repeat (first | refine aM ?_ _ | refine aR ?_ | refine aJ ?_ _));refine gV (cs:=#[.string gB,.string fF,.slice none 0 0]) ?_ 0 _ rfl;(with_reducible repeat (first | refine aM ?_ _ | refine aR ?_ | refine aJ ?_ _));exact dz.out) Tryz.underlying191 rfl (by kernel_rfl)) rfl ?_
         exact ⟨_,by first | rfl | (simp [aV,aW] <;> rfl) | (simp [*,aV,aW] <;> rfl),by first | exact Kd.j3 _ _ _ _ _ | exact Kd.mG _ _ _ _ _ | exact Kd.mH _ _ _ _ _ | exact Kd.mD _ _ _ _ _ | exact Kd.mF _ _ _ _ _,by repeat (first | (with_reducible first | exact HB.out | apply ak | apply aj | apply ay | refine aU ?_ iZ.out | refine aU ?_ kG.out | refine aU ?_ nQ.out) | exact HB.out)⟩
       ·rw [ain c17] at H
        have aa9:decide (uf < iR) = false:=air c17
        clear c17
        by_cases c37:0 ≤ lI
        ·rw [ail c37] at H
         have ahE:=aix c37
         have ahF:decide (0 ≤ lI) = true:=aip c37
         clear c37
         by_cases OW:lI ≤ a2
         ·rw [ail OW] at H
          have ahG:=aix OW
          have ahH:decide (lI ≤ a2) = true:=aip OW
          clear OW
          by_cases c39:a2 ≤ (a0.size:Int)
          ·rw [ail c39] at H
           have ahI:=aix c39
           have ahJ:decide (a2 ≤ (a0.size:Int)) = true:=aip c39
           clear c39
           simp only [aiz,aiE] at H
           obtain ⟨rfl,rfl,rfl,rfl⟩:=H
           have ahK:=nR.out
           have ahL:=kr.out
           have ahM:=eZ.out
           have ahN:=gN.out
           have adq:wr.cell? ⟨fC,0,none⟩ = some (.string (a0.extract (a1:Int).toNat ((wrap64 (a1 + eO)):Int).toNat)):=(bK dW.out 0).trans rfl
           have ads:wr.cell? ⟨fC,1,none⟩ = some (.string (⟨#[]⟩:ByteArray)):=(bK dW.out 1).trans rfl
           have adt:wr.cell? ⟨fC,2,none⟩ = some (iT):=(bK dW.out 2).trans rfl
           have adu:=bG dW.out 0
           have adv:=bG dW.out 1
           have adw:=bG dW.out 2
           try go_wp2
           have iq:ah (Kd.R Kd.string 9 (wr.setCell ⟨fC,1,none⟩ (.string (a0.extract (lI:Int).toNat (a2:Int).toNat))) w.heap.size (fun _=>True) iT iw):=⟨by (with_reducible repeat (first | apply Kd.gq | apply Kd.gU | apply Kd.gZ));exact Kd.pU (Kd.tK (p:=⟨fC,1,none⟩) (Kd.tL dP.out dW.out (by decide)) (fun _ hk=>hk.2) (.string (a0.extract (lI:Int).toNat (a2:Int).toNat))) (fun _ hk=>trivial)⟩
           have kH:ah ((wr.setCell ⟨fC,1,none⟩ (.string (a0.extract (lI:Int).toNat (a2:Int).toNat))).heap[fJ]? = some (.cells #[.int .i64 eO,.int .i64 iR,.int .i64 jZ] 205 (0,0))):=⟨by (with_reducible repeat (first | refine aM ?_ _ | refine aR ?_ | refine aJ ?_ _));refine oo ?_ kr.out _;(with_reducible repeat (first | refine aM ?_ _ | refine aR ?_ | refine aJ ?_ _));exact dF.out⟩
           have oD:ah ((wr.setCell ⟨fC,1,none⟩ (.string (a0.extract (lI:Int).toNat (a2:Int).toNat))).heap[dD]? = some (.cells #[.string gB,.string fF,.slice none 0 0] 191 (0,0))):=⟨by (with_reducible repeat (first | refine aM ?_ _ | refine aR ?_ | refine aJ ?_ _));refine oo ?_ gN.out _;(with_reducible repeat (first | refine aM ?_ _ | refine aR ?_ | refine aJ ?_ _));exact dz.out⟩
           have oF:ah ((wr.setCell ⟨fC,1,none⟩ (.string (a0.extract (lI:Int).toNat (a2:Int).toNat))).heap[fC]? = some (.cells #[.string (a0.extract (a1:Int).toNat ((wrap64 (a1 + eO)):Int).toNat),.string (a0.extract (lI:Int).toNat (a2:Int).toNat),iT] 191 (0,0))):=⟨by (with_reducible repeat (first | refine aM ?_ _ | refine aR ?_ | refine aJ ?_ _));refine gV (cs:=#[.string (a0.extract (a1:Int).toNat ((wrap64 (a1 + eO)):Int).toNat),.string (⟨#[]⟩:ByteArray),iT]) ?_ 1 _ rfl;(with_reducible repeat (first | refine aM ?_ _ | refine aR ?_ | refine aJ ?_ _));exact dW.out⟩
           have qO:ah (Below w.heap.size w (wr.setCell ⟨fC,1,none⟩ (.string (a0.extract (lI:Int).toNat (a2:Int).toNat)))):=⟨by repeat (first | (with_reducible first | exact HB.out | apply ak | apply aj | apply ay | refine aU ?_ iZ.out | refine aU ?_ kG.out | refine aU ?_ nQ.out) | exact HB.out)⟩
           (try clear dP)
           (try clear dF)
           (try clear dz)
           (try clear dW)
           (try clear HB)
           generalize (wr.setCell ⟨fC,1,none⟩ (.string (a0.extract (lI:Int).toNat (a2:Int).toNat))) = w43 at iq kH oD oF qO ⊢
           have dP:=iq
           have dF:=kH
           have dz:=oD
           have dW:=oF
           have HB:=qO
           clear iq kH oD oF qO
           have iq:=ah.mk (Kd.gZ dP.out)
           have kH:=ah.mk (aR dF.out)
           have oD:=ah.mk (aR dz.out)
           have oF:=ah.mk (aR dW.out)
           have qO:=ah.mk (ay HB.out)
           clear dP
           clear dF
           clear dz
           clear dW
           clear HB
           have dP:=iq
           have dF:=kH
           have dz:=oD
           have dW:=oF
           have HB:=qO
           clear iq kH oD oF qO
           obtain ⟨WQ,WR,abl⟩:=Kd.Cv dP.out
           (first | subst abl | (injection abl with f1_ f2_ f3_;have f4_:=f1_.symm;have f5_:=f3_.symm;clear f1_ f2_ f3_;subst f4_;subst f5_))
           refine Nu (n:=9) (S:=fun w'=>w'.cell? ⟨fC,0,none⟩ = some (.string (a0.extract (a1:Int).toNat ((wrap64 (a1 + eO)):Int).toNat)) ∧ w'.cell? ⟨fC,1,none⟩ = some (.string (a0.extract (lI:Int).toNat (a2:Int).toNat)) ∧ w'.cell? ⟨fC,2,none⟩ = some (.slice WQ iw.length WR) ∧ w'.cell? ⟨fJ,0,none⟩ = some (.int .i64 eO) ∧ w'.cell? ⟨fJ,1,none⟩ = some (.int .i64 iR) ∧ w'.cell? ⟨fJ,2,none⟩ = some (.int .i64 jZ)) (ds:=[]) #[false,false,false,false,false,false,false,false,false] (by kernel_rfl) rfl rfl ⟨(bK dW.out 0).trans rfl,(bK dW.out 1).trans rfl,(bK dW.out 2).trans rfl,(bK dF.out 0).trans rfl,(bK dF.out 1).trans rfl,(bK dF.out 2).trans rfl⟩ (fun hHeld=>?_);refine AP bN.aa4 bN.WO (fun wB HW_=>?_)
           generalize w43.drew = w44 at dP dF dz dW HB hHeld ⊢
           refine lK (i:=1) (N:=some 69) (v:=?_) (a':=?_) #[false,true,false,false,false,false,false,false,false] rfl rfl (jH wB.out (by kernel_rfl)) (fun _ _ _ h=>h) (Or.inl ⟨by rfl,?_⟩) ?_ ?_
           rotate_left
           ·intro w'
            go_simp
            with_reducible rfl
           rotate_left
           ·simp only [Act.put,ai1,List.set_cons_zero,List.set_cons_succ,iA,iW]
            rfl
           refine lK (i:=4) (N:=some 72) (v:=?_) (a':=?_) #[false,true,false,false,true,false,false,false,false] rfl rfl (jH wB.out (by kernel_rfl)) (fun _ _ _ h=>h) (Or.inl ⟨by rfl,?_⟩) ?_ ?_
           rotate_left
           ·intro w'
            go_simp
            with_reducible rfl
           rotate_left
           ·simp only [Act.put,ai1,List.set_cons_zero,List.set_cons_succ,iA,iW]
            rfl
           refine Ew (i:=0) (N:=some 68) (v:=?_) (a':=?_) #[true,true,false,false,true,false,false,false,false] rfl rfl (yI wB.out HW_.out (by kernel_rfl)) (fun _ _ _ h=>h) (Or.inl ⟨by rfl,?_⟩) hHeld ?_ ?_
           rotate_left
           ·rintro w' ⟨s0,s1,s2,s3,s4,s5⟩
            go_simp
            with_reducible rfl
           rotate_left
           ·simp only [Act.put,ai1,List.set_cons_zero,List.set_cons_succ,iA,iW]
            rfl
           refine Ew (i:=2) (N:=some 70) (v:=?_) (a':=?_) #[true,true,true,false,true,false,false,false,false] rfl rfl (yI wB.out HW_.out (by kernel_rfl)) (fun _ _ _ h=>h) (Or.inl ⟨by rfl,?_⟩) hHeld ?_ ?_
           rotate_left
           ·rintro w' ⟨s0,s1,s2,s3,s4,s5⟩
            go_simp
            with_reducible rfl
           rotate_left
           ·simp only [Act.put,ai1,List.set_cons_zero,List.set_cons_succ,iA,iW]
            rfl
           refine lK (i:=3) (N:=some 71) (v:=?_) (a':=?_) #[true,true,true,true,true,false,false,false,false] rfl rfl (jH wB.out (by kernel_rfl)) (fun _ _ _ h=>h) (Or.inl ⟨by rfl,?_⟩) ?_ ?_
           rotate_left
           ·intro w'
            go_simp
            with_reducible rfl
           rotate_left
           ·simp only [Act.put,ai1,List.set_cons_zero,List.set_cons_succ,iA,iW]
            rfl
           refine Ew (i:=5) (N:=some 73) (v:=?_) (a':=?_) #[true,true,true,true,true,true,false,false,false] rfl rfl (yI wB.out HW_.out (by kernel_rfl)) (fun _ _ _ h=>h) (Or.inl ⟨by rfl,?_⟩) hHeld ?_ ?_
           rotate_left
           ·rintro w' ⟨s0,s1,s2,s3,s4,s5⟩
            go_simp
            with_reducible rfl
           rotate_left
           ·simp only [Act.put,ai1,List.set_cons_zero,List.set_cons_succ,iA,iW]
            rfl
           refine lK (i:=6) (N:=some 74) (v:=?_) (a':=?_) #[true,true,true,true,true,true,true,false,false] rfl rfl (jH wB.out (by kernel_rfl)) (fun _ _ _ h=>h) (Or.inl ⟨by rfl,?_⟩) ?_ ?_
           rotate_left
           ·intro w'
            go_simp
            with_reducible rfl
           rotate_left
           ·simp only [Act.put,ai1,List.set_cons_zero,List.set_cons_succ,iA,iW]
            rfl
           refine WB (i:=7) (N:=none) #[true,true,true,true,true,true,true,true,false] rfl rfl (Gp wB.out (by kernel_rfl)) (by decide) (fun K hK=>?_)
           have aie:w44.cell? ⟨dD,0,none⟩ = some (.string gB):=(bK dz.out 0).trans rfl
           have ahO:=bG dz.out 0
           have adx:=fE.out
           have ady:=eZ.out
           have adz:=ko.out
           have adA:=gN.out
           have aif:w44.cell? ⟨dD,1,none⟩ = some (.string fF):=(bK dz.out 1).trans rfl
           have ahP:=bG dz.out 1
           have adB:=fE.out
           have adC:=eZ.out
           have adD:=ko.out
           have adE:=gN.out
           have aii:w44.cell? ⟨dD,2,none⟩ = some (.slice none 0 0):=(bK dz.out 2).trans rfl
           have ahQ:=bG dz.out 2
           have adF:=fE.out
           have adG:=eZ.out
           have adH:=ko.out
           have adJ:=gN.out
           refine aaL (w1:=?_) (by rfl) rfl ?_ ?_
           rotate_left
           ·go_simp
            rfl
           refine hK.out _ _ ⟨((cell_far (p:=⟨dD,_,none⟩) eZ.out _).trans (((cell_far (p:=⟨dD,_,none⟩) eZ.out _).trans (((cell_far (p:=⟨dD,_,none⟩) eZ.out _).trans (hHeld.1)))))),((cell_far (p:=⟨dD,_,none⟩) eZ.out _).trans (((cell_far (p:=⟨dD,_,none⟩) eZ.out _).trans (((cell_far (p:=⟨dD,_,none⟩) eZ.out _).trans (hHeld.2.1)))))),((cell_far (p:=⟨dD,_,none⟩) eZ.out _).trans (((cell_far (p:=⟨dD,_,none⟩) eZ.out _).trans (((cell_far (p:=⟨dD,_,none⟩) eZ.out _).trans (hHeld.2.2.1)))))),((cell_far (p:=⟨dD,_,none⟩) fE.out _).trans (((cell_far (p:=⟨dD,_,none⟩) fE.out _).trans (((cell_far (p:=⟨dD,_,none⟩) fE.out _).trans (hHeld.2.2.2.1)))))),((cell_far (p:=⟨dD,_,none⟩) fE.out _).trans (((cell_far (p:=⟨dD,_,none⟩) fE.out _).trans (((cell_far (p:=⟨dD,_,none⟩) fE.out _).trans (hHeld.2.2.2.2.1)))))),((cell_far (p:=⟨dD,_,none⟩) fE.out _).trans (((cell_far (p:=⟨dD,_,none⟩) fE.out _).trans (((cell_far (p:=⟨dD,_,none⟩) fE.out _).trans (hHeld.2.2.2.2.2))))))⟩ (fun hHeld=>?_)
           clear hK K
           refine lK (i:=8) (N:=some 9) (v:=?_) (a':=?_) #[true,true,true,true,true,true,true,true,true] rfl rfl (jH wB.out (by kernel_rfl)) (fun _ _ _ h=>h) (Or.inl ⟨by rfl,?_⟩) ?_ ?_
           rotate_left
           ·intro w'
            go_simp
            with_reducible rfl
           rotate_left
           ·simp only [Act.put,ai1,List.set_cons_zero,List.set_cons_succ,iA,iW]
            rfl
           refine TN (Iu wB.out (by kernel_rfl)) ?_
           try go_wp2
           refine bodyPost_ret (jY rfl _ _ dD 191 #[.string (a0.extract (a1:Int).toNat ((wrap64 (a1 + eO)):Int).toNat),.string (a0.extract (lI:Int).toNat (a2:Int).toNat),.slice WQ iw.length WR] (0,0) _ rfl (by (with_reducible repeat (first | refine aM ?_ _ | refine aR ?_ | refine aJ ?_ _));refine gV (cs:=#[.string (a0.extract (a1:Int).toNat ((wrap64 (a1 + eO)):Int).toNat),.string (a0.extract (lI:Int).toNat (a2:Int).toNat),.slice none 0 0]) ?_ 2 _ rfl;(with_reducible repeat (first | refine aM ?_ _ | refine aR ?_ | refine aJ ?_ _));refine gV (cs:=#[.string (a0.extract (a1:Int).toNat ((wrap64 (a1 + eO)):Int).toNat),.string fF,.slice none 0 0]) ?_ 1 _ rfl;(with_reducible repeat (first | refine aM ?_ _ | refine aR ?_ | refine aJ ?_ _));refine gV (cs:=#[.string gB,.string fF,.slice none 0 0]) ?_ 0 _ rfl;(with_reducible repeat (first | refine aM ?_ _ | refine aR ?_ | refine aJ ?_ _));exact dz.out) Tryz.underlying191 rfl (by kernel_rfl)) rfl ?_
           exact ⟨_,by first | rfl | (simp [aV,aW] <;> rfl) | (simp [*,aV,aW] <;> rfl),by (with_reducible repeat (first | apply Kd.gq | apply Kd.gU | apply Kd.gZ));exact Kd.pU (Kd.tK (p:=⟨dD,2,none⟩) (Kd.tK (p:=⟨dD,1,none⟩) (Kd.tK (p:=⟨dD,0,none⟩) (Kd.tL dP.out dz.out (by decide)) (fun _ hk=>hk.2) (.string (a0.extract (a1:Int).toNat ((wrap64 (a1 + eO)):Int).toNat))) (fun _ hk=>hk.2) (.string (a0.extract (lI:Int).toNat (a2:Int).toNat))) (fun _ hk=>hk.2) (.slice WQ iw.length WR)) (fun _ hk=>trivial),by repeat (first | (with_reducible first | exact HB.out | apply ak | apply aj | apply ay | refine aU ?_ iZ.out | refine aU ?_ kG.out | refine aU ?_ nQ.out) | exact HB.out)⟩
          ·rw [ain c39] at H
           exact absurd H (by simp)
         ·rw [ain OW] at H
          exact absurd H (by simp)
        ·rw [ain c37] at H
         exact absurd H (by simp)
    ·rw [ain c8] at H
     exact absurd H (by simp)
   ·rw [ain c7] at H
    exact absurd H (by simp)
  ·rw [ain c6] at H
   exact absurd H (by simp)
 ·rw [ain c5] at H
  have J3:decide (eO ≤ (wrap64 (a2 - a1))) = false:=air c5
  (try (have RD:decide (eO ≤ ((a2 - a1))) = false:=by have h_:decide (eO ≤ (wrap64 (a2 - a1))) = false:=air c5;rw [B.jQ (by omega) (by omega)] at h_;exact h_))
  clear c5
  simp only [aiz,aiE] at H
  obtain ⟨rfl,rfl,rfl,rfl⟩:=H
  go_enter Tryz.func130,Tryz.ntmps130
  go_wp2_with (first | ((with_reducible refine mE (N:=7) rfl ?_);refine kU ?hg (N:=7) ?hd (cs:=#[.int .i64 eO,.int .i64 iR,.int .i64 jZ]) (t:=205) ?hr ?_;(case hd=>rfl);(case hg=>rfl);(case hr=>first | (go_simp;done) | (go_simp;rfl));intro fJ hg w49 nP hb;have iq:=ah.mk (cZ (by repeat first | exact HB.out | apply ak | apply aj | apply ay) hb);have kH:=ah.mk (nP);have oD:=ah.mk ((by rw [hg];exact (dN (by repeat first | exact HB.out | apply ak | apply aj | apply ay)):w.heap.size ≤ fJ));have oF:=ah.mk ((by rw [hg];exact (dN (by repeat first | exact HB.out | apply ak | apply aj | apply ay)):w.heap.size ≤ fJ));clear HB;have HB:=iq;have dF:=kH;have aa6:=oD;have iZ:=oF;clear iq kH oD oF;clear hb nP hg) | ((with_reducible refine mE (N:=8) rfl ?_);refine kU ?hg (N:=8) ?hd (cs:=#[.string (⟨#[]⟩:ByteArray),.string (⟨#[]⟩:ByteArray),.slice none 0 0]) (t:=191) ?hr ?_;(case hd=>rfl);(case hg=>rfl);(case hr=>first | (go_simp;done) | (go_simp;rfl));intro dD hg w50 nP hb;have iq:=ah.mk (dX (g:=fJ) (o:=.cells #[.int .i64 eO,.int .i64 iR,.int .i64 jZ] 205 (0,0)) (by (with_reducible repeat (first | refine aM ?_ _ | refine aR ?_ | refine aJ ?_ _));exact dF.out) hb);have kH:=ah.mk (cZ (by repeat (first | (with_reducible first | exact HB.out | apply ak | apply aj | apply ay | refine aU ?_ iZ.out) | exact HB.out)) hb);have oD:=ah.mk (nP);have oF:=ah.mk ((by rw [hg];exact (dN (by repeat (first | (with_reducible first | exact HB.out | apply ak | apply aj | apply ay | refine aU ?_ iZ.out) | exact HB.out))):w.heap.size ≤ dD));have qO:=ah.mk ((by rw [hg];exact (dN (by repeat (first | (with_reducible first | exact HB.out | apply ak | apply aj | apply ay | refine aU ?_ iZ.out) | exact HB.out))):w.heap.size ≤ dD));have Oh:=ah.mk ((by rw [hg];exact Nat.ne_of_lt (jG (g:=fJ) (o:=.cells #[.int .i64 eO,.int .i64 iR,.int .i64 jZ] 205 (0,0)) (by (with_reducible repeat (first | refine aM ?_ _ | refine aR ?_ | refine aJ ?_ _));exact dF.out)):fJ ≠ dD));have Oi:=ah.mk ((by rw [hg];exact Nat.ne_of_gt (jG (g:=fJ) (o:=.cells #[.int .i64 eO,.int .i64 iR,.int .i64 jZ] 205 (0,0)) (by (with_reducible repeat (first | refine aM ?_ _ | refine aR ?_ | refine aJ ?_ _));exact dF.out)):dD ≠ fJ));clear dF;clear HB;have dF:=iq;have HB:=kH;have dz:=oD;have aa7:=oF;have kG:=qO;have fE:=Oh;have ko:=Oi;clear iq kH oD oF qO Oh Oi;clear hb nP hg) | ((with_reducible refine mE (N:=10) rfl ?_);refine kU ?hg (N:=10) ?hd (cs:=#[.string (⟨#[]⟩:ByteArray),.string (⟨#[]⟩:ByteArray),.slice none 0 0]) (t:=191) ?hr ?_;(case hd=>rfl);(case hg=>rfl);(case hr=>first | (go_simp;done) | (go_simp;rfl));intro fC hg Yo nP hb;have iq:=ah.mk (dX (g:=fJ) (o:=.cells #[.int .i64 eO,.int .i64 iR,.int .i64 jZ] 205 (0,0)) (by (with_reducible repeat (first | refine aM ?_ _ | refine aR ?_ | refine aJ ?_ _));exact dF.out) hb);have kH:=ah.mk (dX (g:=dD) (o:=.cells #[.string (⟨#[]⟩:ByteArray),.string (⟨#[]⟩:ByteArray),.slice none 0 0] 191 (0,0)) (by (with_reducible repeat (first | refine aM ?_ _ | refine aR ?_ | refine aJ ?_ _));exact dz.out) hb);have oD:=ah.mk (cZ (by repeat (first | (with_reducible first | exact HB.out | apply ak | apply aj | apply ay | refine aU ?_ iZ.out | refine aU ?_ kG.out) | exact HB.out)) hb);have oF:=ah.mk (nP);have qO:=ah.mk ((by rw [hg];exact (dN (by repeat (first | (with_reducible first | exact HB.out | apply ak | apply aj | apply ay | refine aU ?_ iZ.out | refine aU ?_ kG.out) | exact HB.out))):w.heap.size ≤ fC));have Oh:=ah.mk ((by rw [hg];exact (dN (by repeat (first | (with_reducible first | exact HB.out | apply ak | apply aj | apply ay | refine aU ?_ iZ.out | refine aU ?_ kG.out) | exact HB.out))):w.heap.size ≤ fC));have Oi:=ah.mk ((by rw [hg];exact Nat.ne_of_lt (jG (g:=fJ) (o:=.cells #[.int .i64 eO,.int .i64 iR,.int .i64 jZ] 205 (0,0)) (by (with_reducible repeat (first | refine aM ?_ _ | refine aR ?_ | refine aJ ?_ _));exact dF.out)):fJ ≠ fC));have n7_:=ah.mk ((by rw [hg];exact Nat.ne_of_gt (jG (g:=fJ) (o:=.cells #[.int .i64 eO,.int .i64 iR,.int .i64 jZ] 205 (0,0)) (by (with_reducible repeat (first | refine aM ?_ _ | refine aR ?_ | refine aJ ?_ _));exact dF.out)):fC ≠ fJ));have n8_:=ah.mk ((by rw [hg];exact Nat.ne_of_lt (jG (g:=dD) (o:=.cells #[.string (⟨#[]⟩:ByteArray),.string (⟨#[]⟩:ByteArray),.slice none 0 0] 191 (0,0)) (by (with_reducible repeat (first | refine aM ?_ _ | refine aR ?_ | refine aJ ?_ _));exact dz.out)):dD ≠ fC));have n9_:=ah.mk ((by rw [hg];exact Nat.ne_of_gt (jG (g:=dD) (o:=.cells #[.string (⟨#[]⟩:ByteArray),.string (⟨#[]⟩:ByteArray),.slice none 0 0] 191 (0,0)) (by (with_reducible repeat (first | refine aM ?_ _ | refine aR ?_ | refine aJ ?_ _));exact dz.out)):fC ≠ dD));clear dF;clear dz;clear HB;have dF:=iq;have dz:=kH;have HB:=oD;have dW:=oF;have aa8:=qO;have nQ:=Oh;have kr:=Oi;have nR:=n7_;have gN:=n8_;have eZ:=n9_;clear iq kH oD oF qO Oh Oi n7_ n8_ n9_;clear hb nP hg;have ahR:=fE.out;have ahS:=ko.out;have ahT:=kr.out;have ahU:=nR.out;have adK:Yo.cell? ⟨fJ,0,none⟩ = some (.int .i64 eO):=(bK dF.out 0).trans rfl;have adL:Yo.cell? ⟨fJ,1,none⟩ = some (.int .i64 iR):=(bK dF.out 1).trans rfl;have adM:Yo.cell? ⟨fJ,2,none⟩ = some (.int .i64 jZ):=(bK dF.out 2).trans rfl;have adN:=bG dF.out 0;have adP:=bG dF.out 1;have adQ:=bG dF.out 2;have ahV:=gN.out;have ahW:=eZ.out;have adR:Yo.cell? ⟨dD,0,none⟩ = some (.string (⟨#[]⟩:ByteArray)):=(bK dz.out 0).trans rfl;have adS:Yo.cell? ⟨dD,1,none⟩ = some (.string (⟨#[]⟩:ByteArray)):=(bK dz.out 1).trans rfl;have adT:Yo.cell? ⟨dD,2,none⟩ = some (.slice none 0 0):=(bK dz.out 2).trans rfl;have adU:=bG dz.out 0;have adV:=bG dz.out 1;have adW:=bG dz.out 2))
  refine bodyPost_ret (jY rfl _ _ dD 191 #[.string (⟨#[]⟩:ByteArray),.string (⟨#[]⟩:ByteArray),.slice none 0 0] (0,0) _ rfl (by (with_reducible repeat (first | refine aM ?_ _ | refine aR ?_ | refine aJ ?_ _));refine gV (cs:=#[.string (⟨#[]⟩:ByteArray),.string (⟨#[]⟩:ByteArray),.slice none 0 0]) ?_ 2 _ rfl;(with_reducible repeat (first | refine aM ?_ _ | refine aR ?_ | refine aJ ?_ _));refine gV (cs:=#[.string (⟨#[]⟩:ByteArray),.string (⟨#[]⟩:ByteArray),.slice none 0 0]) ?_ 1 _ rfl;(with_reducible repeat (first | refine aM ?_ _ | refine aR ?_ | refine aJ ?_ _));refine gV (cs:=#[.string (⟨#[]⟩:ByteArray),.string (⟨#[]⟩:ByteArray),.slice none 0 0]) ?_ 0 _ rfl;(with_reducible repeat (first | refine aM ?_ _ | refine aR ?_ | refine aJ ?_ _));exact dz.out) Tryz.underlying191 rfl (by kernel_rfl)) rfl ?_
  exact ⟨_,by first | rfl | (simp [aV,aW] <;> rfl) | (simp [*,aV,aW] <;> rfl),by first | exact Kd.j3 _ _ _ _ _ | exact Kd.mG _ _ _ _ _ | exact Kd.mH _ _ _ _ _ | exact Kd.mD _ _ _ _ _ | exact Kd.mF _ _ _ _ _,by repeat (first | (with_reducible first | exact HB.out | apply ak | apply aj | apply ay | refine aU ?_ iZ.out | refine aU ?_ kG.out | refine aU ?_ nQ.out) | exact HB.out)⟩
theorem iH.keep {a b:ByteArray} {v:Value} {l:List ByteArray} {base g:Nat} {ok:Nat → Prop} {w w1 w2:World}
  (h:(w1.cell? ⟨g,0,none⟩ = some (.string a) ∧ w1.cell? ⟨g,1,none⟩ = some (.string b) ∧ w1.cell? ⟨g,2,none⟩ = some v) ∧ ah (Below g w w1 ∧ g < w1.heap.size ∧ Kd.R Kd.string 9 w1 base ok v l)) (hb:Below w1.heap.size w1 w2) :
  (w2.cell? ⟨g,0,none⟩ = some (.string a) ∧ w2.cell? ⟨g,1,none⟩ = some (.string b) ∧ w2.cell? ⟨g,2,none⟩ = some v) ∧ ah (Below g w w2 ∧ g < w2.heap.size ∧ Kd.R Kd.string 9 w2 base ok v l):=by
 obtain ⟨⟨c0,c1,c2⟩,⟨h1,h2,h3⟩⟩:=h
 have hs:=hb.size
 exact ⟨⟨(hb.cell h2).trans c0,(hb.cell h2).trans c1,(hb.cell h2).trans c2⟩,⟨h1.trans (hb.mono (by omega)),by omega,Kd.lS h3 hb⟩⟩
theorem iH.calls (a b:ByteArray) (v:Value) (l:List ByteArray) (base:Nat) (ok:Nat → Prop) (w:World) (hr:Kd.R Kd.string 9 w base ok v l) (hl:l.length ≤ 1000000) (hz:a.size + (strings_Join.cat l).size + b.size ≤ 140737488355328) :
  Calls Tryz.prog 147 #[.agg #[.string a,.string b,v]] w fun e w'=>e = .returned (.string (a ++ strings_Join.cat l ++ b)) ∧ Below w.heap.size w w':=by
 have HB:=ah.mk (ak (Below.refl w.heap.size w) (.cells #[.string a,.string b,v] 191 (0,0)))
 have HR:=ah.mk (Kd.gq hr (.cells #[.string a,.string b,v] 191 (0,0)))
 have HC:(w.alloc (.cells #[.string a,.string b,v] 191 (0,0))).cell? ⟨w.heap.size,0,none⟩ = some (.string a) ∧ (w.alloc (.cells #[.string a,.string b,v] 191 (0,0))).cell? ⟨w.heap.size,1,none⟩ = some (.string b) ∧ (w.alloc (.cells #[.string a,.string b,v] 191 (0,0))).cell? ⟨w.heap.size,2,none⟩ = some v:=by
  refine ⟨?_,?_,?_⟩ <;> (rw [Lib.cell_of_heap (heap_alloc_new w _)];rfl)
 have HC0:=ah.mk HC
 clear HC
 have HC:=HC0
 clear HC0
 have hs:w.heap.size < (w.alloc (.cells #[.string a,.string b,v] 191 (0,0))).heap.size:=by show _ < (w.heap.push _).size;rw [aju];omega
 have HS:=ah.mk hs
 have HZ:=ah.mk hz
 have HL:=ah.mk hl
 clear hs hz hr hl
 go_enter Tryz.func147,Tryz.ntmps147
 go_wp2
 generalize w.alloc (.cells #[.string a,.string b,v] 191 (0,0)) = w1 at *
 generalize hgg:w.heap.size = g at *
 have hgg:=ah.mk hgg
 have hf1:a.size + (strings_Join.cat l).size ≤ 9223372036854775807:=by have:=HZ.out;omega
 have hf2:a.size + (strings_Join.cat l).size + b.size ≤ 9223372036854775807:=by have:=HZ.out;omega
 have c0:=HC.out.1
 have c1:=HC.out.2.1
 have c2:=HC.out.2.2
 go_region_held (fun w'=>(w'.cell? ⟨g,0,none⟩ = some (.string a) ∧ w'.cell? ⟨g,1,none⟩ = some (.string b) ∧ w'.cell? ⟨g,2,none⟩ = some v) ∧ ah (Below g w w' ∧ g < w'.heap.size ∧ Kd.R Kd.string 9 w' base ok v l)) ((first | assumption | exact iH.keep ⟨⟨c0,c1,c2⟩,⟨HB.out,HS.out,HR.out⟩⟩ (jr (Below.refl _ _)) | exact iH.keep (by assumption) (by assumption))) ((first | (go_at_call 156;refine (strings_Join.calls v l base ok _ (Kd.gZ HR.out) HL.out (by have:=HZ.out;omega)).mono ?_;rintro e w' ⟨rfl,hb'⟩)))
 all_goals
  rename_i hx
  go_wp2
  go_ret
  exact ⟨rfl,hgg.out ▸ hx.2.out.1⟩
def dG.l0 : Nat → ByteArray → Option (Bool)
 | 0,_=>none
 | k + 1,x0=>if x0.toList = ([]:List UInt8) then (some true) else (if 0 < (x0.size:Int) then (if (wrap64 (1 + (wrap64 (bt x0 0)))) > (x0.size:Int) then (some false) else (if 0 ≤ (wrap64 (1 + (wrap64 (bt x0 0)))) then (if (wrap64 (1 + (wrap64 (bt x0 0)))) ≤ (x0.size:Int) then (dG.l0 k (x0.extract ((wrap64 (1 + (wrap64 (bt x0 0)))):Int).toNat x0.size)) else (none)) else (none))) else (none))
def dG.f (k:Nat) (a0:ByteArray):Option (Bool):=if a0.toList = ([]:List UInt8) then (some false) else (dG.l0 k a0)
theorem dG.calls (k:Nat) (a0:ByteArray) (r:Bool) (w:World) (h:dG.f k a0 = some r) :
  Calls Tryz.prog 152 #[.string a0] w fun e w'=>e = .returned (.bool r) ∧ bM w w':=by
 have H:(if a0.toList = ([]:List UInt8) then (some false) else (dG.l0 k a0)) = some r:=h
 clear h
 by_cases c2:a0.toList = ([]:List UInt8)
 ·rw [ail c2] at H
  have zK:(a0.toList == ([]:List UInt8)) = true:=aiY.mpr c2
  have JV:(a0.toList != ([]:List UInt8)) = false:=ajT.mpr c2
  have abm:a0.toList.isEmpty = true:=List.isEmpty_iff.mpr c2
  clear c2
  obtain rfl:=aiS H
  go_enter Tryz.func152,Tryz.ntmps152
  go_wp2
  go_ret
  exact ⟨by first | rfl | (simp;done) | (simp [*];done),by repeat (first | exact bM.refl _ | apply bM.step)⟩
 ·rw [ain c2] at H
  have zK:(a0.toList == ([]:List UInt8)) = false:=ajo.mpr c2
  have JV:(a0.toList != ([]:List UInt8)) = true:=ajC.mpr c2
  have abm:a0.toList.isEmpty = false:=ai6.mpr (fun h_=>c2 (List.isEmpty_iff.mp h_))
  have H':=ah.mk H
  clear H
  go_enter Tryz.func152,Tryz.ntmps152
  go_wp2
  go_loopg [0] k (fun kq v0 w'=>∃ (bD:ByteArray),v0 = .string bD ∧ ah (dG.l0 kq bD = some r) ∧ ah (kq ≤ k) ∧ bM w w')
  case atStart=>exact ⟨(a0),(by first | rfl | (simp;done) | (simp [*];done) | (simp [B.dS];done) | (simp [B.dU];done)),H',⟨aiq _⟩,by repeat (first | exact bM.refl _ | apply bM.step)⟩
  case round =>
   clear H'
   try clear c1
   try clear c2
   try clear zK
   try clear JV
   try clear abm
   try clear p2
   obtain ⟨bD,rfl,HA,OX,⟨m1,rfl⟩⟩:=hrel
   cases gk with
   | zero=>exact absurd HA.out (by simp [dG.l0])
   | succ k1 =>
    have H:=HA.out
    clear HA
    simp only [dG.l0] at H
    by_cases c3:bD.toList = ([]:List UInt8)
    ·rw [ail c3] at H
     have uX:(bD.toList == ([]:List UInt8)) = true:=aiY.mpr c3
     have Gt:(bD.toList != ([]:List UInt8)) = false:=ajT.mpr c3
     have NS:bD.toList.isEmpty = true:=List.isEmpty_iff.mpr c3
     clear c3
     obtain rfl:=aiS H
     go_wp2
     go_ret
     exact ⟨by first | rfl | (simp;done) | (simp [*];done),by repeat (first | exact bM.refl _ | apply bM.step)⟩
    ·rw [ain c3] at H
     have uX:(bD.toList == ([]:List UInt8)) = false:=ajo.mpr c3
     have Gt:(bD.toList != ([]:List UInt8)) = true:=ajC.mpr c3
     have NS:bD.toList.isEmpty = false:=ai6.mpr (fun h_=>c3 (List.isEmpty_iff.mp h_))
     by_cases c4:0 < (bD.size:Int)
     ·rw [ail c4] at H
      have CB:decide (0 < (bD.size:Int)) = true:=aip c4
      have NJ:decide (0 < bD.size) = true:=aip (by omega)
      clear c4
      by_cases c6:(wrap64 (1 + (wrap64 (bt bD 0)))) > (bD.size:Int)
      ·rw [ail c6] at H
       have Gr:decide ((bD.size:Int) < (wrap64 (1 + (wrap64 (bt bD 0))))) = true:=aip c6
       (try (have JW:decide ((bD.size:Int) < ((1 + ((bt bD 0))))) = true:=by have h_:decide ((bD.size:Int) < (wrap64 (1 + (wrap64 (bt bD 0))))) = true:=aip c6;rw [B.jQ (by omega) (by omega)] at h_;rw [B.jQ (by omega) (by omega)] at h_;exact h_))
       clear c6
       obtain rfl:=aiS H
       have p5:0 ≤ (0:Int):=(by omega)
       have q5:0 < bD.size:=(by have:(0:Int) < (bD.size:Int):=aiI (by first | (with_reducible assumption) | assumption);omega)
       have hx5:∀ h:0 < bD.size,((bD[0]'h).toNat:Int) = bt bD 0:=oJ bD 0
       clear p5
       have qi5:(0 < (bD.size:Int)) = True:=aix (aiI (by first | (with_reducible assumption) | assumption))
       replace q5:=aix q5
       go_wp2
       go_ret
       exact ⟨by first | rfl | (simp;done) | (simp [*];done),by repeat (first | exact bM.refl _ | apply bM.step)⟩
      ·rw [ain c6] at H
       have Gr:decide ((bD.size:Int) < (wrap64 (1 + (wrap64 (bt bD 0))))) = false:=air c6
       (try (have JW:decide ((bD.size:Int) < ((1 + ((bt bD 0))))) = false:=by have h_:decide ((bD.size:Int) < (wrap64 (1 + (wrap64 (bt bD 0))))) = false:=air c6;rw [B.jQ (by omega) (by omega)] at h_;rw [B.jQ (by omega) (by omega)] at h_;exact h_))
       clear c6
       obtain ⟨RX,Kg⟩:∃ j_:Int,(wrap64 (1 + (wrap64 (bt bD 0)))) = j_:=⟨_,rfl⟩
       replace H:(if 0 ≤ (RX) then (if (RX) ≤ (bD.size:Int) then (dG.l0 k1 (bD.extract ((RX):Int).toNat bD.size)) else (none)) else (none)) = some r:=by first | (rw [Kg] at H;exact H) | (simp only [Kg] at H ⊢;exact H)
       (try rw [Kg] at Gr)
       (try rw [Kg] at JW)
       have ahX:(IntKind.i64.wrap (1 + (wrap64 (bt bD 0)))) = RX:=(iA _).trans Kg
       by_cases c8:0 ≤ (RX)
       ·rw [ail c8] at H
        have JX:=aix c8
        have JY:decide (0 ≤ (RX)) = true:=aip c8
        clear c8
        by_cases c9:(RX) ≤ (bD.size:Int)
        ·rw [ail c9] at H
         have Gs:=aix c9
         have NK:decide ((RX) ≤ (bD.size:Int)) = true:=aip c9
         clear c9
         have H':=ah.mk H
         clear H
         have p5:0 ≤ (0:Int):=(by omega)
         have q5:0 < bD.size:=(by have:(0:Int) < (bD.size:Int):=aiI (by first | (with_reducible assumption) | assumption);omega)
         have hx5:∀ h:0 < bD.size,((bD[0]'h).toNat:Int) = bt bD 0:=oJ bD 0
         clear p5
         have qi5:(0 < (bD.size:Int)) = True:=aix (aiI (by first | (with_reducible assumption) | assumption))
         replace q5:=aix q5
         go_wp2
         go_roundg k1
         case measure=>have:=OX.out;omega
         case rel=>exact ⟨(bD.extract ((RX):Int).toNat bD.size),(by first | rfl | (simp;done) | (simp only [← Kg] <;> (first | rfl | simp)) | (simp [*];done)),H',⟨by have:=OX.out;omega⟩,by repeat (first | exact bM.refl _ | apply bM.step)⟩
        ·rw [ain c9] at H
         exact absurd H (by simp)
       ·rw [ain c8] at H
        exact absurd H (by simp)
     ·rw [ain c4] at H
      exact absurd H (by simp)
def aA.Dj (k:Int):Option (Int × Int × Int) :=
 if k = 1 then some (4,0,0) else if k = 28 then some (16,0,0) else if k = 2 then some (0,1,0) else if k = 5 then some (0,1,0) else if k = 12 then some (0,1,0) else if k = 6 then some (0,2,20) else if k = 15 then some (2,1,0) else if k = 33 then some (6,1,0) else none
theorem aA.wJ (k:Int):Mi.su k bR.tab = (aA.Dj k).map fun s=>bR.agg s.1 s.2.1 s.2.2:=by
 unfold aA.Dj bR.tab
 simp only [Mi.su]
 repeat' split
 all_goals rfl
def aA.fin (k:Nat) (kind:Int) (d:ByteArray) (is:Bool):Option (ByteArray × Int) :=
 if is = true then (if kind = 16 then ((dG.f k d).bind fun b=>if b = true then (if (d.size:Int) > 65535 then some (⟨#[]⟩,4) else some (d,0)) else some (⟨#[]⟩,4)) else (if (d.size:Int) > 65535 then some (⟨#[]⟩,4) else some (d,0))) else some (⟨#[]⟩,4)
def aA.g (k:Nat) (a0:ByteArray) (a1 a2 a3:Int) (s:Int × Int × Int):Option (ByteArray × Int) :=
 (bN.f k a0 a1 (wrap64 (a1 + a2)) s.1 s.2.1 s.2.2).bind fun p=>if p.1.size + (strings_Join.cat p.2.2.1).size + p.2.1.size ≤ 140737488355328 then (if p.2.2.1.length ≤ 1000000 then aA.fin k a3 (p.1 ++ strings_Join.cat p.2.2.1 ++ p.2.1) p.2.2.2 else none) else none
def aA.f (k:Nat) (a0:ByteArray) (a1 a2 a3:Int):Option (ByteArray × Int) :=
 (eT.f a0 a1 a2).bind fun t=>if t.2 = true then (match aA.Dj a3 with | some s=>aA.g k a0 a1 a2 a3 s | none=>aA.fin k a3 t.1 true) else some (⟨#[]⟩,2)
theorem aA.AZ {k:Nat} {kind:Int} {d:ByteArray} {r:ByteArray × Int} (h:aA.fin k kind d true = some r) (hk:kind = 16) :
  ∃ b,dG.f k d = some b ∧ (if b = true then (if (d.size:Int) > 65535 then some ((⟨#[]⟩:ByteArray),(4:Int)) else some (d,0)) else some (⟨#[]⟩,4)) = some r:=by
 unfold aA.fin at h
 rw [ail rfl,ail hk] at h
 exact zbm h
theorem aA.qB {k:Nat} {kind:Int} {d:ByteArray} {r:ByteArray × Int} (h:aA.fin k kind d true = some r) (hk:¬ kind = 16) :
  (if (d.size:Int) > 65535 then some ((⟨#[]⟩:ByteArray),(4:Int)) else some (d,0)) = some r:=by
 unfold aA.fin at h
 rw [ail rfl,ain hk] at h
 exact h
theorem aA.WS {k:Nat} {kind:Int} {d:ByteArray} {r:ByteArray × Int} (h:aA.fin k kind d false = some r):r = (⟨#[]⟩,4):=by
 unfold aA.fin at h
 rw [ain ajl] at h
 exact (aiS h).symm
theorem aA.slc {v:Value} {l:List ByteArray} {base:Nat} {ok:Nat → Prop} {w:World} (hr:Kd.R Kd.string 9 w base ok v l):∃ A n c,v = .slice A n c:=by
 rcases (Kd.tN hr).2 with ⟨rfl,_⟩ | ⟨g,cap,cur,rfl,_⟩
 ·exact ⟨_,_,_,rfl⟩
 ·exact ⟨_,_,_,rfl⟩
theorem aA.lY {b:Bool} {d r1:ByteArray} {r2:Int} (h:(if b = true then (if (d.size:Int) > 65535 then some ((⟨#[]⟩:ByteArray),(4:Int)) else some (d,0)) else some (⟨#[]⟩,4)) = some (r1,r2)) :
  (b = true → 65535 < (d.size:Int) → r1 = ⟨#[]⟩ ∧ r2 = 4) ∧ (b = true → (d.size:Int) ≤ 65535 → r1 = d ∧ r2 = 0) ∧ (b = false → r1 = ⟨#[]⟩ ∧ r2 = 4):=by
 refine ⟨fun h1 h2=>?_,fun h1 h2=>?_,fun h1=>?_⟩
 ·rw [ail h1,ail h2] at h;cases h;exact ⟨rfl,rfl⟩
 ·rw [ail h1,ain (by omega)] at h;cases h;exact ⟨rfl,rfl⟩
 ·rw [h1,ain ajl] at h;cases h;exact ⟨rfl,rfl⟩
theorem aA.qC {d r1:ByteArray} {r2:Int} (h:(if (d.size:Int) > 65535 then some ((⟨#[]⟩:ByteArray),(4:Int)) else some (d,0)) = some (r1,r2)) :
  (65535 < (d.size:Int) → r1 = ⟨#[]⟩ ∧ r2 = 4) ∧ ((d.size:Int) ≤ 65535 → r1 = d ∧ r2 = 0):=by
 refine ⟨fun h2=>?_,fun h2=>?_⟩
 ·rw [ail h2] at h;cases h;exact ⟨rfl,rfl⟩
 ·rw [ain (by omega)] at h;cases h;exact ⟨rfl,rfl⟩
theorem aA.calls (k:Nat) (a0:ByteArray) (a1 a2 a3:Int) (r1:ByteArray) (r2:Int) (w:World) (h:aA.f k a0 a1 a2 a3 = some (r1,r2)) :
  Calls Tryz.prog 145 #[.string a0,.int .i64 a1,.int .i64 a2,.int .i64 a3] w fun e w'=>e = .returned (.tuple #[.string r1,.int .i64 r2]) ∧ Below w.heap.size w w':=by
 have HB:=ah.mk (Below.refl w.heap.size w)
 obtain ⟨⟨t1,t2⟩,ht,h'⟩:=zbm h
 clear h
 have HT:=ah.mk ht
 clear ht
 cases t2 with
 | false =>
  rw [ain ajl] at h'
  obtain ⟨rfl,rfl⟩:=aiE .. ▸ aiS h'
  go_enter Tryz.func145,Tryz.ntmps145
  go_wp2_with (first | (go_at_call 136;refine (eT.calls _ _ _ _ _ _ HT.out).mono ?_;rintro e w1 ⟨rfl,hd1⟩))
  go_ret2
  exact ⟨rfl,hd1.below⟩
 | true =>
  replace h':(match aA.Dj a3 with | some s=>aA.g k a0 a1 a2 a3 s | none=>aA.fin k a3 t1 true) = some (r1,r2):=h'
  cases hsh:aA.Dj a3 with
  | none =>
   rw [hsh] at h'
   have HH:=ah.mk (show aA.fin k a3 t1 true = some (r1,r2) from h')
   clear h'
   have hfn:Mi.su a3 bR.tab = none:=by rw [aA.wJ,hsh];rfl
   go_enter Tryz.func145,Tryz.ntmps145
   go_wp2_with (first
    | (go_at_call 136;refine (eT.calls _ _ _ _ _ _ HT.out).mono ?_;rintro e w1 ⟨rfl,hd1⟩)
    | (go_at_call 129;refine (bR.calls _).mono ?_;rintro e w2 ⟨g,rfl,hin⟩;have hl:=Mi.look (P:=Tryz.prog) hin.at_ 207 3 205 Tryz.underlying207 Tryz.underlying3 _ (Tryz.zeroValue205 w2) a3;rw [hfn] at hl;have hB2:=ah.mk ((HB.out.trans hd1.below).trans (hin.Og.mono hd1.below.size));clear hin)
    | (go_at_call 152;obtain ⟨b,hb,hx⟩:=aA.AZ HH.out (by assumption);have hx:=ah.mk hx;refine (dG.calls _ _ _ _ hb).mono ?_;rintro e w3 ⟨rfl,hd3⟩))
   all_goals
    go_ret2
    first
     | (have hq:=(aA.lY hx.out).1 (by assumption) (by assumption);obtain ⟨rfl,rfl⟩:=hq;exact ⟨rfl,(ak hB2.out _).trans (hd3.below.mono (by have:=hB2.out.size;simp only [World.alloc,aju];omega))⟩)
     | (have hq:=(aA.lY hx.out).2.1 (by assumption) (by assumption);obtain ⟨rfl,rfl⟩:=hq;exact ⟨rfl,(ak hB2.out _).trans (hd3.below.mono (by have:=hB2.out.size;simp only [World.alloc,aju];omega))⟩)
     | (have hq:=(aA.lY hx.out).2.2 (by first | assumption | simpa using ‹¬ b = true›);obtain ⟨rfl,rfl⟩:=hq;exact ⟨rfl,(ak hB2.out _).trans (hd3.below.mono (by have:=hB2.out.size;simp only [World.alloc,aju];omega))⟩)
     | (have hq:=(aA.qC (aA.qB HH.out (by assumption))).1 (by assumption);obtain ⟨rfl,rfl⟩:=hq;exact ⟨rfl,ak hB2.out _⟩)
     | (have hq:=(aA.qC (aA.qB HH.out (by assumption))).2 (by assumption);obtain ⟨rfl,rfl⟩:=hq;exact ⟨rfl,ak hB2.out _⟩)
  | some s =>
   obtain ⟨s0,s1,s2⟩:=s
   rw [hsh] at h'
   replace h':aA.g k a0 a1 a2 a3 (s0,s1,s2) = some (r1,r2):=h'
   unfold aA.g at h'
   obtain ⟨⟨p1,p2,p3,p4⟩,hp,h'⟩:=zbm h'
   replace h':(if p1.size + (strings_Join.cat p3).size + p2.size ≤ 140737488355328 then (if p3.length ≤ 1000000 then aA.fin k a3 (p1 ++ strings_Join.cat p3 ++ p2) p4 else none) else none) = some (r1,r2):=h'
   have hp:=ah.mk (show bN.f k a0 a1 (wrap64 (a1 + a2)) s0 s1 s2 = some (p1,p2,p3,p4) from hp)
   by_cases z1:p1.size + (strings_Join.cat p3).size + p2.size ≤ 140737488355328
   ·rw [ail z1] at h'
    by_cases z2:p3.length ≤ 1000000
    ·rw [ail z2] at h'
     have HH:=ah.mk h'
     have z1:=ah.mk z1
     have z2:=ah.mk z2
     clear h'
     have hfn:Mi.su a3 bR.tab = some (bR.agg s0 s1 s2):=by rw [aA.wJ,hsh];rfl
     cases p4
     all_goals
      go_enter Tryz.func145,Tryz.ntmps145
      go_wp2_with (first
       | (go_at_call 136;refine (eT.calls _ _ _ _ _ _ HT.out).mono ?_;rintro e w1 ⟨rfl,hd1⟩)
       | (go_at_call 129;refine (bR.calls _).mono ?_;rintro e w2 ⟨g,rfl,hin⟩;have hl:=Mi.look (P:=Tryz.prog) hin.at_ 207 3 205 Tryz.underlying207 Tryz.underlying3 _ (Tryz.zeroValue205 w2) a3;rw [hfn] at hl;replace hl:=show _ = Result.ok (Value.tuple #[.agg #[.int .i64 s0,.int .i64 s1,.int .i64 s2],.bool true]) w2 from hl;have hB2:=ah.mk ((HB.out.trans hd1.below).trans (hin.Og.mono hd1.below.size));clear hin)
       | (go_at_call 130;refine (bN.calls _ _ _ _ _ _ _ _ _ _ _ _ hp.out).mono ?_;rintro e w3 ⟨v,rfl,hv,hb3⟩;obtain ⟨vA,vn,vc,rfl⟩:=aA.slc hv;have hB3:=ah.mk ((ak hB2.out _).trans (hb3.mono (by have:=hB2.out.size;simp only [World.alloc,aju];omega)));have hv:=ah.mk hv;clear hb3)
       | (go_at_call 147;refine (iH.calls _ _ _ p3 _ _ _ (Kd.gq hv.out _) z2.out z1.out).mono ?_;rintro e w4 ⟨rfl,hb4⟩;have hB4:=ah.mk ((ak hB3.out _).trans (hb4.mono (by have:=hB3.out.size;simp only [World.alloc,aju];omega)));clear hb4)
       | (go_at_call 152;obtain ⟨b,hb,hx⟩:=aA.AZ HH.out (by assumption);have hx:=ah.mk hx;refine (dG.calls _ _ _ _ hb).mono ?_;rintro e w5 ⟨rfl,hd3⟩))
      all_goals
       go_ret2
       first
        | (have hq:=aA.WS HH.out;cases hq;exact ⟨rfl,hB4.out⟩)
        | (have hq:=(aA.lY hx.out).1 (by first | assumption | (simp only [aiT,Int.natCast_add];assumption)) (by first | assumption | (simp only [aiT,Int.natCast_add];assumption));obtain ⟨rfl,rfl⟩:=hq;exact ⟨rfl,hB4.out.trans (hd3.below.mono hB4.out.size)⟩)
        | (have hq:=(aA.lY hx.out).2.1 (by first | assumption | (simp only [aiT,Int.natCast_add];assumption)) (by first | assumption | (simp only [aiT,Int.natCast_add];assumption));obtain ⟨rfl,rfl⟩:=hq;exact ⟨rfl,hB4.out.trans (hd3.below.mono hB4.out.size)⟩)
        | (have hq:=(aA.lY hx.out).2.2 (by first | assumption | simpa using ‹¬ b = true›);obtain ⟨rfl,rfl⟩:=hq;exact ⟨rfl,hB4.out.trans (hd3.below.mono hB4.out.size)⟩)
        | (have hq:=(aA.qC (aA.qB HH.out (by first | assumption | (simp only [aiT,Int.natCast_add];assumption)))).1 (by first | assumption | (simp only [aiT,Int.natCast_add];assumption));obtain ⟨rfl,rfl⟩:=hq;exact ⟨rfl,hB4.out⟩)
        | (have hq:=(aA.qC (aA.qB HH.out (by first | assumption | (simp only [aiT,Int.natCast_add];assumption)))).2 (by first | assumption | (simp only [aiT,Int.natCast_add];assumption));obtain ⟨rfl,rfl⟩:=hq;exact ⟨rfl,hB4.out⟩)
    ·rw [ain z2] at h';cases h'
   ·rw [ain z1] at h';cases h'
def iU.f (k:Nat) (a0:Int) (a1:ByteArray):Option (Bool):=if (a1.size:Int) > 65535 then (some false) else ((aA.f k a1 0 (a1.size:Int) a0).bind fun EN=>(if EN.2 = 0 then (some (EN.1.toList == a1.toList)) else (some false)))
theorem iU.calls (k:Nat) (a0:Int) (a1:ByteArray) (r:Bool) (w:World) (h:iU.f k a0 a1 = some r) :
  Calls Tryz.prog 128 #[.int .i64 a0,.string a1] w fun e w'=>e = .returned (.bool r) ∧ Below w.heap.size w w':=by
 have HB:=ah.mk (Below.refl w.heap.size w)
 have H:(if (a1.size:Int) > 65535 then (some false) else ((aA.f k a1 0 (a1.size:Int) a0).bind fun EN=>(if EN.2 = 0 then (some (EN.1.toList == a1.toList)) else (some false)))) = some r:=h
 clear h
 by_cases c3:(a1.size:Int) > 65535
 ·rw [ail c3] at H
  have uX:decide (65535 < (a1.size:Int)) = true:=aip c3
  have Gt:decide (65535 < a1.size) = true:=aip (by omega)
  clear c3
  obtain rfl:=aiS H
  go_enter Tryz.func128,Tryz.ntmps128
  go_wp2
  go_ret
  exact ⟨by first | rfl | (simp [aV,aW] <;> rfl) | (simp [*,aV,aW] <;> rfl),by repeat (first | exact HB.out | apply ak | apply aj | apply ay)⟩
 ·rw [ain c3] at H
  have uX:decide (65535 < (a1.size:Int)) = false:=air c3
  have Gt:decide (65535 < a1.size) = false:=air (by omega)
  clear c3
  replace H:=zbm H
  obtain ⟨⟨t131,EO⟩,NQ,H⟩:=H
  replace H:(if EO = 0 then (some (t131.toList == a1.toList)) else (some false)) = some r:=H
  have A4:=ah.mk NQ
  clear NQ
  by_cases c5:EO = 0
  ·rw [ail c5] at H
   have J3:(EO == 0) = true:=aiY.mpr c5
   have RD:(EO != 0) = false:=ajT.mpr c5
   clear c5
   obtain rfl:=aiS H
   go_enter Tryz.func128,Tryz.ntmps128
   go_wp2_with (first | ((with_reducible refine dJ (f:=145) rfl ?_);refine jh (some 15) rfl rfl Tryz.func145 (by kernel_rfl) rfl #[.string a1,.int .i64 0,.int .i64 (a1.size:Int),.int .i64 a0] rfl (by (try simp only [ai8,aiy,aiF]);first | done | rfl | (simp only [aiR,aiC];rfl) | (simp only [aiT,Int.natCast_add];rfl) | (rw [B.jQ] <;> first | rfl | omega | (simp only [ajf,aiG,Int.not_lt,Nat.not_lt,gt_iff_lt] at * <;> omega))) ?_;(with_reducible refine (aA.calls k a1 0 (a1.size:Int) a0 t131 EO _ A4.out).mono ?_);rintro e w6 ⟨rfl,hb⟩;refine ⟨_,rfl,?_⟩;have iq:=ah.mk (cZ (by repeat first | exact HB.out | apply ak | apply aj | apply ay) hb);clear HB;have HB:=iq;clear iq;(try clear hb);(try clear hb2);(try clear hk);(try clear hi)))
   go_ret
   exact ⟨by first | rfl | (simp [aV,aW] <;> rfl) | (simp [*,aV,aW] <;> rfl),by repeat (first | exact HB.out | apply ak | apply aj | apply ay)⟩
  ·rw [ain c5] at H
   have J3:(EO == 0) = false:=ajo.mpr c5
   have RD:(EO != 0) = true:=ajC.mpr c5
   obtain rfl:=aiS H
   go_enter Tryz.func128,Tryz.ntmps128
   go_wp2_with (first | ((with_reducible refine dJ (f:=145) rfl ?_);refine jh (some 15) rfl rfl Tryz.func145 (by kernel_rfl) rfl #[.string a1,.int .i64 0,.int .i64 (a1.size:Int),.int .i64 a0] rfl (by (try simp only [ai8,aiy,aiF]);first | done | rfl | (simp only [aiR,aiC];rfl) | (simp only [aiT,Int.natCast_add];rfl) | (rw [B.jQ] <;> first | rfl | omega | (simp only [ajf,aiG,Int.not_lt,Nat.not_lt,gt_iff_lt] at * <;> omega))) ?_;(with_reducible refine (aA.calls k a1 0 (a1.size:Int) a0 t131 EO _ A4.out).mono ?_);rintro e w7 ⟨rfl,hb⟩;refine ⟨_,rfl,?_⟩;have iq:=ah.mk (cZ (by repeat first | exact HB.out | apply ak | apply aj | apply ay) hb);clear HB;have HB:=iq;clear iq;(try clear hb);(try clear hb2);(try clear hk);(try clear hi)))
   go_ret
   exact ⟨by first | rfl | (simp [aV,aW] <;> rfl) | (simp [*,aV,aW] <;> rfl),by repeat (first | exact HB.out | apply ak | apply aj | apply ay)⟩
def bS.f (k:Nat) (a0:Int) (a1:ByteArray):Option (ByteArray × ByteArray × List ByteArray × Bool) :=
 (iU.f k a0 a1).bind fun c=>if c = true then (match aA.Dj a0 with | some s=>bN.f k a1 0 (a1.size:Int) s.1 s.2.1 s.2.2 | none=>some (a1,⟨#[]⟩,[],true)) else some (⟨#[]⟩,⟨#[]⟩,[],false)
theorem bS.three {w w1:World} {g B:Nat} {a b c a' b' c':Value} (bk:w1.heap[g]? = some (.cells #[a',b',c'] 191 (0,0))) :
  (((w1.setCell ⟨g,0,none⟩ a).setCell ⟨g,1,none⟩ b).setCell ⟨g,2,none⟩ c).heap[g]? = some (.cells #[a,b,c] 191 (0,0)) ∧
  (Below B w w1 → B ≤ g → Below B w (((w1.setCell ⟨g,0,none⟩ a).setCell ⟨g,1,none⟩ b).setCell ⟨g,2,none⟩ c)) ∧
  (∀ v l base ok,Kd.R Kd.string 9 w1 base ok v l → Kd.R Kd.string 9 (((w1.setCell ⟨g,0,none⟩ a).setCell ⟨g,1,none⟩ b).setCell ⟨g,2,none⟩ c) base ok v l):=by
 have b1:=gV bk 0 a (cs':=#[a,b',c']) rfl
 have b2:=gV b1 1 b (cs':=#[a,b,c']) rfl
 have b3:=gV b2 2 c (cs':=#[a,b,c]) rfl
 refine ⟨b3,fun h hg=>((h.setCell hg _).setCell hg _).setCell hg _,fun v l base ok h=>?_⟩
 exact Kd.Nl (Kd.Nl (Kd.Nl h bk (by decide) 0 a) b1 (by decide) 1 b) b2 (by decide) 2 c
theorem bS.facts {w1:World} {g:Nat} {a b c:Value} (bk:w1.heap[g]? = some (.cells #[a,b,c] 191 (0,0))) :
  (w1.cell? ⟨g,0,none⟩ = some a ∧ w1.cell? ⟨g,1,none⟩ = some b ∧ w1.cell? ⟨g,2,none⟩ = some c) ∧ w1.frozen? ⟨g,0,none⟩ = false ∧ w1.frozen? ⟨g,1,none⟩ = false ∧ w1.frozen? ⟨g,2,none⟩ = false :=
 ⟨⟨bK bk 0,bK bk 1,bK bk 2⟩,bG bk 0,bG bk 1,bG bk 2⟩
theorem bS.calls (k:Nat) (a0:Int) (a1:ByteArray) (r1 r2:ByteArray) (r3:List ByteArray) (r4:Bool) (w:World) (h:bS.f k a0 a1 = some (r1,r2,r3,r4)) :
  Calls Tryz.prog 112 #[.int .i64 a0,.string a1] w fun e w'=>∃ v2_:Value,e = .returned (.tuple #[.agg #[.string r1,.string r2,v2_],.bool r4]) ∧ Kd.R Kd.string 9 w' w.heap.size (fun _=>True) v2_ r3 ∧ Below w.heap.size w w':=by
 obtain ⟨c,hc,h'⟩:=zbm h
 clear h
 have HC:=ah.mk hc
 clear hc
 cases c with
 | false =>
  rw [ain ajl] at h'
  cases h'
  go_enter Tryz.func112,Tryz.ntmps112
  go_wp2_with (first
   | (go_at_call 128;refine (iU.calls _ _ _ _ _ HC.out).mono ?_;rintro e w1 ⟨rfl,hd1⟩;have bk:=dX (tH w _) hd1;obtain ⟨⟨k0,k1,k2⟩,f0,f1,f2⟩:=bS.facts bk;have bk:=ah.mk bk;have hB1:=ah.mk ((ak (Below.refl w.heap.size w) _).trans (hd1.mono (by simp only [World.alloc,aju];omega)));clear hd1))
  refine bodyPost_ret (jY rfl _ _ w.heap.size 191 #[.string ⟨#[]⟩,.string ⟨#[]⟩,.slice none 0 0] (0,0) _ rfl (bS.three (w:=w) (B:=0) bk.out).1 Tryz.underlying191 rfl (by kernel_rfl)) rfl ?_
  exact ⟨_,rfl,Kd.j3 _ _ _ _ _,(bS.three bk.out).2.1 hB1.out (aiq _)⟩
 | true =>
  replace h':(match aA.Dj a0 with | some s=>bN.f k a1 0 (a1.size:Int) s.1 s.2.1 s.2.2 | none=>some (a1,⟨#[]⟩,[],true)) = some (r1,r2,r3,r4):=h'
  cases hsh:aA.Dj a0 with
  | none =>
   rw [hsh] at h'
   cases h'
   have hfn:Mi.su a0 bR.tab = none:=by rw [aA.wJ,hsh];rfl
   go_enter Tryz.func112,Tryz.ntmps112
   go_wp2_with (first
    | (go_at_call 128;refine (iU.calls _ _ _ _ _ HC.out).mono ?_;rintro e w1 ⟨rfl,hd1⟩;have bk:=dX (tH w _) hd1;obtain ⟨⟨k0,k1,k2⟩,f0,f1,f2⟩:=bS.facts bk;have bk:=ah.mk bk;have hB1:=ah.mk ((ak (Below.refl w.heap.size w) _).trans (hd1.mono (by simp only [World.alloc,aju];omega)));clear hd1)
    | (go_at_call 129;refine (bR.calls _).mono ?_;rintro e w2 ⟨g,rfl,hin⟩;clear k0 k1 k2 f0 f1 f2;have hl:=Mi.look (P:=Tryz.prog) hin.at_ 207 3 205 Tryz.underlying207 Tryz.underlying3 _ (Tryz.zeroValue205 w2) a0;rw [hfn] at hl;replace hl:=show _ = Result.ok (Value.tuple #[.agg #[.int .i64 0,.int .i64 0,.int .i64 0],.bool false]) w2 from hl;have hB2:=ah.mk (hB1.out.trans (hin.Og.mono hB1.out.size));have bk:=ah.mk (aJ (dX bk.out hin.Og) (.cells #[.int .i64 0,.int .i64 0,.int .i64 0] 205 (0,0)));obtain ⟨⟨k0,k1,k2⟩,f0,f1,f2⟩:=bS.facts bk.out;clear hin))
   refine bodyPost_ret (jY rfl _ _ w.heap.size 191 #[.string a1,.string ⟨#[]⟩,.slice none 0 0] (0,0) _ rfl (bS.three (w:=w) (B:=0) bk.out).1 Tryz.underlying191 rfl (by kernel_rfl)) rfl ?_
   exact ⟨_,rfl,Kd.j3 _ _ _ _ _,(bS.three bk.out).2.1 (ak hB2.out _) (aiq _)⟩
  | some s =>
   obtain ⟨s0,s1,s2⟩:=s
   rw [hsh] at h'
   have hp:=ah.mk (show bN.f k a1 0 (a1.size:Int) s0 s1 s2 = some (r1,r2,r3,r4) from h')
   clear h'
   have hfn:Mi.su a0 bR.tab = some (bR.agg s0 s1 s2):=by rw [aA.wJ,hsh];rfl
   go_enter Tryz.func112,Tryz.ntmps112
   go_wp2_with (first
    | (go_at_call 128;refine (iU.calls _ _ _ _ _ HC.out).mono ?_;rintro e w1 ⟨rfl,hd1⟩;have bk:=dX (tH w _) hd1;obtain ⟨⟨k0,k1,k2⟩,f0,f1,f2⟩:=bS.facts bk;have bk:=ah.mk bk;have hB1:=ah.mk ((ak (Below.refl w.heap.size w) _).trans (hd1.mono (by simp only [World.alloc,aju];omega)));clear hd1)
    | (go_at_call 129;refine (bR.calls _).mono ?_;rintro e w2 ⟨g,rfl,hin⟩;clear k0 k1 k2 f0 f1 f2;have hl:=Mi.look (P:=Tryz.prog) hin.at_ 207 3 205 Tryz.underlying207 Tryz.underlying3 _ (Tryz.zeroValue205 w2) a0;rw [hfn] at hl;replace hl:=show _ = Result.ok (Value.tuple #[.agg #[.int .i64 s0,.int .i64 s1,.int .i64 s2],.bool true]) w2 from hl;have hB2:=ah.mk (hB1.out.trans (hin.Og.mono hB1.out.size));have bk:=ah.mk (aJ (dX bk.out hin.Og) (.cells #[.int .i64 s0,.int .i64 s1,.int .i64 s2] 205 (0,0)));obtain ⟨⟨k0,k1,k2⟩,f0,f1,f2⟩:=bS.facts bk.out;clear hin)
    | (go_at_call 130;refine (bN.calls _ _ _ _ _ _ _ _ _ _ _ _ hp.out).mono ?_;rintro e w3 ⟨v,rfl,hv,hb3⟩;clear k0 k1 k2 f0 f1 f2;obtain ⟨vA,vn,vc,rfl⟩:=aA.slc hv;have hB3:=ah.mk ((ak hB2.out _).trans (hb3.mono (by have:=hB2.out.size;simp only [World.alloc,aju];omega)));have hv:=ah.mk (Kd.tJ hv (by have:=hB2.out.size;simp only [World.alloc,aju];omega:w.heap.size ≤ _));have bk:=ah.mk (dX bk.out hb3);obtain ⟨⟨k0,k1,k2⟩,f0,f1,f2⟩:=bS.facts bk.out;clear hb3))
   refine bodyPost_ret (jY rfl _ _ w.heap.size 191 #[.string r1,.string r2,.slice vA vn vc] (0,0) _ rfl (bS.three (w:=w) (B:=0) bk.out).1 Tryz.underlying191 rfl (by kernel_rfl)) rfl ?_
   exact ⟨_,rfl,(bS.three (w:=w) (B:=0) bk.out).2.2 _ _ _ _ hv.out,(bS.three bk.out).2.1 hB3.out (aiq _)⟩
def eG.all (k:Nat):List ByteArray → Option (List ByteArray)
 | []=>some []
 | x :: l=>(mK.f k x).bind fun y=>(eG.all k l).bind fun m=>some (y :: m)
def eG.fin (p1 p2:ByteArray) (m:List ByteArray):Option ByteArray :=
 if p1.size + (strings_Join.cat m).size + p2.size ≤ 140737488355328 then (if m.length ≤ 1000000 then some (p1 ++ strings_Join.cat m ++ p2) else none) else none
def eG.f (k:Nat) (a0:Int) (a1:ByteArray):Option ByteArray :=
 (bS.f k a0 a1).bind fun p=>(eG.all k p.2.2.1).bind fun m=>eG.fin p.1 p.2.1 m
theorem eG.yR {k:Nat}:∀ {l m:List ByteArray},eG.all k l = some m → m.length = l.length
 | [],m,h=>by cases h;rfl
 | x :: l,m,h=>by
  rw [eG.all] at h
  obtain ⟨y,_,h⟩:=zbm h
  obtain ⟨m',h',h⟩:=zbm h
  cases h
  rw [List.length_cons,List.length_cons,eG.yR h']
theorem eG.calls (k:Nat) (a0:Int) (a1:ByteArray) (r:ByteArray) (w:World) (h:eG.f k a0 a1 = some r) :
  Calls Tryz.prog 132 #[.int .i64 a0,.string a1] w fun e w'=>e = .returned (.string r) ∧ Below w.heap.size w w':=by
 obtain ⟨⟨p1,p2,l,p4⟩,hp,h'⟩:=zbm h
 clear h
 obtain ⟨m,hm,h'⟩:=zbm h'
 replace hm:eG.all k l = some m:=hm
 replace h':eG.fin p1 p2 m = some r:=h'
 have hml:=eG.yR hm
 have HP:=ah.mk hp
 have HM:=ah.mk hm
 have HF:=ah.mk h'
 have HL:=ah.mk hml
 clear hp hm h' hml
 go_enter Tryz.func132,Tryz.ntmps132
 go_wp2_with (first
  | (go_at_call 112;refine (bS.calls _ _ _ _ _ _ _ _ HP.out).mono ?_;rintro e w1 ⟨v,rfl,hv,hb1⟩;obtain ⟨vA,vn,vc,rfl⟩:=aA.slc hv;obtain ⟨rfl,_,hcc⟩:=Kd.yj hv;have hmx:=ah.mk (Kd.aaI hcc);clear hcc;have hv2:=ah.mk (Kd.gq hv (.cells #[.string p1,.string p2,.slice vA l.length vc] 191 (0,0)));have hb2:=ah.mk (ak hb1 (.cells #[.string p1,.string p2,.slice vA l.length vc] 191 (0,0)));have bk2:=ah.mk (tH w1 (.cells #[.string p1,.string p2,.slice vA l.length vc] 191 (0,0)));have hge:=ah.mk hb1.size;clear hv hb1))
 generalize hw1:w1.alloc (.cells #[.string p1,.string p2,.slice vA l.length vc] 191 (0,0)) = w2 at *
 generalize hg:w1.heap.size = g at *
 clear hw1 hg
 go_loopw [18] (fun v18 wr=>∃ (j:Nat) (cur:List ByteArray),v18 = .int .i64 j ∧ j ≤ l.length ∧ ah (cur.length = l.length ∧ ∃ mm,eG.all k (cur.drop j) = some mm ∧ m = cur.take j ++ mm) ∧ ah (wr.heap[g]? = some (.cells #[.string p1,.string p2,.slice vA l.length vc] 191 (0,0))) ∧ ah (Kd.R Kd.string 9 wr w.heap.size (fun _=>True) (.slice vA l.length vc) cur) ∧ ah (Below w.heap.size w wr)) (fun v18 _=>l.length - (intOf v18).toNat)
 case atStart=>exact ⟨0,l,rfl,aiU _,⟨rfl,m,HM.out,rfl⟩,bk2,hv2,hb2⟩
 case round =>
  clear HM hv2 hb2 bk2
  obtain ⟨j,cur,rfl,hj,hc,bk,hR,hB⟩:=hrel
  by_cases hlt:j < l.length
  ·obtain ⟨hcl,mm,hmm,hmt⟩:=hc.out
   have hjc:j < cur.length:=by omega
   rw [ajV hjc,eG.all] at hmm
   obtain ⟨y,hy,hmm⟩:=zbm hmm
   obtain ⟨m',hm',hmm⟩:=zbm hmm
   obtain rfl:mm = y :: m':=(aiS hmm).symm
   have hnew:=ah.mk (show (cur.set j y).length = l.length ∧ ∃ mm,eG.all k ((cur.set j y).drop (j + 1)) = some mm ∧ m = (cur.set j y).take (j + 1) ++ mm from by
    refine ⟨by rw [ajW];exact hcl,m',?_,?_⟩
    ·rw [List.drop_set_of_lt (by omega)];exact hm'
    ·have e:(cur.set j y).take (j + 1) = cur.take j ++ [y]:=by
      rw [List.take_succ_eq_append_getElem (by rw [ajW];exact hjc),List.getElem_set_self,List.take_set_of_le (aiq j)]
     rw [hmt,e,ajc];rfl)
   obtain ⟨gr,cap,e0,_,_,cells,hcells⟩:=Kd.Wx hR.out (by omega)
   injection e0 with e1 e2 e3
   subst e1 e3
   have hne:=ah.mk (show g ≠ gr from Ws bk.out hcells (by decide))
   have hxc:=Kd.Cw ByteArray.empty hR.out (j:Int) (by omega) (by omega)
   have hxe:Gf ByteArray.empty cur (j:Int) = cur[j]:=by
    unfold Gf
    rw [Int.toNat_natCast,aiL,aiB hjc]
    rfl
   rw [hxe,Int.toNat_natCast] at hxc
   have HY:=ah.mk hy
   have c0:=hxc.1
   have c1:=(bS.facts bk.out).1.2.2
   have hlt2:=ah.mk hlt
   have p0:(0 ≤ (j:Int)) = True:=aix (by omega)
   have q0:((j:Int) < (l.length:Int)) = True:=aix (by omega)
   generalize cur[j] = x at *
   clear hmm hm' hmt hy hxe hxc hcells hc e2 hlt hjc hcl
   go_wp2
   go_region_with (first | (go_at_call 68;refine (mK.calls _ _ _ _ HY.out).mono ?_;rintro e w3 ⟨rfl,hb3⟩;have bk3:=dX (aR bk.out) hb3;have RY:=Kd.lS (Kd.gZ hR.out) hb3;have hB3:=ah.mk ((jr hB.out).trans (hb3.mono hB.out.size));have d0:=(Kd.Cw ByteArray.empty RY (j:Int) (by omega) (by have:=hlt2.out;omega)).1;have d1:=(Kd.Cw ByteArray.empty RY (j:Int) (by omega) (by have:=hlt2.out;omega)).2;rw [Int.toNat_natCast] at d0 d1;have d2:=(bS.facts bk3).1.2.2;have bk3:=ah.mk bk3;have RY:=ah.mk RY;clear hb3))
   all_goals
    have hfin:=Kd.WA RY.out (j:Int) y
    rw [Int.toNat_natCast] at hfin
    have bk4:=ah.mk (oo (p:=⟨gr,j,none⟩) bk3.out hne.out (.string y))
    have hR4:=ah.mk hfin.1
    have hB4:=ah.mk (hB3.out.grown hfin.2 hB3.out.size (fun k e=>by cases e;exact Kd.Ww RY.out gr rfl))
    clear hfin
    generalize w3.setCell ⟨gr,j,none⟩ (.string y) = w4 at *
    clear c0 c1 d0 d1 d2 p0 q0
    have hw:=(show wrap64 ((j:Int) + 1) = ((j + 1:Nat):Int) from by have hlt:=hlt2.out;have hm9:=hmx.out;rw [B.jQ (by omega) (by omega)];omega)
    have hw:=ah.mk hw
    go_wp2
    go_roundw
    case rel=>have hlt:=hlt2.out;have hm9:=hmx.out;exact ⟨j + 1,cur.set j y,by rw [hw.out],hlt2.out,hnew,bk4,hR4,hB4⟩
    case measure=>have hlt:=hlt2.out;have hm9:=hmx.out;rw [hw.out];simp only [intOf];omega
  ·obtain rfl:j = l.length:=by omega
   have hcm:m = cur:=by
    obtain ⟨hcl,mm,hmm,hmt⟩:=hc.out
    rw [← hcl,List.drop_length] at hmm
    cases hmm
    rw [hmt,← hcl,ai2,ajm]
   subst hcm
   have q0:((l.length:Int) < (l.length:Int)) = False:=eq_false (by omega)
   obtain ⟨⟨k0,k1,k2⟩,_,_,_⟩:=bS.facts bk.out
   have hF:=HF.out
   unfold eG.fin at hF
   by_cases z1:p1.size + (strings_Join.cat m).size + p2.size ≤ 140737488355328
   ·rw [ail z1] at hF
    by_cases z2:m.length ≤ 1000000
    ·rw [ail z2] at hF
     obtain rfl:=aiS hF
     have z1:=ah.mk z1
     have z2:=ah.mk z2
     clear hF HF
     go_wp2_with (first
      | (go_at_call 147;refine (iH.calls _ _ _ m _ _ _ hR.out z2.out z1.out).mono ?_;rintro e w4 ⟨rfl,hb4⟩;have hB4:=ah.mk (hB.out.trans (hb4.mono hB.out.size));clear hb4))
     go_ret
     exact ⟨rfl,hB4.out⟩
    ·rw [ain z2] at hF;cases hF
   ·rw [ain z1] at hF;cases hF
def mO.f (k:Nat) (a0:Int) (a1:ByteArray):Option (List ByteArray):=(bS.f k a0 a1).bind fun Oj=>(some Oj.2.2.1)
theorem mO.calls (k:Nat) (a0:Int) (a1:ByteArray) (r:List ByteArray) (w:World) (h:mO.f k a0 a1 = some r) :
  Calls Tryz.prog 81 #[.int .i64 a0,.string a1] w fun e w'=>∃ TS:Value,e = .returned (TS) ∧ Kd.R Kd.string 9 w' w.heap.size (fun _=>True) TS r ∧ Below w.heap.size w w':=by
 have aa5:=Tryz.underlying191
 have HB:=ah.mk (Below.refl w.heap.size w)
 have H:((bS.f k a0 a1).bind fun Oj=>(some Oj.2.2.1)) = some r:=h
 clear h
 replace H:=zbm H
 obtain ⟨⟨abn,abo,WT,t138⟩,A30,H⟩:=H
 replace H:(some WT) = some r:=H
 have A3:=ah.mk A30
 clear A30
 obtain rfl:=aiS H
 go_enter Tryz.func81,Tryz.ntmps81
 go_wp2_with (first | ((with_reducible refine dJ (f:=112) rfl ?_);refine jh (some 10) rfl rfl Tryz.func112 (by kernel_rfl) rfl #[.int .i64 a0,.string a1] rfl (by (try simp only [ai8,aiy,aiF]) <;> rfl) ?_;(with_reducible refine (bS.calls k a0 a1 abn abo WT t138 _ A3.out).mono ?_);rintro e w4 ⟨aij,rfl,ho0,hb⟩;refine ⟨_,rfl,?_⟩;have iq:=ah.mk (Kd.tJ ho0 (dN (by repeat first | exact HB.out | apply ak | apply aj | apply ay)));have kH:=ah.mk (cZ (by repeat first | exact HB.out | apply ak | apply aj | apply ay) hb);clear HB;have EP:=iq;have HB:=kH;clear iq kH;(try clear hb);(try clear hb2);(try clear hk);(try clear hi);(try clear ho0)) | ((with_reducible refine mE (N:=5) rfl ?_);refine kU ?hg (N:=5) ?hd (cs:=#[.string (⟨#[]⟩:ByteArray),.string (⟨#[]⟩:ByteArray),.slice none 0 0]) (t:=191) ?hr ?_;(case hd=>rfl);(case hg=>rfl);(case hr=>first | (go_simp;done) | (go_simp;rfl));intro vR hg w5 nP hb;have iq:=ah.mk (Kd.lS (by (with_reducible repeat (first | apply Kd.gq | apply Kd.gU | apply Kd.gZ));exact EP.out) hb);have kH:=ah.mk (cZ (by repeat first | exact HB.out | apply ak | apply aj | apply ay) hb);have oD:=ah.mk (nP);have oF:=ah.mk ((by rw [hg];exact (dN (by repeat first | exact HB.out | apply ak | apply aj | apply ay)):w.heap.size ≤ vR));have qO:=ah.mk ((by rw [hg];exact (dN (by repeat first | exact HB.out | apply ak | apply aj | apply ay)):w.heap.size ≤ vR));clear EP;clear HB;have EP:=iq;have HB:=kH;have yS:=oD;have ahY:=oF;have abp:=qO;clear iq kH oD oF qO;clear hb nP hg;have afO:w5.cell? ⟨vR,0,none⟩ = some (.string (⟨#[]⟩:ByteArray)):=(bK yS.out 0).trans rfl;have afP:w5.cell? ⟨vR,1,none⟩ = some (.string (⟨#[]⟩:ByteArray)):=(bK yS.out 1).trans rfl;have afQ:w5.cell? ⟨vR,2,none⟩ = some (.slice none 0 0):=(bK yS.out 2).trans rfl;have afR:=bG yS.out 0;have afS:=bG yS.out 1;have afT:=bG yS.out 2;obtain ⟨Ao7,co7,eo7⟩:=Kd.Cv EP.out;subst eo7))
 go_ret
 exact ⟨_,by first | rfl | (simp [aV,aW] <;> rfl) | (simp [*,aV,aW] <;> rfl),by (with_reducible repeat (first | apply Kd.gq | apply Kd.gU | apply Kd.gZ));exact Kd.pU (Kd.tK (p:=⟨vR,2,none⟩) (Kd.tK (p:=⟨vR,1,none⟩) (Kd.tK (p:=⟨vR,0,none⟩) (Kd.tL EP.out yS.out (by decide)) (fun _ hk=>hk.2) (.string abn)) (fun _ hk=>hk.2) (.string abo)) (fun _ hk=>hk.2) (.slice Ao7 WT.length co7)) (fun _ hk=>trivial),by repeat (first | (with_reducible first | exact HB.out | apply ak | apply aj | apply ay | refine aU ?_ abp.out) | exact HB.out)⟩
end
section
open Go.RowKit Go.Proofs.YtfokaoeinpnagaaGreatW.aT Go.Proofs.YtfokaoeinpnagaaGreatW.dO Go.Proofs.YtfokaoeinpnagaaGreatW.eX
attribute [local go_sem] jM jN kW kX jd je jO jP
theorem afU (d:Nat) (w:World) (x0 y0:Int) (x1 y1:Int) (x2 y2:Int) :
  (Op.equalIn (d + 2) 198 (.agg #[.int .i64 x0,.int .i64 x1,.int .i64 x2]) (.agg #[.int .i64 y0,.int .i64 y1,.int .i64 y2])).run Tryz.prog w = .ok (x0 == y0 && (x1 == y1 && (x2 == y2))) w:=by
 refine B.NC Tryz.underlying198 (by kernel_rfl) (by kernel_rfl) ?_
 show (Op.eqItems _ 3 1 _ _ [0,1,2]).run _ _ = _
 refine B.EA (by go_simp;rfl) (by go_simp;rfl) (by go_simp) ?_
 refine B.EA (by go_simp;rfl) (by go_simp;rfl) (by go_simp) ?_
 exact B.NA (by go_simp;rfl) (by go_simp;rfl) (by go_simp)
end
section
open Go.RowKit Go.Proofs.YtfokaoeinpnagaaGreatW.aT Go.Proofs.YtfokaoeinpnagaaGreatW.dO Go.Proofs.YtfokaoeinpnagaaGreatW.eX Go.Proofs.YtfokaoeinpnagaaGreat.B
def A8 (msg:ByteArray) (i:Int):ByteArray × Int × Int:=(bg.f (rounds i) msg i).getD (⟨#[]⟩,0,0)
theorem Ub (msg:ByteArray) (i:Int) (hm:msg.size ≤ 100000):bg.f (rounds i) msg i = some (A8 msg i):=by
 obtain ⟨R,h1,_⟩:=J8 (rounds i) msg i hm (aiq _)
 unfold A8;rw [h1];rfl
theorem abq (k:Nat) (msg:ByteArray) (i:Int) (hm:msg.size ≤ 100000) (hk:rounds i ≤ k):bg.f k msg i = some (A8 msg i):=EL hk (Ub msg i hm)
theorem ER (msg:ByteArray) (i:Int) (hm:msg.size ≤ 100000) :
  ((A8 msg i).2.2 = 0 ∧ jJ (A8 msg i).1 = true ∧ 0 ≤ i ∧ i < (A8 msg i).2.1 ∧ (A8 msg i).2.1 ≤ (msg.size:Int)) ∨ (((A8 msg i).2.2 = 2 ∨ (A8 msg i).2.2 = 3) ∧ (A8 msg i).1 = ⟨#[]⟩ ∧ (A8 msg i).2.1 = 0):=Gy hm (Ub msg i hm)
def KH (msg:ByteArray) (e:Int):Nat → Int → List ByteArray → Option (List ByteArray × Int)
 | 0,i,l=>some (l,i)
 | n + 1,i,l=>if (A8 msg i).2.2 = 0 then (if (A8 msg i).2.1 > e then none else KH msg e n (A8 msg i).2.1 (l ++ [(A8 msg i).1])) else none
theorem qD (msg:ByteArray) (e:Int) (hm:msg.size ≤ 100000):∀ (n:Nat) (i:Int) (l:List ByteArray) (R:List ByteArray × Int),KH msg e n i l = some R → i ≤ e → i ≤ R.2 ∧ R.2 ≤ e ∧ R.1.length = l.length + n ∧ (∃ l',R.1 = l ++ l' ∧ ∀ x ∈ l',jJ x = true)
 | 0,i,l,R,h,hi=>by cases h;exact ⟨ajg _,hi,rfl,[],by simp,by simp⟩
 | n + 1,i,l,R,h,hi=>by
  rw [KH] at h
  by_cases h0:(A8 msg i).2.2 = 0
  ·rw [ail h0] at h
   by_cases h1:(A8 msg i).2.1 > e
   ·rw [ail h1] at h;cases h
   ·rw [ain h1] at h
    obtain ⟨a1,a2,a3,l',a4,a5⟩:=qD msg e hm n _ _ R h (by omega)
    rcases ER msg i hm with ⟨_,b2,_,b4,_⟩ | ⟨b1,_⟩
    ·refine ⟨by omega,a2,by rw [a3,aiv,List.length_singleton];omega,(A8 msg i).1 :: l',by rw [a4];simp,?_⟩
     intro x hx
     rcases aiD.mp hx with rfl | hx
     ·exact b2
     ·exact a5 x hx
    ·omega
  ·rw [ain h0] at h;cases h
def K0 : Nat:=101000
theorem Kh {msg:ByteArray} {i:Int} {k:Nat} (hm:msg.size ≤ 100000) (hi:i ≤ (msg.size:Int)) (hk:K0 ≤ k):rounds i ≤ k:=by unfold rounds;unfold K0 at hk;omega
theorem CS (msg:ByteArray) (e s0 s1 s2:Int) (a b:ByteArray) (hm:msg.size ≤ 100000) (he:e ≤ (msg.size:Int)) (h2:0 ≤ s2 ∧ s2 ≤ 1000) (c:Int) (hc:c ≤ 100):∀ (n k:Nat) (i x:Int) (l:List ByteArray),K0 + n ≤ k → x + n = c → 0 ≤ x → 0 ≤ i → i ≤ e → l.length + n ≤ 1000 →
  bN.l0 (k + 1) msg i e c x s0 s1 s2 a b l = (match KH msg e n i l with
   | some R=>some (a,msg.extract R.2.toNat e.toNat,R.1,(((msg.extract R.2.toNat e.toNat).size:Int) == s2))
   | none=>some (⟨#[]⟩,⟨#[]⟩,[],false))
 | 0,k,i,x,l,hk,hx,hx0,hi,hie,hl=>by
  rw [bN.l0,ain (by omega),ail hi,ail hie,ail he,KH]
 | n + 1,k,i,x,l,hk,hx,hx0,hi,hie,hl=>by
  obtain ⟨k,rfl⟩:∃ m,k = m + 1:=⟨k - 1,by omega⟩
  rw [bN.l0,ail (by omega),abq (k + 1) msg i hm (Kh hm (by omega) (by omega)),KH]
  simp only [Option.bind_some]
  by_cases h0:(A8 msg i).2.2 = 0
  ·rw [ail h0,ail h0]
   by_cases h1:(A8 msg i).2.1 > e
   ·rw [ail h1,ail h1]
   ·rcases ER msg i hm with ⟨_,_,_,b4,_⟩ | ⟨b1,_⟩
    ·rw [ain h1,ain h1,ail (by omega),jQ (by omega) (by omega)]
     exact CS msg e s0 s1 s2 a b hm he h2 c hc n k _ (x + 1) _ (by omega) (by omega) (by omega) (by omega) (by omega) (by rw [aiv,List.length_singleton];omega)
    ·omega
  ·rw [ain h0,ain h0]
def Uc (s:ByteArray):Nat → Int → Bool
 | 0,_=>false
 | k + 1,i=>if i < (s.size:Int) then Uc s k (i + 1 + bt s i) else decide (i = s.size)
def Ol (s:ByteArray):Bool:=decide (0 < s.size) && Uc s (s.size + 1) 0
theorem WU (s:ByteArray) {k:Nat} {i:Int} (h:(s.size:Int) < i):Uc s k i = false:=by
 cases k with
 | zero=>rfl
 | succ k=>rw [Uc,ain (by omega)];simp;omega
theorem Om (s:ByteArray) (hs:s.size ≤ 100000) (d:Nat):∀ (k m:Nat) (i:Int),0 ≤ i → i ≤ (s.size:Int) → s.size - i.toNat ≤ d → d + 1 ≤ k → d + 1 ≤ m → dG.l0 k (s.extract i.toNat s.size) = some (Uc s m i):=by
 induction d with
 | zero =>
  intro k m i h0 h1 h2 hk hm
  obtain ⟨k,rfl⟩:∃ j,k = j + 1:=⟨k - 1,by omega⟩
  obtain ⟨m,rfl⟩:∃ j,m = j + 1:=⟨m - 1,by omega⟩
  rw [dG.l0,ail (toList_nil.mpr (by rw [aiW];omega)),Uc,ain (by omega),aip (by omega)]
 | succ d ih =>
  intro k m i h0 h1 h2 hk hm
  obtain ⟨k,rfl⟩:∃ j,k = j + 1:=⟨k - 1,by omega⟩
  obtain ⟨m,rfl⟩:∃ j,m = j + 1:=⟨m - 1,by omega⟩
  have hz:(s.extract i.toNat s.size).size = s.size - i.toNat:=by rw [aiW];omega
  by_cases hi:i < (s.size:Int)
  ·have hb:bt (s.extract i.toNat s.size) 0 = bt s i:=by
    rw [mI (by omega) (by omega)];congr 1;omega
   have hr:=gD s i
   rw [dG.l0,ain (by rw [toList_nil];omega),ail (by omega),hb,jQ (n:=bt s i) (by omega) (by omega),jQ (n:=1 + bt s i) (by omega) (by omega),Uc,ail hi]
   by_cases h3:1 + bt s i > ((s.extract i.toNat s.size).size:Int)
   ·rw [ail h3,WU s (by omega)]
   ·rw [ain h3,ail (by omega),ail (by omega)]
    have e:(s.extract i.toNat s.size).extract (1 + bt s i).toNat (s.extract i.toNat s.size).size = s.extract (i + 1 + bt s i).toNat s.size:=by
     rw [ByteArray.extract_extract,hz]
     congr 1 <;> omega
    rw [e]
    exact ih k m _ (by omega) (by omega) (by omega) (by omega) (by omega)
  ·rw [dG.l0,ail (toList_nil.mpr (by omega)),Uc,ain hi,aip (by omega)]
theorem Oo (k:Nat) (hk:K0 ≤ k) (s:ByteArray) (hs:s.size ≤ 100000):dG.f k s = some (Ol s):=by
 unfold dG.f Ol
 by_cases h:s.toList = ([]:List UInt8)
 ·rw [ail h];rw [toList_nil] at h;rw [h];rfl
 ·rw [ain h]
  rw [toList_nil] at h
  unfold K0 at hk
  have:=Om s hs s.size k (s.size + 1) 0 (by omega) (by omega) (by omega) (by omega) (by omega)
  rw [show (0:Int).toNat = 0 from rfl,akg] at this
  rw [this,aip (by omega),Bool.true_and]
end
section
open Go.RowKit Go.Proofs.YtfokaoeinpnagaaGreatW.aT Go.Proofs.YtfokaoeinpnagaaGreatW.dO Go.Proofs.YtfokaoeinpnagaaGreatW.eX Go.Proofs.YtfokaoeinpnagaaGreat.B
theorem ES {n:ByteArray} (h:jJ n = true):n.size ≤ 255:=by
 obtain ⟨l,_,_,hz⟩:=wH.mp h;exact hz
theorem yT : ∀ {l:List ByteArray},(∀ x ∈ l,jJ x = true) → (strings_Join.cat l).size ≤ 255 * l.length
 | [],_=>aiU _
 | x :: l,h=>by
  have h1:=ES (h x (by simp))
  have h2:=yT (l:=l) (fun y hy=>h y (by simp [hy]))
  rw [strings_Join.cat,aiT,List.length_cons]
  omega
def zN (d:ByteArray):ByteArray × Int:=if (d.size:Int) > 65535 then (⟨#[]⟩,4) else (d,0)
theorem A9 (d:ByteArray):(if (d.size:Int) > 65535 then some ((⟨#[]⟩:ByteArray),(4:Int)) else some (d,0)) = some (zN d):=by
 unfold zN;split <;> rfl
def RZ (msg:ByteArray) (i size:Int) (s:Int × Int × Int):ByteArray × Int :=
 if s.1 ≤ size then (match KH msg (i + size) s.2.1.toNat (i + s.1) [] with
  | some R=>if R.2 + s.2.2 = i + size then zN (msg.extract i.toNat (i + s.1).toNat ++ strings_Join.cat R.1 ++ msg.extract R.2.toNat (i + size).toNat) else (⟨#[]⟩,4)
  | none=>(⟨#[]⟩,4)) else (⟨#[]⟩,4)
def GD (msg:ByteArray) (i size kind:Int):ByteArray × Int :=
 if iG msg i size then (match aA.Dj kind with
  | some s=>RZ msg i size s
  | none=>if kind = 16 then (if Ol (msg.extract i.toNat (i + size).toNat) = true then zN (msg.extract i.toNat (i + size).toNat) else (⟨#[]⟩,4)) else zN (msg.extract i.toNat (i + size).toNat))
 else (⟨#[]⟩,2)
theorem qE {kind:Int} {s:Int × Int × Int} (h:aA.Dj kind = some s):0 ≤ s.1 ∧ s.1 ≤ 16 ∧ 0 ≤ s.2.1 ∧ s.2.1 ≤ 2 ∧ 0 ≤ s.2.2 ∧ s.2.2 ≤ 20 ∧ kind ≠ 16 ∧ (s.1 = 0 → s.2.1 = 0 → False):=by
 unfold aA.Dj at h
 repeat' split at h
 all_goals (first | (cases h;subst_vars;decide) | cases h)
theorem WV (k:Nat) (hk:K0 ≤ k) (kind:Int) (hkind:kind ≠ 16) (d:ByteArray):aA.fin k kind d true = some (zN d):=by
 unfold aA.fin
 rw [ail rfl,ain hkind,A9]
theorem uZ (k:Nat) (kind:Int) (d:ByteArray):aA.fin k kind d false = some (⟨#[]⟩,4):=by
 unfold aA.fin;rw [ain ajl]
theorem Ki (msg:ByteArray) (i size kind:Int) (k:Nat) (hk:K0 ≤ k) (hm:msg.size ≤ 100000) (f:ByteArray → Option Bool) (hf:∀ s,s.size ≤ 100000 → f s = some (Ol s)) (t:ByteArray) (ht:t.size ≤ 100000) :
  (if kind = 16 then ((f t).bind fun b=>if b = true then (if (t.size:Int) > 65535 then some ((⟨#[]⟩:ByteArray),(4:Int)) else some (t,0)) else some (⟨#[]⟩,4)) else (if (t.size:Int) > 65535 then some (⟨#[]⟩,4) else some (t,0))) =
   some (if kind = 16 then (if Ol t = true then zN t else (⟨#[]⟩,4)) else zN t):=by
 rw [hf t ht,A9]
 simp only [Option.bind_some]
 split
 ·split <;> rfl
 ·rfl
theorem Kj (k:Nat) (hk:K0 + 10 ≤ k) (msg:ByteArray) (i size kind:Int) (hm:msg.size ≤ 100000) (ht:iG msg i size) (s:Int × Int × Int) (hs:aA.Dj kind = some s):aA.g k msg i size kind s = some (RZ msg i size s):=by
 obtain ⟨h0,h1,h2⟩:=ht
 obtain ⟨a1,a2,a3,a4,a5,a6,a7,a8⟩:=qE hs
 obtain ⟨s0,s1,s2⟩:=s
 simp only at a1 a2 a3 a4 a5 a6 a8
 have e1:wrap64 (i + size) = i + size:=jQ (by omega) (by omega)
 have e2:wrap64 (i + size - i) = size:=by rw [jQ (by omega) (by omega)];omega
 have e3:wrap64 (i + s0) = i + s0:=jQ (by omega) (by omega)
 unfold aA.g bN.f RZ
 simp only [e1,e2,e3]
 by_cases c:s0 ≤ size
 ·rw [ail c,ail c,ail h0,ail (by omega),ail (by omega)]
  obtain ⟨k,rfl⟩:∃ j,k = j + 1:=⟨k - 1,by omega⟩
  rw [CS msg (i + size) s0 s1 s2 _ _ hm h2 ⟨a5,by omega⟩ s1 (by omega) s1.toNat k (i + s0) 0 [] (by omega) (by omega) (ajg _) (by omega) (by omega) (by simp only [List.length_nil];omega)]
  have hz:(msg.extract i.toNat (i + s0).toNat).size ≤ 16:=by rw [aiW];omega
  cases hr:KH msg (i + size) s1.toNat (i + s0) [] with
  | none =>
   simp only [Option.bind_some]
   rw [ail (by decide),ail (by decide),uZ]
  | some R =>
   obtain ⟨b1,b2,b3,l',b4,b5⟩:=qD msg _ hm _ _ _ R hr (by omega)
   have hcz:=yT b5
   rw [List.nil_append] at b4
   rw [← b4] at hcz
   rw [List.length_nil,aiP] at b3
   have hbz:(msg.extract R.2.toNat (i + size).toNat).size = (i + size - R.2).toNat:=by rw [aiW];omega
   simp only [Option.bind_some]
   rw [ail (by omega),ail (by omega)]
   by_cases d:R.2 + s2 = i + size
   ·rw [ail d,show (((msg.extract R.2.toNat (i + size).toNat).size:Int) == s2) = true from aiY.mpr (by omega),WV k.succ (by omega) kind a7]
   ·rw [ain d,show (((msg.extract R.2.toNat (i + size).toNat).size:Int) == s2) = false from ajo.mpr (by omega),uZ]
 ·rw [ain c,ain c]
  simp only [Option.bind_some]
  rw [ail (by decide),ail (by decide),uZ]
theorem WW (k:Nat) (hk:K0 + 10 ≤ k) (msg:ByteArray) (i size kind:Int) (hm:msg.size ≤ 100000):aA.f k msg i size kind = some (GD msg i size kind):=by
 unfold aA.f GD
 rw [tZ msg i size (by omega)]
 simp only [Option.bind_some]
 by_cases ht:iG msg i size
 ·rw [ail ht,ail ht]
  simp only [aiV]
  cases hs:aA.Dj kind with
  | some s=>exact Kj k hk msg i size kind hm ht s hs
  | none =>
   have hz:(msg.extract i.toNat (i + size).toNat).size ≤ 100000:=by rw [aiW];omega
   have:=Ki msg i size kind k (by omega) hm (dG.f k) (fun s h=>Oo k (by omega) s h) _ hz
   unfold aA.fin
   rw [ail rfl]
   exact this
 ·rw [ain ht,ain ht];rfl
end
section
open Go.RowKit Go.Proofs.YtfokaoeinpnagaaGreatW.aT Go.Proofs.YtfokaoeinpnagaaGreatW.dO Go.Proofs.YtfokaoeinpnagaaGreatW.eX Go.Proofs.YtfokaoeinpnagaaGreat.B
def Dg (kind:Int) (d:ByteArray):Bool:=decide (d.size ≤ 65535) && (decide ((GD d 0 d.size kind).2 = 0) && decide ((GD d 0 d.size kind).1 = d))
theorem CU {kind:Int} {d:ByteArray}:Dg kind d = true ↔ d.size ≤ 65535 ∧ GD d 0 d.size kind = (d,0):=by
 unfold Dg
 simp only [aiw,aiG]
 constructor
 ·rintro ⟨h1,h2,h3⟩;exact ⟨h1,Prod.ext h3 h2⟩
 ·rintro ⟨h1,h2⟩;rw [h2];exact ⟨h1,rfl,rfl⟩
theorem Ba (k:Nat) (hk:K0 + 10 ≤ k) (kind:Int) (d:ByteArray):iU.f k kind d = some (Dg kind d):=by
 unfold iU.f Dg
 by_cases h:(d.size:Int) > 65535
 ·rw [ail h,air (by omega)];rfl
 ·rw [ain h,WW k hk d 0 _ kind (by omega),aip (by omega),Bool.true_and]
  simp only [Option.bind_some]
  by_cases h0:(GD d 0 d.size kind).2 = 0
  ·rw [ail h0,aip h0,Gv,Bool.true_and]
  ·rw [ain h0,air h0,Bool.false_and]
theorem GH (d:ByteArray):iG d 0 d.size:=⟨ajg _,by omega,by omega⟩
theorem Kk {x d:ByteArray} (h:zN x = (d,0)):x = d ∧ x.size ≤ 65535:=by
 unfold zN at h
 split at h
 ·have:=aiK Prod.snd h;cases this
 ·exact ⟨aiK Prod.fst h,by omega⟩
theorem yU {kind:Int} {d:ByteArray} {s:Int × Int × Int} (h:Dg kind d = true) (hs:aA.Dj kind = some s) :
  ∃ R,s.1 ≤ (d.size:Int) ∧ KH d d.size s.2.1.toNat s.1 [] = some R ∧ R.2 + s.2.2 = d.size ∧ d = d.extract 0 s.1.toNat ++ strings_Join.cat R.1 ++ d.extract R.2.toNat d.size ∧ s.1 ≤ R.2 ∧ R.2 ≤ (d.size:Int) ∧ R.1.length = s.2.1.toNat ∧ (∀ x ∈ R.1,jJ x = true) ∧ R.2 = s.1 + (strings_Join.cat R.1).size:=by
 obtain ⟨h0,h1⟩:=CU.mp h
 unfold GD RZ at h1
 rw [ail (GH d),hs] at h1
 simp only [Int.zero_add,Int.toNat_natCast] at h1
 obtain ⟨a1,a2,a3,a4,a5,a6,a7,a8⟩:=qE hs
 by_cases c:s.1 ≤ (d.size:Int)
 ·rw [ail c] at h1
  cases hr:KH d d.size s.2.1.toNat s.1 [] with
  | none=>rw [hr] at h1;have:=aiK Prod.snd h1;cases this
  | some R =>
   rw [hr] at h1
   simp only at h1
   by_cases e:R.2 + s.2.2 = d.size
   ·rw [ail e] at h1
    obtain ⟨h2,_⟩:=Kk h1
    obtain ⟨b1,b2,b3,l',b4,b5⟩:=qD d _ (by omega) _ _ _ R hr c
    rw [List.nil_append] at b4
    rw [← b4] at b5
    have hz:=aiK ByteArray.size h2
    simp only [aiT,aiW] at hz
    refine ⟨R,c,rfl,e,h2.symm,b1,b2,by rw [b3];simp,b5,?_⟩
    simp only [show (0:Int).toNat = 0 from rfl] at hz
    omega
   ·rw [ain e] at h1;have:=aiK Prod.snd h1;cases this
 ·rw [ain c] at h1;have:=aiK Prod.snd h1;cases this
def prt (kind:Int) (d:ByteArray):ByteArray × ByteArray × List ByteArray × Bool :=
 if Dg kind d = true then (match aA.Dj kind with
  | some s=>(match KH d d.size s.2.1.toNat s.1 [] with
   | some R=>(d.extract 0 s.1.toNat,d.extract R.2.toNat d.size,R.1,true)
   | none=>(⟨#[]⟩,⟨#[]⟩,[],false))
  | none=>(d,⟨#[]⟩,[],true)) else (⟨#[]⟩,⟨#[]⟩,[],false)
theorem wD (k:Nat) (hk:K0 + 20 ≤ k) (d:ByteArray) (hd:d.size ≤ 65535) (s0 s1 s2:Int) (a1:0 ≤ s0) (a3:0 ≤ s1) (a4:s1 ≤ 2) (a5:0 ≤ s2) (a6:s2 ≤ 20) (R:List ByteArray × Int) (c1:s0 ≤ (d.size:Int)) (c2:KH d d.size s1.toNat s0 [] = some R) (c3:R.2 + s2 = d.size) :
  bN.f k d 0 (d.size:Int) s0 s1 s2 = some (d.extract 0 s0.toNat,d.extract R.2.toNat d.size,R.1,true):=by
 unfold bN.f
 have e2:wrap64 ((d.size:Int) - 0) = d.size:=by rw [jQ (by omega) (by omega)];omega
 have e3:wrap64 (0 + s0) = s0:=by rw [jQ (by omega) (by omega)];omega
 obtain ⟨b1,b2,_⟩:=qD d _ (by omega) _ _ _ R c2 c1
 have hz:((d.extract R.2.toNat d.size).size:Int) = s2:=by rw [aiW];omega
 obtain ⟨k,rfl⟩:∃ j,k = j + 1:=⟨k - 1,by omega⟩
 have h:=CS d d.size s0 s1 s2 (d.extract 0 s0.toNat) ⟨#[]⟩ (by omega) (ajg _) ⟨a5,by omega⟩ s1 (by omega) s1.toNat k s0 0 [] (by omega) (by omega) (ajg _) a1 c1 (by simp only [List.length_nil];omega)
 rw [c2] at h
 simp only [Int.toNat_natCast] at h
 rw [show (((d.extract R.2.toNat d.size).size:Int) == s2) = true from aiY.mpr hz] at h
 rw [e2,ail c1,ail (ajg _),e3,ail a1,ail c1]
 exact h
theorem Bb (k:Nat) (hk:K0 + 20 ≤ k) (kind:Int) (d:ByteArray):bS.f k kind d = some (prt kind d):=by
 unfold bS.f prt
 rw [Ba k (by omega)]
 simp only [Option.bind_some]
 by_cases h:Dg kind d = true
 ·rw [ail h,ail h]
  cases hs:aA.Dj kind with
  | none=>rfl
  | some s =>
   obtain ⟨R,c1,c2,c3,c4,c5,c6,c7,c8,c9⟩:=yU h hs
   obtain ⟨a1,a2,a3,a4,a5,a6,a7,a8⟩:=qE hs
   obtain ⟨h0,_⟩:=CU.mp h
   obtain ⟨s0,s1,s2⟩:=s
   simp only at a1 a2 a3 a4 a5 a6 c1 c2 c3 c5
   simp only [c2]
   exact wD k hk d h0 s0 s1 s2 a1 a3 a4 a5 a6 R c1 c2 c3
 ·rw [ain h,ain h]
theorem Oq (k:Nat) (hk:K0 + 20 ≤ k) (kind:Int) (d:ByteArray):mO.f k kind d = some (prt kind d).2.2.1:=by
 unfold mO.f;rw [Bb k hk];rfl
theorem u6 {kind:Int} {d:ByteArray}:(∀ x ∈ (prt kind d).2.2.1,jJ x = true) ∧ (prt kind d).2.2.1.length ≤ 2:=by
 unfold prt
 by_cases h:Dg kind d = true
 ·rw [ail h]
  cases hs:aA.Dj kind with
  | none=>exact ⟨by simp,by simp⟩
  | some s =>
   obtain ⟨R,c1,c2,c3,c4,c5,c6,c7,c8,c9⟩:=yU h hs
   obtain ⟨a1,a2,a3,a4,a5,a6,a7,a8⟩:=qE hs
   simp only [c2]
   exact ⟨c8,by omega⟩
 ·rw [ain h];exact ⟨by simp,by simp⟩
theorem vS (k:Nat) (hk:600 ≤ k) (n:ByteArray) (hs:n.size ≤ 1000000000):mK.f k n = some (if jJ n = true then qL n else ⟨#[]⟩):=by
 unfold mK.f
 rw [yL k hk n hs,WJ n hs]
 simp only [Option.bind_some]
 split <;> rfl
theorem GI (k:Nat) (hk:600 ≤ k) (n:ByteArray) (hs:n.size ≤ 1000000000):gG.f k n = some (if jJ n = true then qL n else ⟨#[]⟩):=by
 unfold gG.f
 rw [CO k hk n hs,NW n hs]
 simp only [Option.bind_some]
 split <;> rfl
theorem all_eq (k:Nat) (hk:600 ≤ k):∀ l:List ByteArray,(∀ x ∈ l,jJ x = true) → eG.all k l = some (l.map qL)
 | [],_=>rfl
 | x :: l,h=>by
  have hx:=h x (by simp)
  have hz:=ES hx
  rw [eG.all,vS k hk x (by omega),ail hx]
  simp only [Option.bind_some]
  rw [all_eq k hk l (fun y hy=>h y (by simp [hy]))]
  rfl
theorem ug : ∀ l:List ByteArray,(strings_Join.cat (l.map qL)).size = (strings_Join.cat l).size
 | []=>rfl
 | x :: l=>by rw [aiy,strings_Join.cat,strings_Join.cat,aiT,aiT,AX,ug l]
def lw (kind:Int) (d:ByteArray):ByteArray:=(prt kind d).1 ++ strings_Join.cat ((prt kind d).2.2.1.map qL) ++ (prt kind d).2.1
theorem Kl {kind:Int} {d:ByteArray}:(prt kind d).1.size ≤ 65535 ∧ (prt kind d).2.1.size ≤ 65535:=by
 unfold prt
 by_cases h:Dg kind d = true
 ·obtain ⟨h0,_⟩:=CU.mp h
  rw [ail h]
  cases hs:aA.Dj kind with
  | none=>exact ⟨h0,by show (⟨#[]⟩:ByteArray).size ≤ 65535;decide⟩
  | some s =>
   obtain ⟨R,c1,c2,_⟩:=yU h hs
   simp only [c2]
   simp only [aiW]
   omega
 ·rw [ain h];exact ⟨by decide,by decide⟩
theorem R3 (k:Nat) (hk:K0 + 20 ≤ k) (kind:Int) (d:ByteArray):eG.f k kind d = some (lw kind d):=by
 obtain ⟨p1,p2⟩:=@u6 kind d
 obtain ⟨p3,p4⟩:=@Kl kind d
 have hcz:=yT p1
 unfold eG.f
 rw [Bb k hk]
 simp only [Option.bind_some]
 rw [all_eq k (by unfold K0 at hk;omega) _ p1]
 simp only [Option.bind_some]
 unfold eG.fin lw
 rw [ail (by rw [ug];omega),ail (by rw [aio];omega)]
end
end Go.Proofs.YtfokaoeinpnagaaGreat.ZQ
namespace Go.Proofs.YtfokaoeinpnagaaGreat.Ev
section
open Go Go.RowKit
structure Old (w w':World):Prop where
 os:w'.os = w.os
 output:w'.output = w.output
 size:w.heap.size ≤ w'.heap.size
 block:∀ k,k < w.heap.size → w'.heap[k]? = w.heap[k]?
theorem Old.frame {W w':World} (h:Old W w') (may:MemPlace → Prop):W.keptBut w' may:=by
 refine ⟨h.os,h.output,fun i hi=>?_⟩
 rw [h.block i hi]
 split <;> simp_all
theorem Old.same {W w':World} (h:Old W w') {p:MemPlace} (hp:p.block < W.heap.size):W.sameAt w' p:=by
 cases p with
 | cell b o=>exact World.cell?_of_block (w:=W) (h.block b hp)
 | map b=>exact h.block b hp
theorem Old.trod {H:Type} {enc:TypeId × Value → H} {P:Program} {t:TypeId} (hl:laidOutB P = true) (hr:P.readableRec t = true) (hrow:t < P.types.size) {W W':World} {v:Value} {d:DataW H} {ps:List MemPlace}
  (h:DataW.Trod enc P W 0 (fun _=>true) true t v d ps) (hb:Old W W') (hlt:∀ x ∈ ps,x.block < W.heap.size):DataW.Trod enc P W' 0 (fun b=>decide (b < W.heap.size)) true t v d ps :=
 WideElems.Trod_stays hl hr hrow h (fun x hx=>hb.same (hlt x hx)) (fun x hx=>by simpa using hlt x hx)
theorem Ku {P:Program} {Γ:Env} (kJ:gW P Γ) {f:FuncId} {d9 pq:List AV} {b:Bool} {vals:List Value} {W:World} (h:Γ f d9 = some ([.one (.f (.bool b))],pq)) (ha:fB (fun k=>k < W.heap.size) W d9 vals []) :
  Calls P f vals.toArray W fun e W'=>e = .returned (.bool b) ∧ Old W W':=by
 refine (kJ f d9 _ _ h (fun k=>k < W.heap.size) W vals [] ha ajY (by simp) (fun _ h=>h)).mono fun e w' ⟨bA,sN,b1,b2,he,hp⟩=>?_
 refine ⟨?_,hp.kp.1,hp.kp.2,hp.big,fun k hk=>hp.ext k hk (by simp)⟩
 match sN,hp.rs with
 | [v],⟨c1,c2,h1,h2,h3⟩=>rw [he,show v = .bool b from h1.1];rfl
def GU (P:Program) {α:Type} (T:TypeId) (f:α → List FV) (G:α → Prop):Prop :=
 ∀ {H:Type} (enc:TypeId × Value → H) (w:World) (spare:Nat → Bool) (held:Bool) (fuel:Nat) (cs:List Value) (x:DataW H × List MemPlace),
  DataW.trod enc P w 0 spare held fuel T cs = some x → (∀ n ∈ x.1.weights P T,n ≤ reachBytes) → ∃ a:α,bW (fun k=>k < w.heap.size) w (f a) cs ∧ G a
section
variable {P : Program}
theorem oG {k:IntKind} {T:TypeId} (h:P.underlying T = some (.int k)):GU P T (fun n=>[FV.int k n]) (fun n=>(Lit.int k n).wf = true):=by
 intro H enc w spare held fuel cs x hx _
 obtain ⟨n,rfl,rfl,hw⟩:=DataW.trod_int h hx
 exact ⟨n,⟨by simp only [fu],trivial⟩,hw⟩
theorem Jf {T:TypeId} (h:P.underlying T = some .string):GU P T (fun s=>[FV.str s]) (fun s=>s.size ≤ 140737488351232):=by
 intro H enc w spare held fuel cs x hx hz
 obtain ⟨s,rfl,rfl,hw⟩:=DataW.trod_string h hx
 refine ⟨s,⟨by simp only [fu],trivial⟩,?_⟩
 have:=hz s.data.toList.length (by simp [DataW.weights])
 rw [Array.length_toList] at this
 exact this
theorem nS {H:Type} {e:TypeId}:∀ {ds:List (DataW H)} {i:Nat} {d:DataW H},ds[i]? = some d → ∀ n ∈ d.weights P e,n ∈ DataW.weightsAll P e ds
 | [],i,d,h,_,_=>by simp at h
 | d0 :: ds,0,d,h,n,hn=>by
  simp at h;subst h
  exact aiN.mpr (.inl hn)
 | d0 :: ds,i + 1,d,h,n,hn=>by
  simp at h
  exact aiN.mpr (.inr (nS h n hn))
theorem vU {H:Type} {ts:List TypeId} {ds:List (DataW H)} (h:(DataW.weightsEach P ts ds).all (· ≤ reachBytes) = true) {j:Nat} {t:TypeId} {d:DataW H} (ht:ts[j]? = some t) (hd:ds[j]? = some d) :
  ∀ n ∈ d.weights P t,n ≤ reachBytes:=fun n hn=>by
 have:=aiA.1 h n (DataW.weights_mem_each ht hd n hn)
 simpa using this
theorem uq {α:Type} {Q:Nat → α → Prop}:∀ n,(∀ i,i < n → ∃ y,Q i y) → ∃ ys:List α,ys.length = n ∧ ∀ i y,ys[i]? = some y → Q i y
 | 0,_=>⟨[],rfl,by simp⟩
 | n + 1,h=>by
  obtain ⟨ys,hl,hq⟩:=uq n (fun i hi=>h i (by omega))
  obtain ⟨y,hy⟩:=h n (by omega)
  refine ⟨ys ++ [y],by simp [hl],fun i z hz=>?_⟩
  by_cases hi:i < n
  ·rw [ajK (by omega)] at hz
   exact hq i z hz
  ·have hlt:=(ajb.1 hz).1
   simp only [aiv,List.length_singleton] at hlt
   obtain rfl:i = n:=by omega
   rw [aj2 (by omega),hl,Nat.sub_self] at hz
   simp at hz
   subst hz
   exact hy
theorem Bg {Fz:Nat → Prop} {w:World} {b:Nat}:∀ (xs:List FV) (cs:List Value) (o:Nat),bW Fz w xs cs → (∀ i u,cs[i]? = some u → w.cell? ⟨b,o + i,none⟩ = some u) → dZ Fz w b o xs
 | [],_,_,_,_=>by simp only [dZ]
 | x :: xs,[],_,h,_=>h.elim
 | x :: xs,c :: cs,o,h,hc=>by
  simp only [dZ]
  exact ⟨⟨c,hc 0 c rfl,h.1⟩,Bg xs cs (o + 1) h.2 fun i u hi=>by rw [show o + 1 + i = o + (i + 1) from by omega];exact hc (i + 1) u hi⟩
theorem y8 {Fz:Nat → Prop} {w:World} {sz b:Nat} {α:Type} {f:α → List FV} (hf:∀ a,(f a).length = sz):∀ (l:List α) (o:Nat),(∀ i y,l[i]? = some y → dZ Fz w b (o + i * sz) (f y)) → cK Fz w sz b o (l.map f)
 | [],_,_=>by simp only [aiF,cK]
 | y :: l,o,h=>by
  simp only [aiy,cK]
  refine ⟨hf y,by simpa using h 0 y rfl,y8 hf l (o + sz) fun i z hz=>?_⟩
  rw [show o + sz + i * sz = o + (i + 1) * sz from by rw [Nat.add_mul];omega]
  exact h (i + 1) z hz
theorem Kv (a:Addr) (x y:Nat):(a.add x).add y = a.add (x + y):=by
 unfold Addr.add
 by_cases hx:x = 0
 ·subst hx;simp
 ·by_cases hy:y = 0
  ·subst hy;simp [hx]
  ·simp [hx,hy,Nat.add_assoc]
theorem y9 {w:World} {a:Addr} {u:Value} (h:w.cell? a = some u):a = ⟨a.block,a.off,none⟩ ∧ a.block < w.heap.size:=by
 unfold World.cell? at h
 split at h
 ·rename_i c _ _ hb
  split at h
  ·cases h
  ·rename_i hs
   obtain ⟨b,o,s⟩:=a
   cases s with
   | none=>exact ⟨rfl,by have:=(ajp.mp hb).1;exact this⟩
   | some s=>simp at hs
 ·cases h
theorem Bh {α:Type} {f:α → List FV} {T e:TypeId} {G:α → Prop} (sz:Nat) (h:P.underlying T = some (.slice e)) (hc:P.cellsOf e = sz) (h0:0 < sz) (hf:∀ a,(f a).length = sz) (hby:decide (1 ≤ P.bytesOf e) = true) (hd:GU P e f G) :
  GU P T (fun l:List α=>[FV.sl (l.map f)]) (fun l=>l.length ≤ 140737488351232 ∧ ∀ x ∈ l,G x):=by
 intro H enc w spare held fuel cs x hx hz
 rcases DataW.trod_slice h hx with ⟨rfl,rfl⟩ | ⟨a,len,cap,elems,rest,n,_,rfl,rfl,hb,hl,hm,hlen,hel,_,_⟩
 ·refine ⟨[],⟨?_,trivial⟩,by simp⟩
  simp only [fu]
  exact ⟨none,0,rfl,aiq _,by simp,.inl rfl⟩
 ·have hw:∀ m ∈ (elems.length + rest.length) * P.bytesOf e :: (DataW.weightsAll P e (elems.map (·.1)) ++ DataW.weightsAll P e (rest.map (·.1))),m ≤ reachBytes:=by
   intro m hm'
   refine hz m ?_
   simp only [DataW.weights,h,aio]
   exact hm'
  obtain ⟨ys,hyl,hys⟩:=uq (α:=α) (Q:=fun i y=>∃ c,w.cells? 0 (a.add (i * P.cellsOf e)) (P.cellsOf e) = some c ∧ bW (fun k=>k < w.heap.size) w (f y) c ∧ G y) len (fun i hi=>by
   have h1:=hel i hi
   rw [aiB (by omega),Option.bind_eq_some_iff] at h1
   obtain ⟨c,hc1,hc2⟩:=h1
   obtain ⟨y,hy,hg⟩:=hd enc w spare held n c _ hc2 (fun m hm'=>by
    refine hw m (ajd _ (aiN.mpr (.inl ?_)))
    exact nS (i:=i) (d:=(elems[i]'(by omega)).1) (by rw [ait,aiB (by omega)];rfl) m hm')
   exact ⟨y,c,hc1,hy,hg⟩)
  have hlen1:(elems.length + rest.length) * P.bytesOf e ≤ reachBytes:=hw _ (by simp)
  have hlm:cap ≤ 9223372036854775807:=by unfold maxLen at hm;omega
  refine ⟨ys,⟨?_,trivial⟩,?_,?_⟩
  ·simp only [fu,aio]
   refine ⟨some a,cap,by rw [hyl],by omega,by omega,?_⟩
   cases hy0:ys with
   | nil=>exact .inl rfl
   | cons y0 ys0 =>
    right
    obtain ⟨c0,k0,_,_⟩:=hys 0 y0 (by rw [hy0];rfl)
    rw [hc] at k0
    obtain ⟨_,kl,kc⟩:=World.cells?_some k0
    have k1:=kc 0 h0
    rw [aiB (by omega)] at k1
    obtain ⟨ea,eb⟩:=y9 k1
    have ea0:(a.add (0 * sz)).add 0 = a:=by simp [Addr.add]
    rw [ea0] at ea eb
    refine ⟨a.block,a.off,sz,aiK some ea,eb,?_⟩
    rw [← hy0]
    refine y8 hf ys a.off fun i y hi=>?_
    obtain ⟨c,hc1,hk,_⟩:=hys i y hi
    rw [hc] at hc1
    obtain ⟨_,hcl,hcc⟩:=World.cells?_some hc1
    refine Bg _ c _ hk fun j u hj=>?_
    have hj':j < sz:=by have:=(ajb.1 hj).1;omega
    have:=hcc j hj'
    rw [Kv,hj] at this
    obtain ⟨e1,_⟩:=y9 this
    rw [e1] at this
    have e2:a.add (i * sz + j) = ⟨a.block,a.off + i * sz + j,none⟩:=by
     rw [ea];unfold Addr.add;split
     ·rename_i hz;congr 1;simp only;omega
     ·congr 1;simp only;omega
    rw [e2] at this
    exact this
  ·rw [hyl,← hlen]
   have h1:elems.length * P.bytesOf e ≤ (elems.length + rest.length) * P.bytesOf e:=ajP _ (by omega)
   have h2:reachBytes = 140737488351232:=rfl
   have h3:elems.length * 1 ≤ elems.length * P.bytesOf e:=Nat.mul_le_mul_left _ (aiI hby)
   omega
  ·intro y hy
   obtain ⟨i,hi,rfl⟩:=List.mem_iff_getElem.1 hy
   obtain ⟨_,_,_,hg⟩:=hys i _ (aiB hi)
   exact hg
def Sm (P:Program) {α:Type} (sz:Nat) (f:α → List FV) (fs:List (TypeId × Nat)) (off:Nat) (G:α → Prop):Prop :=
 ∀ {H:Type} (enc:TypeId × Value → H) (w:World) (spare:Nat → Bool) (held:Bool) (n:Nat) (cs:List Value) (xs:List (DataW H × List MemPlace)),
  (∀ (i:Nat) (f:TypeId × Nat),fs[i]? = some f → DataW.trod enc P w 0 spare held n f.1 ((cs.drop f.2).take (P.cellsOf f.1)) = xs[i]?) → xs.length = fs.length →
  (∀ (i:Nat) (x:DataW H × List MemPlace) (f:TypeId × Nat),xs[i]? = some x → fs[i]? = some f → ∀ m ∈ x.1.weights P f.1,m ≤ reachBytes) → cs.length = off + sz → ∃ a,bW (fun k=>k < w.heap.size) w (f a) (cs.drop off) ∧ G a
theorem qF {α:Type} {sz:Nat} {f:α → List FV} {t:TypeId} {off:Nat} {G:α → Prop} (hd:GU P t f G) (hc:P.cellsOf t = sz):Sm P sz f [(t,off)] off G:=by
 intro H enc w spare held n cs xs hf hl hw hn
 match xs,hl with
 | [y],_ =>
  have h1:=hf 0 _ rfl
  have h2:(cs.drop off).take (P.cellsOf t) = cs.drop off:=ajX (by rw [aiR];omega)
  rw [h2] at h1
  exact hd enc w spare held n _ y h1 (hw 0 y _ rfl rfl)
theorem Bj {Fz:Nat → Prop} {w:World}:∀ {xs ys:List FV} {cs ds:List Value},bW Fz w xs cs → bW Fz w ys ds → bW Fz w (xs ++ ys) (cs ++ ds)
 | [],_,[],_,_,h=>h
 | [],_,_ :: _,_,h,_=>h.elim
 | _ :: _,_,[],_,h,_=>h.elim
 | x :: xs,ys,c :: cs,ds,h,k=>⟨h.1,Bj h.2 k⟩
theorem jf {α β:Type} {sz sz':Nat} {f:α → List FV} {g:β → List FV} {t:TypeId} {fs:List (TypeId × Nat)} {off:Nat} {G:α → Prop} {G':β → Prop} (hd:GU P t f G) (hc:P.cellsOf t = sz)
  (hr:Sm P sz' g fs (off + sz) G'):Sm P (sz + sz') (fun p:α × β=>f p.1 ++ g p.2) ((t,off) :: fs) off (fun p=>G p.1 ∧ G' p.2):=by
 intro H enc w spare held n cs xs hf hl hw hn
 match xs,hl with
 | y :: ys,hl =>
  have h1:=hf 0 _ rfl
  obtain ⟨a,ha,ga⟩:=hd enc w spare held n _ y h1 (hw 0 y _ rfl rfl)
  obtain ⟨b,hb,gb⟩:=hr enc w spare held n cs ys (fun i f hi=>hf (i + 1) f hi) (by simpa using hl) (fun i x f hx hfi=>hw (i + 1) x f hx hfi) (by omega)
  refine ⟨(a,b),?_,ga,gb⟩
  have e:cs.drop off = (cs.drop off).take (P.cellsOf t) ++ cs.drop (off + sz):=by rw [← List.drop_drop,hc,aj8]
  rw [e]
  exact Bj ha hb
theorem oH {α:Type} {sz:Nat} {f:α → List FV} {T:TypeId} {fs:Array Field} {G:α → Prop} (h:P.underlying T = some (.struct fs)) (hc:P.cellsOf T = sz)
  (hd:Sm P sz f (fs.toList.map fun f=>(f.type,f.offset)) 0 G):GU P T f G:=by
 intro H enc w spare held fuel cs x hx hz
 obtain ⟨xs,n,_,rfl,hl,hlen,hf⟩:=DataW.trod_struct h hx
 have hd':=hd enc w spare held n cs xs ?_ (by rw [aio,Array.length_toList];exact hlen) ?_ (by rw [aiP,← hc];exact hl)
 ·obtain ⟨a,ha,ga⟩:=hd'
  exact ⟨a,by simpa using ha,ga⟩
 ·intro i f hi
  rw [ait,ajS] at hi
  obtain ⟨f',hf',rfl⟩:=hi
  exact hf i f' (by rw [← ajy];exact hf')
 ·intro i x f hxi hfi m hm
  refine hz m ?_
  simp only [DataW.weights,h]
  refine DataW.weights_mem_each (j:=i) (t:=f.1) (d:=x.1) ?_ ?_ m hm
  ·rw [ait] at hfi ⊢
   rw [ajS] at hfi ⊢
   obtain ⟨f',hf',rfl⟩:=hfi
   exact ⟨f',hf',rfl⟩
  ·rw [ait,hxi];rfl
theorem uw {α β:Type} {T:TypeId} {f:α → List FV} {f':β → List FV} {G:α → Prop} {G':β → Prop} (g:α → β) (hg:∀ a,f' (g a) = f a) (hG:∀ a,G a → G' (g a)) (hd:GU P T f G):GU P T f' G':=by
 intro H enc w spare held fuel cs x hx hz
 obtain ⟨a,ha,ga⟩:=hd enc w spare held fuel cs x hx hz
 exact ⟨g a,by rw [hg];exact ha,hG a ga⟩
theorem pX {w:World} {r:Reach} {base:Nat} {t:TypeId} {fs:Array Field} {v:Value} (ht:P.underlying t = some (.struct fs)) (h:Value.okWide P w r base t v):∃ cs,v = .agg cs:=by
 simp only [Value.okWide,ht] at h
 obtain ⟨cs,h1,_⟩:=h
 exact ⟨cs,h1⟩
theorem Fb {Fz:Nat → Prop} {w:World}:∀ {xs:List FV} {cs:List Value},bW Fz w xs cs → kI Fz w (xs.map .f) cs []
 | [],[],_=>rfl
 | [],_ :: _,h=>h.elim
 | _ :: _,[],h=>h.elim
 | x :: xs,c :: cs,h=>⟨[],[],⟨h.1,rfl⟩,Fb h.2,rfl⟩
theorem Fe {Fz:Nat → Prop} {w:World} {xs:List FV} {cs:Array Value} (h:bW Fz w xs cs.toList):oL Fz w (.agg (xs.map .f)) (.agg cs) []:=⟨cs,rfl,Fb h⟩
theorem ze {Fz:Nat → Prop} {w:World} {x:AV} {v:Value} {xs:List AV} {vs:List Value} (h:oL Fz w x v []) (k:fB Fz w xs vs []):fB Fz w (x :: xs) (v :: vs) []:=⟨[],[],h,k,rfl⟩
theorem Kw {Fz:Nat → Prop} {w:World}:fB Fz w [] [] []:=rfl
end
end
section
open Go
attribute [go_sem ↓] FR LV uK FT FU
attribute [go_sem] gI
attribute [go_sem ↓] PS LW Ve
section
variable {α β:Type} {k:α → Prop} {u:Tok k}
@[go_sem ↓] theorem aed {c:Prop} [Decidable c] {a b:Option α}:W k u (if c then a else b) ↔ (c → W k u a) ∧ (¬ c → W k u b):=Za
end
def JA : CV → Option (Nat × Nat)
 | .one (.ptr k o)=>some (k,o)
 | _=>none
def qJ : CV → Option ByteArray
 | .one (.f (.str s))=>some s
 | _=>none
def LY : CV → Option (List PL)
 | .agg l=>some l
 | _=>none
def Vf : PV → Option (List CV)
 | .uy l=>some l
 | _=>none
@[go_sem] theorem Zc {l:List CV}:Vf (.uy l) = some l:=rfl
def fav (off:Nat):CV → Option CV
 | .one (.ptr key o)=>some (.one (.ptr key (o + off)))
 | .one (.fp cs)=>some (.one (.fp (cs.drop off)))
 | .one (.rp key z i o)=>some (.one (.rp key z i (o + off)))
 | _=>none
@[go_sem] theorem abJ {off k o:Nat}:fav off (.one (.ptr k o)) = some (.one (.ptr k (o + off))):=rfl
@[go_sem] theorem aee {off:Nat} {cs:List FV}:fav off (.one (.fp cs)) = some (.one (.fp (cs.drop off))):=rfl
@[go_sem] theorem aef {off k z i o:Nat}:fav off (.one (.rp k z i o)) = some (.one (.rp k z i (o + off))):=rfl
def Vg : CV → Option Bool
 | .one .bP=>some true
 | .one (.f (.sl (_ :: _)))=>some false
 | _=>none
@[go_sem] theorem aeg : Vg (.one .bP) = some true:=rfl
@[go_sem] theorem aeh {r:List FV} {l:List (List FV)}:Vg (.one (.f (.sl (r :: l)))) = some false:=rfl
section
variable {α : Type}
@[go_sem] theorem get_nil {i:Nat}:get ([]:List (Nat × α)) i = none:=rfl
@[go_sem] theorem Zd {k:Nat} {v:α} {l:List (Nat × α)} {i:Nat}:get ((k,v) :: l) i = if k = i then some v else get l i:=rfl
@[go_sem] theorem abK {i:Nat}:rem ([]:List (Nat × α)) i = []:=rfl
@[go_sem] theorem Ze {k:Nat} {v:α} {l:List (Nat × α)} {i:Nat}:rem ((k,v) :: l) i = if k = i then rem l i else (k,v) :: rem l i:=rfl
@[go_sem] theorem abL {i:Nat} {v:α}:put ([]:List (Nat × α)) i v = [(i,v)]:=rfl
@[go_sem] theorem Zf {k:Nat} {w:α} {l:List (Nat × α)} {i:Nat} {v:α}:put ((k,w) :: l) i v = if k = i then (i,v) :: rem l i else (k,w) :: put l i v:=rfl
def LZ (k:Nat) (r:List (Nat × α)):Option α → List (Nat × α)
 | some v=>(k,v) :: r
 | none=>r
@[go_sem] theorem Vh {k:Nat} {v:α} {r:List (Nat × α)}:LZ k r (some v) = (k,v) :: r:=rfl
@[go_sem] theorem Vi {k:Nat} {r:List (Nat × α)}:LZ k r none = r:=rfl
@[go_sem] theorem Zg {l:List (Nat × α)}:pick [] l = []:=rfl
@[go_sem] theorem Xw {k:Nat} {ks:List Nat} {l:List (Nat × α)}:pick (k :: ks) l = LZ k (pick ks l) (get l k):=by
 unfold pick
 rw [List.filterMap_cons]
 cases get l k <;> rfl
end
section
variable {Γ : Env} {F d:Nat} {q:Bool} {σ:St}
section
variable {k : Out × St → Prop} {u:Tok k}
@[go_sem ↓] theorem aei : W k u (ev Γ F .skip σ) ↔ k (.iV,σ):=by simp only [ev];exact gI
@[go_sem ↓] theorem agc {is:List G} {ks:List Nat}:W k u (ev Γ F (.reg is ks) σ) ↔ W (fun s=>W k ⟨⟩ (some (.iV,⟨pick ks s.tm,s.ob⟩))) ⟨⟩ (vW Γ false is σ):=by simp only [ev,dQ,bQ,bq]
@[go_sem ↓] theorem agd {pre:List (G × List Nat)} {lM:List Nat} {jI rest:List G} {ks:List Nat}:W k u (ev Γ F (.qG pre lM jI rest ks) σ) ↔ W (fun s=>W k ⟨⟩ (some (.iV,⟨pick ks s.tm,s.ob⟩))) ⟨⟩ (Xq Γ pre lM jI rest σ):=by simp only [ev,dQ,bQ,bq]
@[go_sem ↓] theorem Zh {gs:List G} {ks lZ:List Nat} {r:St}:kM Γ gs ks lZ σ r [] ↔ True:=aiu
@[go_sem ↓] theorem Xx {gs:List G} {ks lZ:List Nat} {r:St} {o:List Nat} {os:List (List Nat)}:kM Γ gs ks lZ σ r (o :: os) ↔ W (fun s=>W (fun t=>t = r) ⟨⟩ (some (⟨pick ks s.tm,pick lZ s.ob⟩:St))) ⟨⟩ (vW Γ false (o.map fun i=>gs.getD i default) σ) ∧ kM Γ gs ks lZ σ r os:=by
 conv=>lhs;unfold kM
 simp only [dQ,V,aiz,exists_eq_left']
@[go_sem ↓] theorem Zi {gs:List G} {o:List Nat} {os:List (List Nat)} {ks lZ:List Nat}:W k u (ev Γ F (.any gs (o :: os) ks lZ) σ) ↔ W (fun s=>W (fun r=>kM Γ gs ks lZ σ r os ∧ W k ⟨⟩ (some (.iV,r))) ⟨⟩ (some (⟨pick ks s.tm,pick lZ s.ob⟩:St))) ⟨⟩ (vW Γ false (o.map fun i=>gs.getD i default) σ):=by
 simp only [ev,evO,dQ,aK,bI,bq]
@[go_sem ↓] theorem agf {a b:CC}:W k u (ev Γ F (.seq a b) σ) ↔ W (fun p=>match p.1 with
  | .iV=>W k ⟨⟩ (ev Γ F b p.2)
  | o=>k (o,p.2)) ⟨⟩ (ev Γ F a σ):=by
 simp only [ev,dQ,aK]
 refine cB fun p=>?_
 obtain ⟨o,s⟩:=p
 cases o <;> first | rfl | exact bq
@[go_sem ↓] theorem aej {c:dH} {a b:CC}:W k u (ev Γ F (.cond c a b) σ) ↔ W (fun v=>W (fun t=>Br t (fun _=>W k ⟨⟩ (ev Γ F a σ)) (fun _=>W k ⟨⟩ (ev Γ F b σ)) ⟨⟩) ⟨⟩ (bool? v)) ⟨⟩ (val σ c):=by
 simp only [ev,dQ,aK]
 refine cB fun v=>cB fun t=>?_
 cases t <;> simp [Br,dQ]
@[go_sem ↓] theorem abM {id:Nat} {c:CC}:W k u (ev Γ F (.block id c) σ) ↔ W (fun p=>match p.1 with
  | .ext i=>if i = id then k (.iV,p.2) else k (.ext i,p.2)
  | o=>k (o,p.2)) ⟨⟩ (ev Γ F c σ):=by
 simp only [ev,dQ,bQ]
 refine cB fun p=>?_
 obtain ⟨o,s⟩:=p
 cases o with
 | ext i=>by_cases hi:i = id <;> simp [hi]
 | _=>exact aiu
@[go_sem ↓] theorem kQ {keep Bl:List Nat} {rws:List (Nat × Nat)} {c:CC}:W k u (ev Γ F (.loop keep Bl rws c) σ) ↔ W k u (iter (ev Γ F c) (res keep Bl rws) F σ):=by simp only [ev]
@[go_sem ↓] theorem aek {id:Nat}:W k u (ev Γ F (.exit id) σ) ↔ k (.ext id,σ):=by simp only [ev];exact gI
@[go_sem ↓] theorem agh : W k u (ev Γ F .ret σ) ↔ k (.ret,σ):=by simp only [ev];exact gI
end
section
variable {k : St → Prop} {u:Tok k}
@[go_sem ↓] theorem Xy : W k u (vW Γ q [] σ) ↔ k σ:=gI
@[go_sem ↓] theorem Vj {g:G} {l:List G}:W k u (vW Γ q (g :: l) σ) ↔ W (fun s=>W k ⟨⟩ (vW Γ q l s)) ⟨⟩ (OQ Γ q σ g):=by
 show W k u ((OQ Γ q σ g).bind (vW Γ q l)) ↔ _
 rw [FR]
@[go_sem ↓] theorem agi {g:G}:W k u (OQ Γ q σ g) ↔ W (fun p=>W k ⟨⟩ (some (qI p.2 g.dst p.1))) ⟨⟩ (l6 Γ q σ g):=by simp only [OQ,dQ,bQ,bq]
def Vk (f:Nat → Option (PV × St)):List Nat → Prop
 | []=>True
 | j :: l=>W (fun _=>True) ⟨⟩ (f j) ∧ Vk f l
theorem H8 {f:Nat → Option (PV × St)}:∀ {l:List Nat},l.all (fun j=>(f j).isSome) = true ↔ Vk f l
 | []=>by simp [Vk]
 | j :: l=>by
  rw [List.all_cons,aiw,H8 (l:=l)]
  refine and_congr_left fun _=>?_
  cases h:f j with
  | none=>simp [uK]
  | some y=>simp [gI]
@[go_sem ↓] theorem abN {f:Nat → Option (PV × St)}:Vk f [] ↔ True:=aiu
@[go_sem ↓] theorem Zj {f:Nat → Option (PV × St)} {j:Nat} {l:List Nat}:Vk f (j :: l) ↔ W (fun _=>True) ⟨⟩ (f j) ∧ Vk f l:=aiu
def wkv : Option CV → List Nat
 | some (.one (.ptr k _))=>[k]
 | _=>[]
@[go_sem] theorem abO {k o:Nat}:wkv (some (.one (.ptr k o))) = [k]:=rfl
@[go_sem] theorem abP {tm:List (Nat × PV)} {dst:Option Nat} {gd:Option (Option Nat × Bool)} {n:Nat} {x y:dH}:sj tm ⟨dst,gd,.store n x y⟩ = wkv (val ⟨tm,[]⟩ x):=by
 show (match val ⟨tm,[]⟩ x with | some (.one (.ptr k _))=>[k] | _=>[]) = _
 cases val ⟨tm,[]⟩ x with
 | none=>rfl
 | some v=>cases v with
  | one y=>cases y <;> rfl
  | agg _=>rfl
@[go_sem ↓] theorem agj {pre:List (G × List Nat)} {lM:List Nat} {jI rest:List G}:W k u (Xq Γ pre lM jI rest σ) ↔ pre.all (fun g=>!jJ g.1.i || fresh σ (dx (g.1.dst.getD 999))) = true ∧ W (fun s=>W (fun tm=>Vk (fun j=>l6 Γ true ⟨tm,σ.ob.filter (fun p=>!(jI.flatMap (sj tm)).contains p.1)⟩ (pre.getD j default).1) lM ∧ W (fun ob=>W (fun s=>W k ⟨⟩ (vW Γ false rest s)) ⟨⟩ (some ⟨tm,ob⟩)) ⟨⟩ (KP Γ tm jI s.ob)) ⟨⟩ (some (pick (s.tm.map (·.1)) s.tm))) ⟨⟩ (O7 Γ σ.ob pre σ):=by
 simp only [Xq,dQ,aK,bI,bq,← H8]
@[go_sem ↓] theorem Xz {qR:List (Nat × Ob)}:W k u (O7 Γ qR [] σ) ↔ k σ:=gI
@[go_sem ↓] theorem Vl {qR:List (Nat × Ob)} {g:G} {nk:List Nat} {l:List (G × List Nat)}:W k u (O7 Γ qR ((g,nk) :: l) σ) ↔ W (fun p=>nk.any (fun k=>qQ k p.1 || (jJ g.i && (p.2.ob.take 1).any (fun r=>r.1 == k || l5 k r.2))) = false ∧ W (fun s=>W k ⟨⟩ (O7 Γ qR l s)) ⟨⟩ (some ⟨r9 g.dst σ.tm p.1,if jJ g.i then p.2.ob.take 1 ++ σ.ob else σ.ob⟩)) ⟨⟩ (l6 Γ true ⟨σ.tm,qR⟩ g):=by
 conv=>lhs;unfold O7
 simp only [dQ,aK,cO,bq,ajj]
end
section
variable {k : List (Nat × Ob) → Prop} {u:Tok k} {tm:List (Nat × PV)} {ob:List (Nat × Ob)}
@[go_sem ↓] theorem XA : W k u (KP Γ tm [] ob) ↔ k ob:=gI
@[go_sem ↓] theorem Vm {n:Nat} {x y:dH} {dst:Option Nat} {gd:Option (Option Nat × Bool)} {l:List G}:W k u (KP Γ tm (⟨dst,gd,.store n x y⟩ :: l) ob) ↔ W (fun v=>W (fun _=>W (fun p=>W k ⟨⟩ (KP Γ tm l p.2.ob)) ⟨⟩ (bV Γ true ⟨tm,ob⟩ 999 (.store n x y))) ⟨⟩ (JA v)) ⟨⟩ (val ⟨tm,ob⟩ x):=by
 conv=>lhs;unfold KP
 simp only
 cases hv:val ⟨tm,ob⟩ x with
 | none=>simp only [uK]
 | some v =>
  rw [gI]
  cases v with
  | one y=>cases y <;> simp only [JA,dQ,jq,bq,aK]
  | agg xs=>simp only [JA,uK]
end
section
variable {i : Nat}
def vl : Option PV → Option CV
 | some (.c x)=>some x
 | _=>none
@[go_sem] theorem abQ {x:CV}:vl (some (.c x)) = some x:=rfl
@[go_sem] theorem Zk : val σ (.t i) = vl (get σ.tm i):=by simp only [val];cases get σ.tm i with | none=>rfl | some v=>cases v <;> rfl
@[go_sem] theorem agk {x:CV}:val σ (.k x) = some x:=rfl
@[go_sem] theorem ael : rZ σ (.t i) = get σ.tm i:=rfl
@[go_sem] theorem aem {x:CV}:rZ σ (.k x) = some (.c x):=rfl
@[go_sem] theorem Zl {k:IntKind} {n:Int}:int? (.one (.f (.int k n))) = some (k,n):=rfl
@[go_sem] theorem Vn {b:Bool}:bool? (.one (.f (.bool b))) = some b:=rfl
@[go_sem] theorem Zm {k o:Nat}:JA (.one (.ptr k o)) = some (k,o):=rfl
@[go_sem] theorem Zn {s:ByteArray}:qJ (.one (.f (.str s))) = some s:=rfl
@[go_sem] theorem Zo {l:List PL}:LY (.agg l) = some l:=rfl
@[go_sem] theorem cells_one {x:PL}:cells (.one x) = [x]:=rfl
@[go_sem] theorem XB {xs:List PL}:cells (.agg xs) = xs:=rfl
def oc : Option Ob → Option (List PL)
 | some (.eH xs)=>some xs
 | _=>none
def L6 : Option Ob → Option (Nat × List (List FV))
 | some (.row sz rows)=>some (sz,rows)
 | _=>none
def om : Option Ob → Option (KS × List (KV × FC))
 | some (.map sh ents)=>some (sh,ents)
 | _=>none
@[go_sem] theorem aen {xs:List PL}:oc (some (.eH xs)) = some xs:=rfl
@[go_sem] theorem abR {sz:Nat} {rows:List (List FV)}:L6 (some (.row sz rows)) = some (sz,rows):=rfl
@[go_sem] theorem aeo {sh:KS} {ents:List (KV × FC)}:om (some (.map sh ents)) = some (sh,ents):=rfl
def gb (want:Bool):Option PV → Option Bool
 | some (.c (.one (.f (.bool b))))=>some (b == want)
 | some (.c (.one .und))=>some false
 | _=>none
@[go_sem] theorem abS {b:Bool}:gb true (some (.c (.one (.f (.bool b))))) = some b:=by cases b <;> rfl
@[go_sem] theorem Zp {b:Bool}:gb false (some (.c (.one (.f (.bool b))))) = some (!b):=by cases b <;> rfl
@[go_sem] theorem aep {w:Bool}:gb w (some (.c (.one .und))) = some false:=rfl
@[go_sem] theorem XC {v:PV}:qI σ (some i) v = ⟨put σ.tm i v,σ.ob⟩:=rfl
@[go_sem] theorem XD {v:PV}:qI σ none v = σ:=rfl
@[go_sem] theorem XE {tm:List (Nat × PV)} {v:PV}:r9 (some i) tm v = put tm i v:=rfl
@[go_sem] theorem XF {tm:List (Nat × PV)} {v:PV}:r9 none tm v = tm:=rfl
end
section
variable {α : Type} {n off:Nat} {x:α} {xs ys:List α}
@[go_sem] theorem Zq : seg 0 0 xs = some []:=by simp [seg]
@[go_sem] theorem Zr : seg (n + 1) 0 (x :: xs) = (seg n 0 xs).map (x :: ·):=by
 unfold seg
 simp only [aiP,List.length_cons,Nat.add_le_add_iff_right,ajs,List.take_succ_cons]
 split <;> rfl
@[go_sem] theorem Zt : seg n (off + 1) (x :: xs) = seg n off xs:=by
 unfold seg
 simp only [List.length_cons,List.drop_succ_cons]
 by_cases h:off + n ≤ xs.length
 ·rw [ail h,ail (by omega)]
 ·rw [ain h,ain (by omega)]
@[go_sem] theorem abT : lay 0 ([]:List α) xs = some xs:=by simp [lay]
@[go_sem] theorem abU {y:α}:lay 0 (y :: ys) (x :: xs) = (lay 0 ys xs).map (y :: ·):=by
 unfold lay
 simp only [aiP,List.length_cons,Nat.add_le_add_iff_right,List.take_zero,List.drop_succ_cons,List.nil_append,List.cons_append]
 split <;> rfl
@[go_sem] theorem Zu : lay (off + 1) ys (x :: xs) = (lay off ys xs).map (x :: ·):=by
 unfold lay
 simp only [List.length_cons,List.take_succ_cons]
 rw [show off + 1 + ys.length = off + ys.length + 1 from by omega]
 by_cases h:off + ys.length ≤ xs.length
 ·rw [ail h,ail (by omega)];rfl
 ·rw [ain h,ain (by omega)];rfl
end
@[go_sem] theorem aer {xs:List PL}:mk true xs = some (.agg xs):=rfl
@[go_sem] theorem mk_one {x:PL}:mk false [x] = some (.one x):=rfl
def oN (σ:St) (key:Nat):Option (List PL):=oc (get σ.ob key)
def iD (σ:St) (key:Nat):Option (Nat × List (List FV)):=L6 (get σ.ob key)
def nZ (σ:St) (key:Nat):Option (KS × List (KV × FC)):=om (get σ.ob key)
attribute [go_sem] oN iD nZ Option.map_some Option.map_none Option.bind_some Option.bind_none
def kD (σ:St) (n:Nat):CV → Option (List PL)
 | .one (.ptr key off)=>(oN σ key).bind (seg n off)
 | .one (.fp cs)=>(seg n 0 cs).map (·.map .f)
 | .one (.rp key z i off)=>(iD σ key).bind fun p=>if p.1 ≠ z then none else p.2[i]?.bind fun r=>(seg n off r).map (·.map .f)
 | _=>none
@[go_sem ↓] theorem SG {n key off:Nat}:kD σ n (.one (.ptr key off)) = (oN σ key).bind (seg n off):=rfl
@[go_sem] theorem Vo {n:Nat} {cs:List FV}:kD σ n (.one (.fp cs)) = (seg n 0 cs).map (·.map .f):=rfl
section
variable {k : List PL → Prop} {u:Tok k}
@[go_sem ↓] theorem SH {n key off:Nat}:W k u (kD σ n (.one (.ptr key off))) ↔ W (fun xs=>W k ⟨⟩ (seg n off xs)) ⟨⟩ (oN σ key):=FR
@[go_sem ↓] theorem Vp {n:Nat} {cs:List FV}:W k u (kD σ n (.one (.fp cs))) ↔ W (fun l=>k (l.map .f)) ⟨⟩ (seg n 0 cs):=LV
@[go_sem ↓] theorem Vq {n key z i off:Nat}:W k u (kD σ n (.one (.rp key z i off))) ↔ W (fun p=>p.1 = z ∧ W (fun r=>W (fun l=>k (l.map .f)) ⟨⟩ (seg n off r)) ⟨⟩ (p.2[i]?)) ⟨⟩ (iD σ key):=by
 simp only [kD,dQ,aK,bQ,cO,ne_eq,ai3]
end
section
variable {k : PV × St → Prop} {u:Tok k} {x y c:dH}
@[go_sem ↓] theorem aes {dst:Option Nat} {i:I}:W k u (l6 Γ q σ ⟨dst,none,i⟩) ↔ W k u (bV Γ q σ (dst.getD 999) i):=aiu
@[go_sem ↓] theorem XG {dst:Option Nat} {s:Nat} {want:Bool} {i:I}:W k u (l6 Γ q σ ⟨dst,some (some s,want),i⟩) ↔ W (fun w=>Br w (fun _=>W k ⟨⟩ (bV Γ q σ (dst.getD 999) i)) (fun _=>k (.c (.one .und),σ)) ⟨⟩) ⟨⟩ (gb want (get σ.tm s)):=by
 have h:zq σ (some (some s,want)) = gb want (get σ.tm s):=by
  simp only [zq]
  cases get σ.tm s with
  | none=>rfl
  | some v =>
   cases v with
   | uy l=>rfl
   | c x =>
    cases x with
    | agg l=>rfl
    | one p =>
     cases p with
     | f z=>cases z <;> rfl
     | _=>rfl
 simp only [l6,dQ,aK,h]
 refine cB fun t=>?_
 cases t <;> simp [bq,Br,dQ]
@[go_sem ↓] theorem ahZ : W k u (bV Γ q σ d (.mv x)) ↔ W (fun v=>k (v,σ)) ⟨⟩ (rZ σ x):=by simp only [bV];exact LV
@[go_sem ↓] theorem aeu : W k u (bV Γ q σ d (.pick c x y)) ↔ W (fun v=>W (fun t=>Br t (fun _=>W (fun z=>k (.c z,σ)) ⟨⟩ (val σ x)) (fun _=>W (fun z=>k (.c z,σ)) ⟨⟩ (val σ y)) ⟨⟩) ⟨⟩ (bool? v)) ⟨⟩ (val σ c):=by
 simp only [bV,dQ,aK,bQ]
 refine cB fun v=>cB fun t=>?_
 cases t <;> simp [Br,dQ]
@[go_sem ↓] theorem abV {e:TypeId} {z:List PL}:W k u (bV Γ q σ d (.alloc e z)) ↔ z.any (dY (dx d)) = false ∧ W (fun s=>k (.c (.one (.ptr (dx d) 0)),s)) ⟨⟩ (new σ (dx d) (.eH z)):=by
 simp only [bV,dQ,cO,gH,bQ,ajj]
@[go_sem ↓] theorem agl {e:TypeId}:W k u (bV Γ q σ d (.box e x)) ↔ W (fun v=>((cells v).any oU || (cells v).any (dY (dx d))) = false ∧ W (fun s=>k (.c (.one (.ptr (dx d) 0)),s)) ⟨⟩ (new σ (dx d) (.eH (cells v)))) ⟨⟩ (val σ x):=by
 simp only [bV,dQ,aK,cO,gH,bQ,ajj]
@[go_sem ↓] theorem abW {z:List PL} {ps:List (Nat × Nat × dH)}:W k u (bV Γ q σ d (.build z ps)) ↔ W (fun l=>W (fun z=>k (.c (.agg z),σ)) ⟨⟩ (fill z l)) ⟨⟩ (vals σ ps):=by
 simp only [bV,dQ,aK,bQ]
@[go_sem ↓] theorem agm {e:TypeId} {sz len:Nat} {z:List PL} {ps:List (Nat × Nat × dH)}:W k u (bV Γ q σ d (.wK e sz len z ps)) ↔ W (fun l=>W (fun z=>(q && z.any fZ) = false ∧ W (fun p=>W (fun s=>k (.c (.one (.own (dx d) len)),s)) ⟨⟩ (new p.2 (dx d) (.row sz (rowsOf sz len p.1)))) ⟨⟩ (ku σ z)) ⟨⟩ (fill z l)) ⟨⟩ (vals σ ps):=by
 simp only [bV,dQ,aK,cO,gH,bQ,ajj]
@[go_sem ↓] theorem abX {x:PL}:W k u (Dl (.c (.one x)) σ) ↔ W (fun p=>k (.c (.one (.f p.1)),p.2)) ⟨⟩ (vo σ x):=by simp only [Dl,dQ,bQ]
@[go_sem ↓] theorem agn {e:TypeId} {sz len:Nat} {z:List PL} {ps:List (Nat × Nat × dH)}:W k u (bV Γ q σ d (.OP e sz len z ps)) ↔ W (fun l=>W (fun z=>(q && z.any fZ) = false ∧ W (fun p=>W (fun s=>W k ⟨⟩ (Dl (.c (.one (.own (dx d) len))) s)) ⟨⟩ (new p.2 (dx d) (.row sz (rowsOf sz len p.1)))) ⟨⟩ (ku σ z)) ⟨⟩ (fill z l)) ⟨⟩ (vals σ ps):=by
 simp only [bV,dQ,aK,cO,gH,bQ,ajj]
@[go_sem ↓] theorem aev {n:Nat} {agg:Bool}:W k u (bV Γ q σ d (.load n agg x)) ↔ W (fun v=>W (fun l=>W (fun z=>k (.c z,σ)) ⟨⟩ (mk agg l)) ⟨⟩ (kD σ n v)) ⟨⟩ (val σ x):=by
 have h:bV Γ q σ d (.load n agg x) = (val σ x).bind fun v=>(kD σ n v).bind fun l=>(mk agg l).map fun z=>(.c z,σ):=by
  simp only [bV]
  congr 1
  funext v
  cases v with
  | agg l=>rfl
  | one p =>
   cases p with
   | ptr key off=>simp only [kD,oN];cases get σ.ob key with | none=>rfl | some o=>cases o <;> rfl
   | fp cs=>simp only [kD];cases seg n 0 cs <;> rfl
   | rp key z i off =>
    simp only [kD,iD]
    cases get σ.ob key with
    | none=>rfl
    | some o =>
     cases o with
     | row sz rows =>
      simp only [L6,Option.bind_some]
      split
      ·rfl
      ·cases rows[i]? with
       | none=>rfl
       | some r=>simp only [Option.bind_some];cases seg n off r <;> rfl
     | _=>rfl
   | _=>rfl
 rw [h]
 simp only [dQ,aK,bQ]
def D7 (q:Bool) (σ:St) (ys:List PL):CV → Option St
 | .one (.ptr key off)=>(oN σ key).bind fun xs=>(lay off ys xs).map fun l=>jm σ key (.eH l)
 | .one (.rp key z i off)=>if q && ys.any fZ then none else (ku σ ys).bind fun p=>(iD p.2 key).bind fun o=>if o.1 ≠ z then none else o.2[i]?.bind fun r=>(lay off p.1 r).map fun l=>jm p.2 key (.row o.1 (o.2.set i l))
 | _=>none
@[go_sem ↓] theorem abY {n:Nat}:W k u (bV Γ q σ d (.store n x y)) ↔ W (fun v=>W (fun z=>((cells z).length = n ∧ (cells z).any oU = false) ∧ W (fun s=>k (.c (.one .und),s)) ⟨⟩ (D7 q σ (cells z) v)) ⟨⟩ (val σ y)) ⟨⟩ (val σ x):=by
 have h:bV Γ q σ d (.store n x y) = (val σ x).bind fun v=>(val σ y).bind fun z=>if (cells z).length = n ∧ (cells z).any oU = false then (D7 q σ (cells z) v).map fun s=>(.c (.one .und),s) else none:=by
  simp only [bV]
  congr 1
  funext v
  congr 1
  funext z
  split
  ·cases v with
   | agg l=>rfl
   | one p =>
    cases p with
    | ptr key off =>
     simp only [D7,oN]
     cases get σ.ob key with
     | none=>rfl
     | some o=>cases o <;> first | rfl | (simp only [oc,Option.bind_some,Option.map_map];rfl)
    | rp key zz i off =>
     simp only [D7,iD]
     split
     ·rfl
     ·cases ku σ (cells z) with
      | none=>rfl
      | some p =>
       simp only [Option.bind_some]
       cases get p.2.ob key with
       | none=>rfl
       | some o =>
        cases o with
        | row sz rows =>
         simp only [L6,Option.bind_some]
         split
         ·rfl
         ·cases rows[i]? with
          | none=>rfl
          | some r=>simp only [Option.bind_some,Option.map_map];rfl
        | _=>rfl
    | _=>rfl
  ·rfl
 rw [h]
 simp only [dQ,aK,bI,bQ]
end
section
variable {k : St → Prop} {u:Tok k}
@[go_sem ↓] theorem Vr {ys:List PL} {key off:Nat}:W k u (D7 q σ ys (.one (.ptr key off))) ↔ W (fun xs=>W (fun l=>k (jm σ key (.eH l))) ⟨⟩ (lay off ys xs)) ⟨⟩ (oN σ key):=by
 simp only [D7,dQ,aK,bQ]
@[go_sem ↓] theorem XH {ys:List PL} {key z i off:Nat}:W k u (D7 q σ ys (.one (.rp key z i off))) ↔ (q && ys.any fZ) = false ∧ W (fun p=>W (fun o=>o.1 = z ∧ W (fun r=>W (fun l=>k (jm p.2 key (.row o.1 (o.2.set i l)))) ⟨⟩ (lay off p.1 r)) ⟨⟩ (o.2[i]?)) ⟨⟩ (iD p.2 key)) ⟨⟩ (ku σ ys):=by
 simp only [D7,dQ,cO,aK,bQ,ne_eq,ai3,ajj]
end
end
end
section
open Go
section
variable {Γ : Env} {F d:Nat} {q:Bool} {σ:St} {k:PV × St → Prop} {u:Tok k} {x y z:dH}
def PU : CV → Option CV
 | .one (.ptr k o)=>some (.one (.ptr k o))
 | .one (.fp cs)=>some (.one (.fp cs))
 | .one (.rp k z i o)=>some (.one (.rp k z i o))
 | _=>none
@[go_sem] theorem Zv {k o:Nat}:PU (.one (.ptr k o)) = some (.one (.ptr k o)):=rfl
@[go_sem] theorem abZ {cs:List FV}:PU (.one (.fp cs)) = some (.one (.fp cs)):=rfl
@[go_sem] theorem ab0 {k z i o:Nat}:PU (.one (.rp k z i o)) = some (.one (.rp k z i o)):=rfl
@[go_sem ↓] theorem aew : W k u (bV Γ q σ d (.gP x)) ↔ W (fun v=>W (fun w=>k (.c w,σ)) ⟨⟩ (PU v)) ⟨⟩ (val σ x):=by
 simp only [bV,dQ,aK]
 refine cB fun v=>?_
 cases v with
 | agg l=>exact bU
 | one p=>cases p <;> first | exact bU | exact lG aiu
def Zw : CV → Option Bool
 | .one .iI=>some true
 | .one (.ptr _ _)=>some false
 | .one (.fp _)=>some false
 | .one (.rp _ _ _ _)=>some false
 | _=>none
@[go_sem] theorem ab1 : Zw (.one .iI) = some true:=rfl
@[go_sem] theorem ab2 {k o:Nat}:Zw (.one (.ptr k o)) = some false:=rfl
@[go_sem] theorem aex {cs:List FV}:Zw (.one (.fp cs)) = some false:=rfl
@[go_sem] theorem aey {k z i o:Nat}:Zw (.one (.rp k z i o)) = some false:=rfl
@[go_sem ↓] theorem aez {neg:Bool}:W k u (bV Γ q σ d (.wL neg x)) ↔ W (fun v=>W (fun b=>k (.c (.one (.f (.bool (if neg then !b else b)))),σ)) ⟨⟩ (Zw v)) ⟨⟩ (val σ x):=by
 simp only [bV,dQ,aK]
 refine cB fun v=>?_
 cases v with
 | agg l=>exact bU
 | one p=>cases p <;> first | exact bU | (cases neg <;> exact lG aiu)
@[go_sem ↓] theorem ah0 {off:Nat}:W k u (bV Γ q σ d (.fa off x)) ↔ W (fun v=>W (fun w=>k (.c w,σ)) ⟨⟩ (fav off v)) ⟨⟩ (val σ x):=by
 simp only [bV,dQ,aK]
 refine cB fun v=>?_
 cases v with
 | agg l=>exact bU
 | one p=>cases p <;> first | exact bU | exact lG aiu
@[go_sem ↓] theorem ah1 {o:Ar}:W k u (bV Γ q σ d (.ar o x y)) ↔ W (fun a=>W (fun b=>W (fun a=>W (fun b=>a.1 = b.1 ∧ W (fun n=>k (.c (.one (.f (.int a.1 n))),σ)) ⟨⟩ (Ky o a.1 a.2 b.2)) ⟨⟩ (int? b)) ⟨⟩ (int? a)) ⟨⟩ (val σ y)) ⟨⟩ (val σ x):=by
 simp only [bV,dQ,aK,bI,one,bq]
@[go_sem ↓] theorem agp {o:Xk}:W k u (bV Γ q σ d (.cmp o x y)) ↔ W (fun a=>W (fun b=>W (fun a=>W (fun b=>a.1 = b.1 ∧ k (.c (.one (.f (.bool (wR o a.2 b.2)))),σ)) ⟨⟩ (int? b)) ⟨⟩ (int? a)) ⟨⟩ (val σ y)) ⟨⟩ (val σ x):=by
 simp only [bV,dQ,aK,bI,one,bq]
@[go_sem] theorem ab3 {k:IntKind} {a b:Int}:Ky .add k a b = some (k.wrap (a + b)):=rfl
@[go_sem] theorem ab4 {k:IntKind} {a b:Int}:Ky .sub k a b = some (k.wrap (a - b)):=rfl
@[go_sem] theorem ab5 {k:IntKind} {a b:Int}:Ky .mul k a b = some (k.wrap (a * b)):=rfl
section
variable {k : Int → Prop} {u:Tok k} {kk:IntKind} {a b:Int}
@[go_sem ↓] theorem agq : W k u (Ky .quo kk a b) ↔ ¬ b = 0 ∧ k (kk.wrap (a.tdiv b)):=by simp only [Ky,dQ,cO,bq]
@[go_sem ↓] theorem agr : W k u (Ky .rem kk a b) ↔ ¬ b = 0 ∧ k (a.tmod b):=by simp only [Ky,dQ,cO,bq]
end
section
variable {a b:Int}
@[go_sem] theorem ab6 : wR .eq a b = decide (a = b):=rfl
@[go_sem] theorem ab7 : wR .ne a b = !decide (a = b):=rfl
@[go_sem] theorem ab8 : wR .lt a b = decide (a < b):=rfl
@[go_sem] theorem ab9 : wR .le a b = decide (a ≤ b):=rfl
@[go_sem] theorem acd : wR .gt a b = decide (b < a):=rfl
@[go_sem] theorem ace : wR .ge a b = decide (b ≤ a):=rfl
end
@[go_sem ↓] theorem ags {sh:KS} {neg:Bool}:W k u (bV Γ q σ d (.q9 sh neg x y)) ↔ W (fun a=>W (fun b=>W (fun a=>W (fun b=>(a.ks = sh ∧ b.ks = sh) ∧ k (.c (.one (.f (.bool (if neg then !decide (a = b) else decide (a = b))))),σ)) ⟨⟩ (keyOf b)) ⟨⟩ (keyOf a)) ⟨⟩ (val σ y)) ⟨⟩ (val σ x):=by
 simp only [bV,dQ,aK,bI,one,bq]
@[go_sem ↓] theorem agt : W k u (bV Γ q σ d (.cat x y)) ↔ W (fun a=>W (fun b=>W (fun a=>W (fun b=>a.size + b.size ≤ 9223372036854775807 ∧ k (.c (.one (.f (.str (a ++ b)))),σ)) ⟨⟩ (qJ b)) ⟨⟩ (qJ a)) ⟨⟩ (val σ y)) ⟨⟩ (val σ x):=by
 simp only [bV,dQ,aK]
 refine cB fun v=>cB fun w=>?_
 have no:V k none ↔ False:=jq
 have nb:∀ {g:ByteArray → Prop},V g none ↔ False:=jq
 have nn:∀ {x:Option ByteArray},V (fun _:ByteArray=>False) x ↔ False:=by intro x;cases x <;> simp [V]
 cases v with
 | agg l=>simp only [qJ,no,nb]
 | one p =>
  cases p with
  | f a =>
   cases a with
   | str s =>
    cases w with
    | agg l=>simp only [qJ,no,nb,bq]
    | one p =>
     cases p with
     | f b =>
      cases b with
      | str t=>simp only [qJ,bq,bI,one]
      | _=>simp only [qJ,no,nb,bq]
     | _=>simp only [qJ,no,nb,bq]
   | _=>simp only [qJ,no,nb]
  | _=>simp only [qJ,no,nb]
@[go_sem ↓] theorem ah2 : W k u (bV Γ q σ d (.no x)) ↔ W (fun v=>W (fun b=>k (.c (.one (.f (.bool (!b)))),σ)) ⟨⟩ (bool? v)) ⟨⟩ (val σ x):=by
 simp only [bV,dQ,aK,one,bq]
@[go_sem ↓] theorem ah3 {kk:IntKind}:W k u (bV Γ q σ d (.ci kk x)) ↔ W (fun v=>W (fun a=>k (.c (.one (.f (.int kk (kk.wrap a.2)))),σ)) ⟨⟩ (int? v)) ⟨⟩ (val σ x):=by
 simp only [bV,dQ,aK,one,bq]
@[go_sem ↓] theorem agu : W k u (bV Γ q σ d (.mP x)) ↔ W (fun v=>W (fun s=>k (.c (.one (.f (.str s))),σ)) ⟨⟩ (qJ v)) ⟨⟩ (val σ x):=by
 simp only [bV,dQ,aK]
 refine cB fun v=>?_
 cases v with
 | agg l=>exact bU
 | one p=>cases p with
  | f a=>cases a <;> first | exact bU | exact lG aiu
  | _=>exact bU
@[go_sem ↓] theorem acf {sh:KS}:W k u (bV Γ q σ d (.oQ sh)) ↔ W (fun s=>k (.c (.one (.mp (dx d))),s)) ⟨⟩ (new σ (dx d) (.map sh [])):=by
 simp only [bV,gH,dQ,bQ]
@[go_sem ↓] theorem ah4 : W k u (bV Γ q σ d (.mn x y)) ↔ W (fun a=>W (fun b=>W (fun a=>W (fun b=>a.1 = b.1 ∧ k (.c (.one (.f (.int a.1 (if b.2 < a.2 then b.2 else a.2)))),σ)) ⟨⟩ (int? b)) ⟨⟩ (int? a)) ⟨⟩ (val σ y)) ⟨⟩ (val σ x):=by
 simp only [bV,dQ,aK,bI,one,bq]
@[go_sem ↓] theorem ah5 : W k u (bV Γ q σ d (.mx x y)) ↔ W (fun a=>W (fun b=>W (fun a=>W (fun b=>a.1 = b.1 ∧ k (.c (.one (.f (.int a.1 (if a.2 < b.2 then b.2 else a.2)))),σ)) ⟨⟩ (int? b)) ⟨⟩ (int? a)) ⟨⟩ (val σ y)) ⟨⟩ (val σ x):=by
 simp only [bV,dQ,aK,bI,one,bq]
@[go_sem ↓] theorem agv {o:BinOp}:W k u (bV Γ q σ d (.bit o x y)) ↔ W (fun a=>W (fun b=>W (fun a=>W (fun b=>a.1 = b.1 ∧ k (.c (.one (.f (.int a.1 (Go.bits o a.1 a.2 b.2)))),σ)) ⟨⟩ (int? b)) ⟨⟩ (int? a)) ⟨⟩ (val σ y)) ⟨⟩ (val σ x):=by
 simp only [bV,dQ,aK,bI,one,bq]
@[go_sem ↓] theorem agw {l:Bool}:W k u (bV Γ q σ d (.Us l x y)) ↔ W (fun a=>W (fun b=>W (fun a=>W (fun b=>0 ≤ b.2 ∧ k (.c (.one (.f (.int a.1 (if l then a.1.wrap (a.2 * 2 ^ (min b.2.toNat a.1.bits)) else a.2.fdiv (2 ^ (min b.2.toNat a.1.bits)))))),σ)) ⟨⟩ (int? b)) ⟨⟩ (int? a)) ⟨⟩ (val σ y)) ⟨⟩ (val σ x):=by
 simp only [bV,dQ,aK,bI,one,bq]
@[go_sem ↓] theorem aeA {lo hi:Option dH}:W k u (bV Γ q σ d (.Jg x lo hi)) ↔ W (fun v=>W (fun s=>W (fun p=>k (.c (.one (.f (.str (s.extract p.1 p.2)))),σ)) ⟨⟩ (rng s.size σ lo hi)) ⟨⟩ (qJ v)) ⟨⟩ (val σ x):=by
 simp only [bV,dQ,aK]
 refine cB fun v=>?_
 cases v with
 | agg l=>exact bU
 | one p=>cases p with
  | f a =>
   cases a with
   | str s=>simp only [qJ,bq,aK,one]
   | _=>exact bU
  | _=>exact bU
section
variable {k : Nat × Nat → Prop} {u:Tok k} {len:Nat} {lo hi:Option dH}
@[go_sem ↓] theorem agx : W k u (rng len σ lo hi) ↔ W (fun h=>W (fun l=>k (l,h)) ⟨⟩ (bnd σ h lo 0)) ⟨⟩ (bnd σ len hi len):=by
 simp only [rng,dQ,aK,bQ]
end
section
variable {k : Nat → Prop} {u:Tok k} {len dd:Nat}
@[go_sem ↓] theorem Vs : W k u (bnd σ len none dd) ↔ k dd:=gI
@[go_sem ↓] theorem Vt : W k u (bnd σ len (some x) dd) ↔ W (fun v=>W (fun p=>(0 ≤ p.2 ∧ p.2 ≤ (len:Int)) ∧ k p.2.toNat) ⟨⟩ (int? v)) ⟨⟩ (val σ x):=by
 simp only [bnd,dQ,aK,bI,bq]
end
def D8 (q:Bool) (σ:St) (sz:Nat) (lo hi:Option dH):CV → Option (PV × St)
 | .one (.f (.sl rows))=>if rows.all (fun r=>r.length == sz) = false then none else (rng rows.length σ lo hi).bind fun p=>one (.sl ((rows.drop p.1).take (p.2 - p.1))) σ
 | .one .bP=>(rng 0 σ lo hi).bind fun p=>one (.sl []) σ
 | .one (.own key _)=>(iD σ key).bind fun o=>if o.1 ≠ sz then none else (rng o.2.length σ lo hi).bind fun p=>if q then none else (zf σ key).bind fun s=>one (.sl ((o.2.drop p.1).take (p.2 - p.1))) s
 | _=>none
@[go_sem ↓] theorem agy {sz:Nat} {lo hi:Option dH}:W k u (bV Γ q σ d (.cut sz x lo hi)) ↔ W (fun v=>W k ⟨⟩ (D8 q σ sz lo hi v)) ⟨⟩ (val σ x):=by
 simp only [bV,dQ,aK]
 refine cB fun v=>?_
 cases v with
 | agg l=>exact aiu
 | one p=>cases p with
  | f a=>cases a <;> exact aiu
  | own key n=>simp only [D8,iD];cases get σ.ob key with | none=>exact aiu | some o=>cases o <;> exact aiu
  | _=>exact aiu
@[go_sem ↓] theorem Zx {sz:Nat} {lo hi:Option dH} {rows:List (List FV)}:W k u (D8 q σ sz lo hi (.one (.f (.sl rows)))) ↔ rows.all (fun r=>r.length == sz) = true ∧ W (fun p=>k (.c (.one (.f (.sl ((rows.drop p.1).take (p.2 - p.1))))),σ)) ⟨⟩ (rng rows.length σ lo hi):=by
 simp only [D8,dQ,aK,cO,one,bq,Bool.not_eq_false]
@[go_sem ↓] theorem Zy {sz:Nat} {lo hi:Option dH}:W k u (D8 q σ sz lo hi (.one .bP)) ↔ W (fun p=>k (.c (.one (.f (.sl []))),σ)) ⟨⟩ (rng 0 σ lo hi):=by
 simp only [D8,dQ,aK,one,bq]
@[go_sem ↓] theorem Zz {sz key n:Nat} {lo hi:Option dH}:W k u (D8 q σ sz lo hi (.one (.own key n))) ↔ W (fun o=>o.1 = sz ∧ W (fun p=>q = false ∧ W (fun s=>k (.c (.one (.f (.sl ((o.2.drop p.1).take (p.2 - p.1))))),s)) ⟨⟩ (zf σ key)) ⟨⟩ (rng o.2.length σ lo hi)) ⟨⟩ (iD σ key):=by
 simp only [D8,dQ,aK,cO,one,bq,ne_eq,ai3,ajj]
@[go_sem ↓] theorem agz {off n:Nat} {agg:Bool}:W k u (bV Γ q σ d (.Xl off n agg x)) ↔ W (fun v=>W (fun l=>W (fun l=>W (fun z=>k (.c z,σ)) ⟨⟩ (mk agg l)) ⟨⟩ (seg n off l)) ⟨⟩ (LY v)) ⟨⟩ (val σ x):=by
 simp only [bV,dQ,aK]
 refine cB fun v=>?_
 cases v with
 | agg l=>simp only [LY,bq,aK,bQ]
 | one p=>exact bU
def Vu (σ:St) (sz:Nat) (i:Int):CV → Option PL
 | .one (.f (.sl rows))=>rows[i.toNat]?.bind fun r=>if r.length = sz then some (.fp r) else none
 | .one (.own key n)=>(iD σ key).bind fun o=>if o.1 = sz ∧ i < n ∧ n = o.2.length then some (.rp key sz i.toNat 0) else none
 | _=>none
@[go_sem ↓] theorem ah6 {sz:Nat}:W k u (bV Γ q σ d (.ia sz x y)) ↔ W (fun v=>W (fun j=>W (fun p=>0 ≤ p.2 ∧ W (fun l=>k (.c (.one l),σ)) ⟨⟩ (Vu σ sz p.2 v)) ⟨⟩ (int? j)) ⟨⟩ (val σ y)) ⟨⟩ (val σ x):=by
 simp only [bV,dQ,aK,bI]
 refine cB fun v=>cB fun j=>cB fun p=>ajB aiu ?_
 cases v with
 | agg l=>exact bU
 | one a =>
  cases a with
  | f a =>
   cases a with
   | sl rows=>simp only [Vu,aK,bI,bq]
   | _=>exact bU
  | own key n =>
   simp only [Vu,iD]
   cases get σ.ob key with
   | none=>exact bU
   | some o =>
    cases o with
    | row sz' rows=>simp only [L6,Option.bind_some,bI,bq]
    | _=>exact bU
  | _=>exact bU
section
variable {k : PL → Prop} {u:Tok k} {sz:Nat} {i:Int}
@[go_sem ↓] theorem acg {rows:List (List FV)}:W k u (Vu σ sz i (.one (.f (.sl rows)))) ↔ W (fun r=>r.length = sz ∧ k (.fp r)) ⟨⟩ (rows[i.toNat]?):=by
 simp only [Vu,dQ,aK,bI,bq]
@[go_sem ↓] theorem ach {key n:Nat}:W k u (Vu σ sz i (.one (.own key n))) ↔ W (fun o=>(o.1 = sz ∧ i < n ∧ n = o.2.length) ∧ k (.rp key sz i.toNat 0)) ⟨⟩ (iD σ key):=by
 simp only [Vu,dQ,aK,bI,bq]
end
@[go_sem ↓] theorem agA {sz len:Nat} {agg:Bool}:W k u (bV Γ q σ d (.idx sz len agg x y)) ↔ W (fun v=>W (fun j=>W (fun p=>(0 ≤ p.2 ∧ p.2 < (len:Int)) ∧ W (fun l=>W (fun l=>W (fun z=>k (.c z,σ)) ⟨⟩ (mk agg l)) ⟨⟩ (seg sz (p.2.toNat * sz) l)) ⟨⟩ (LY v)) ⟨⟩ (int? j)) ⟨⟩ (val σ y)) ⟨⟩ (val σ x):=by
 simp only [bV,dQ,aK,bI]
 refine cB fun v=>cB fun j=>cB fun p=>ajB aiu ?_
 cases v with
 | agg l=>simp only [LY,bq,aK,bQ]
 | one p=>exact bU
@[go_sem ↓] theorem agB : W k u (bV Γ q σ d (.chr x y)) ↔ W (fun v=>W (fun j=>W (fun p=>W (fun s=>0 ≤ p.2 ∧ W (fun b=>k (.c (.one (.f (.int .u8 b.toNat))),σ)) ⟨⟩ (s.data[p.2.toNat]?)) ⟨⟩ (qJ v)) ⟨⟩ (int? j)) ⟨⟩ (val σ y)) ⟨⟩ (val σ x):=by
 simp only [bV,dQ,aK]
 refine cB fun v=>cB fun j=>cB fun p=>?_
 cases v with
 | agg l=>exact bU
 | one p=>cases p with
  | f a =>
   cases a with
   | str s=>simp only [qJ,bq,bI,aK,one]
   | _=>exact bU
  | _=>exact bU
@[go_sem ↓] theorem agC {i:Nat}:W k u (bV Γ q σ d (.ext x i)) ↔ W (fun v=>W (fun l=>W (fun w=>k (.c w,σ)) ⟨⟩ (l[i]?)) ⟨⟩ (Vf v)) ⟨⟩ (rZ σ x):=by
 simp only [bV,dQ]
 cases rZ σ x with
 | none=>exact bU
 | some v =>
  rw [bq]
  cases v with
  | c y=>exact bU
  | uy l=>simp only [Vf,bq,bQ]
@[go_sem ↓] theorem aeB : W k u (bV Γ q σ d (.wN x)) ↔ W (fun v=>W (fun s=>k (.c (.one (.f (.int .i64 s.size))),σ)) ⟨⟩ (qJ v)) ⟨⟩ (val σ x):=by
 simp only [bV,dQ,aK]
 refine cB fun v=>?_
 cases v with
 | agg l=>exact bU
 | one p=>cases p with
  | f a=>cases a <;> first | exact bU | exact lG aiu
  | _=>exact bU
def PW (σ:St):CV → Option Nat
 | .one .fq=>some 0
 | .one (.mp key)=>(nZ σ key).map fun o=>o.2.length
 | _=>none
@[go_sem] theorem ZA : PW σ (.one .fq) = some 0:=rfl
@[go_sem] theorem aci {key:Nat}:PW σ (.one (.mp key)) = (nZ σ key).map fun o=>o.2.length:=rfl
def PX : CV → Option Nat
 | .one (.f (.sl rows))=>some rows.length
 | .one .bP=>some 0
 | .one (.own _ n)=>some n
 | _=>none
@[go_sem] theorem aeC {rows:List (List FV)}:PX (.one (.f (.sl rows))) = some rows.length:=rfl
@[go_sem] theorem aeD : PX (.one .bP) = some 0:=rfl
@[go_sem] theorem aeE {k n:Nat}:PX (.one (.own k n)) = some n:=rfl
@[go_sem ↓] theorem aeF : W k u (bV Γ q σ d (.gQ x)) ↔ W (fun v=>W (fun n:Nat=>k (.c (.one (.f (.int .i64 (n:Int)))),σ)) ⟨⟩ (PX v)) ⟨⟩ (val σ x):=by
 simp only [bV,dQ,aK]
 refine cB fun v=>?_
 cases v with
 | agg l=>exact bU
 | one p=>cases p with
  | f a=>cases a <;> first | exact bU | exact lG aiu
  | _=>first | exact bU | exact lG aiu
@[go_sem ↓] theorem aeG {neg:Bool}:W k u (bV Γ q σ d (.zm neg x)) ↔ W (fun v=>W (fun b=>k (.c (.one (.f (.bool (if neg then !b else b)))),σ)) ⟨⟩ (Vg v)) ⟨⟩ (val σ x):=by
 simp only [bV,dQ,aK]
 refine cB fun v=>?_
 cases v with
 | agg l=>exact bU
 | one p=>cases p with
  | f a =>
   cases a with
   | sl rows=>cases rows <;> first | exact bU | (cases neg <;> exact lG aiu)
   | _=>exact bU
  | bP=>cases neg <;> exact lG aiu
  | _=>exact bU
end
end
section
open Go
section
variable {Γ : Env} {F d:Nat} {q:Bool} {σ:St} {k:PV × St → Prop} {u:Tok k} {x y z:dH}
def L8 (σ:St) (sh:KS):CV → Option (Option (Nat × List (KV × FC)))
 | .one .fq=>some none
 | .one (.mp key)=>(nZ σ key).bind fun o=>if o.1 = sh then some (some (key,o.2)) else none
 | _=>none
@[go_sem] theorem ZB {sh:KS}:L8 σ sh (.one .fq) = some none:=rfl
section
variable {k : Option (Nat × List (KV × FC)) → Prop} {u:Tok k}
@[go_sem ↓] theorem aeH {sh:KS} {key:Nat}:W k u (L8 σ sh (.one (.mp key))) ↔ W (fun o=>o.1 = sh ∧ k (some (key,o.2))) ⟨⟩ (nZ σ key):=by
 simp only [L8,dQ,aK,bI,bq]
end
def su (m:Option (Nat × List (KV × FC))) (a:KV):Option FC:=m.bind fun m=>rV m.2 a
def cnt (m:Option (Nat × List (KV × FC))):Nat:=match m with
 | none=>0
 | some m=>m.2.length
@[go_sem] theorem ZC {a:KV}:su none a = none:=rfl
@[go_sem] theorem ZE {key:Nat} {l:List (KV × FC)} {a:KV}:su (some (key,l)) a = rV l a:=rfl
@[go_sem] theorem ZF : cnt none = 0:=rfl
@[go_sem] theorem ZG {key:Nat} {l:List (KV × FC)}:cnt (some (key,l)) = l.length:=rfl
def lkv (z:FC) (ok:Bool) (r:Option FC):PV:=if ok then .uy [wQ (r.getD z),.one (.f (.bool r.isSome))] else .c (wQ (r.getD z))
@[go_sem] theorem aeI {z:FC} {r:Option FC}:lkv z true r = .uy [wQ (r.getD z),.one (.f (.bool r.isSome))]:=rfl
@[go_sem] theorem aeJ {z:FC} {r:Option FC}:lkv z false r = .c (wQ (r.getD z)):=rfl
@[go_sem] theorem ZH {x:FV}:wQ (.one x) = .one (.f x):=rfl
@[go_sem] theorem ZI {xs:List FV}:wQ (.agg xs) = .agg (xs.map .f):=rfl
@[go_sem ↓] theorem aeK {sh:KS} {z:FC} {ok:Bool}:W k u (bV Γ q σ d (.look sh z ok x y)) ↔ W (fun v=>W (fun w=>W (fun a=>a.ks = sh ∧ W (fun m=>k (lkv z ok (su m a),σ)) ⟨⟩ (L8 σ sh v)) ⟨⟩ (keyOf w)) ⟨⟩ (val σ y)) ⟨⟩ (val σ x):=by
 simp only [bV,dQ,aK,cO,bQ,ne_eq,ai3]
 refine cB fun v=>cB fun w=>cB fun a=>ajB aiu ?_
 cases v with
 | agg l=>exact bU
 | one p =>
  cases p with
  | fq=>exact lG aiu
  | mp key =>
   simp only [L8,nZ]
   cases get σ.ob key with
   | none=>exact bU
   | some o =>
    cases o with
    | map sh' ents =>
     simp only [om,Option.bind_some]
     by_cases hs:sh' = sh
     ·rw [ail hs,ail hs];exact lG (by cases ok <;> exact aiu)
     ·rw [ain hs,ain hs];exact bU
    | _=>exact bU
  | _=>exact bU
@[go_sem ↓] theorem aeL : W k u (bV Γ q σ d (.Jh x)) ↔ W (fun v=>W (fun n:Nat=>k (.c (.one (.f (.int .i64 (n:Int)))),σ)) ⟨⟩ (PW σ v)) ⟨⟩ (val σ x):=by
 simp only [bV,dQ,aK]
 refine cB fun v=>?_
 cases v with
 | agg l=>exact bU
 | one p =>
  cases p with
  | fq=>exact lG aiu
  | mp key =>
   simp only [PW,nZ]
   cases get σ.ob key with
   | none=>exact bU
   | some o=>cases o <;> first | exact bU | exact lG aiu
  | _=>exact bU
def upv (σ:St) (sh:KS) (a:KV) (p:FC × St):CV → Option St
 | .one (.mp key)=>(nZ p.2 key).bind fun o=>if o.1 = sh then some (jm p.2 key (.map sh (wP o.2 a p.1))) else none
 | _=>none
@[go_sem ↓] theorem aeM {sh:KS}:W k u (bV Γ q σ d (.wM sh x y z)) ↔ W (fun v=>W (fun w=>W (fun a=>a.ks = sh ∧ W (fun w=>(q && (cells w).any fZ) = false ∧ W (fun p=>W (fun s=>k (.c (.one .und),s)) ⟨⟩ (upv σ sh a p v)) ⟨⟩ (Xo σ w)) ⟨⟩ (val σ z)) ⟨⟩ (keyOf w)) ⟨⟩ (val σ y)) ⟨⟩ (val σ x):=by
 simp only [bV,dQ,aK,cO,ne_eq,ai3,ajj]
 refine cB fun v=>cB fun w=>cB fun a=>ajB aiu (cB fun w=>ajB aiu (cB fun p=>?_))
 cases v with
 | agg l=>exact bU
 | one b =>
  cases b with
  | mp key =>
   simp only [upv,nZ]
   cases get p.2.ob key with
   | none=>exact bU
   | some o =>
    cases o with
    | map sh' ents =>
     simp only [om,Option.bind_some]
     split
     ·exact lG aiu
     ·exact bU
    | _=>exact bU
  | _=>exact bU
section
variable {k : St → Prop} {u:Tok k} {sh:KS} {a:KV} {key:Nat}
@[go_sem ↓] theorem agD {p:FC × St}:W k u (upv σ sh a p (.one (.mp key))) ↔ W (fun o=>o.1 = sh ∧ k (jm p.2 key (.map sh (wP o.2 a p.1)))) ⟨⟩ (nZ p.2 key):=by
 simp only [upv,dQ,aK,bI,bq]
end
def ZJ (σ:St) (sh:KS) (a:KV):CV → Option St
 | .one .fq=>some σ
 | .one (.mp key)=>(nZ σ key).bind fun o=>if o.1 = sh then some (jm σ key (.map sh (Bo o.2 a))) else none
 | _=>none
@[go_sem] theorem acj {sh:KS} {a:KV}:ZJ σ sh a (.one .fq) = some σ:=rfl
section
variable {k : St → Prop} {u:Tok k} {sh:KS} {a:KV} {key:Nat}
@[go_sem ↓] theorem agE : W k u (ZJ σ sh a (.one (.mp key))) ↔ W (fun o=>o.1 = sh ∧ k (jm σ key (.map sh (Bo o.2 a)))) ⟨⟩ (nZ σ key):=by
 simp only [ZJ,dQ,aK,bI,bq]
end
@[go_sem ↓] theorem agF {sh:KS}:W k u (bV Γ q σ d (.del sh x y)) ↔ W (fun v=>W (fun w=>W (fun a=>a.ks = sh ∧ W (fun s=>k (.uy [],s)) ⟨⟩ (ZJ σ sh a v)) ⟨⟩ (keyOf w)) ⟨⟩ (val σ y)) ⟨⟩ (val σ x):=by
 simp only [bV,dQ,aK,cO,ne_eq,ai3]
 refine cB fun v=>cB fun w=>cB fun a=>ajB aiu ?_
 cases v with
 | agg l=>exact bU
 | one b =>
  cases b with
  | fq=>exact lG aiu
  | mp key =>
   simp only [ZJ,nZ]
   cases get σ.ob key with
   | none=>exact bU
   | some o =>
    cases o with
    | map sh' ents =>
     simp only [om,Option.bind_some]
     split
     ·exact lG aiu
     ·exact bU
    | _=>exact bU
  | _=>exact bU
def XI (σ:St):CV → Option (List (List FV))
 | .one .bP=>some []
 | .one (.f (.sl rows))=>some rows
 | .one (.own key _)=>(iD σ key).map (·.2)
 | _=>none
@[go_sem] theorem agG : XI σ (.one .bP) = some []:=rfl
@[go_sem] theorem agH {rows:List (List FV)}:XI σ (.one (.f (.sl rows))) = some rows:=rfl
@[go_sem] theorem agI {key n:Nat}:XI σ (.one (.own key n)) = (iD σ key).map (·.2):=rfl
def XJ (q:Bool) (σ:St) (d sz bytes:Nat) (w:CV) (D9:List (List FV)):CV → Option (PV × St)
 | .one .bP=>if q = false ∧ D9.length * bytes ≤ 140737488355328 ∧ D9.all (fun r=>r.length == sz) then (new σ (dx d) (.row sz D9)).map fun s=>(.c (.one (.own (dx d) D9.length)),s) else none
 | .one (.own key n)=>(iD σ key).bind fun o=>if q = false ∧ (o.2.length + D9.length) * bytes ≤ 140737488355328 ∧ o.1 = sz ∧ n = o.2.length ∧ vk key w = false ∧ key % 2 = 0 ∧ D9.all (fun r=>r.length == sz) then
   some (.c (.one (.own key (o.2.length + D9.length))),jm (sub σ key .any) key (.row sz (o.2 ++ D9))) else none
 | _=>none
@[go_sem ↓] theorem agJ {e:TypeId} {sz bytes:Nat}:W k u (bV Γ q σ d (.app e sz bytes x y)) ↔ W (fun v=>W (fun w=>W (fun l=>W k ⟨⟩ (XJ q σ d sz bytes w l v)) ⟨⟩ (XI σ w)) ⟨⟩ (val σ y)) ⟨⟩ (val σ x):=by
 simp only [bV,dQ,aK]
 refine cB fun v=>cB fun w=>?_
 have e:pY σ w = XI σ w:=by
  cases w with
  | agg l=>rfl
  | one p=>cases p with
   | f a=>cases a <;> rfl
   | own key n=>simp only [pY,XI,iD];cases get σ.ob key with | none=>rfl | some o=>cases o <;> rfl
   | _=>rfl
 rw [e]
 refine cB fun l=>?_
 cases v with
 | agg l=>exact bU
 | one p =>
  cases p with
  | bP=>exact aiu
  | own key n =>
   simp only [XJ,iD]
   cases get σ.ob key with
   | none=>exact bU
   | some o=>cases o <;> exact aiu
  | _=>exact bU
@[go_sem ↓] theorem acn {sz bytes:Nat} {w:CV} {l:List (List FV)}:W k u (XJ q σ d sz bytes w l (.one .bP)) ↔ (q = false ∧ l.length * bytes ≤ 140737488355328 ∧ l.all (fun r=>r.length == sz) = true) ∧ W (fun s=>k (.c (.one (.own (dx d) l.length)),s)) ⟨⟩ (new σ (dx d) (.row sz l)):=by
 simp only [XJ,dQ,bI,bQ]
@[go_sem ↓] theorem aco {sz bytes key n:Nat} {w:CV} {l:List (List FV)}:W k u (XJ q σ d sz bytes w l (.one (.own key n))) ↔ W (fun o=>(q = false ∧ (o.2.length + l.length) * bytes ≤ 140737488355328 ∧ o.1 = sz ∧ n = o.2.length ∧ vk key w = false ∧ key % 2 = 0 ∧ l.all (fun r=>r.length == sz) = true) ∧ k (.c (.one (.own key (o.2.length + l.length))),jm (sub σ key .any) key (.row sz (o.2 ++ l)))) ⟨⟩ (iD σ key):=by
 simp only [XJ,dQ,aK,bI,bq]
def cov (σ:St) (sz:Nat) (i:Int):CV → Option (PV × St)
 | .one (.own key n)=>(iD σ key).bind fun o=>if o.1 = sz ∧ key % 2 = 0 ∧ 0 ≤ i ∧ i ≤ o.2.length then some (.c (.one (.own key i.toNat)),jm (sub σ key .any) key (.row sz (o.2.take i.toNat))) else none
 | _=>none
@[go_sem ↓] theorem aeN {sz:Nat}:W k u (bV Γ q σ d (.Dk sz x y)) ↔ q = false ∧ W (fun v=>W (fun j=>W (fun p=>W k ⟨⟩ (cov σ sz p.2 v)) ⟨⟩ (int? j)) ⟨⟩ (val σ y)) ⟨⟩ (val σ x):=by
 simp only [bV,dQ,aK,cO,ajj]
 refine ajB aiu (cB fun v=>cB fun j=>cB fun p=>?_)
 cases v with
 | agg l=>exact bU
 | one b =>
  cases b with
  | own key n =>
   simp only [cov,iD]
   cases get σ.ob key with
   | none=>exact bU
   | some o=>cases o <;> exact aiu
  | _=>exact bU
@[go_sem ↓] theorem agK {sz key n:Nat} {i:Int}:W k u (cov σ sz i (.one (.own key n))) ↔ W (fun o=>(o.1 = sz ∧ key % 2 = 0 ∧ 0 ≤ i ∧ i ≤ (o.2.length:Int)) ∧ k (.c (.one (.own key i.toNat)),jm (sub σ key .any) key (.row sz (o.2.take i.toNat)))) ⟨⟩ (iD σ key):=by
 simp only [cov,dQ,aK,bI,bq]
def cvv (σ:St) (sz:Nat) (i:Int):CV → Option PL
 | .one (.own key n)=>(iD σ key).bind fun o=>if o.1 = sz ∧ 0 ≤ i ∧ i ≤ o.2.length then some (.vw key sz o.2.length i.toNat) else none
 | _=>none
@[go_sem ↓] theorem aeO {sz:Nat}:W k u (bV Γ q σ d (.cutV sz x y)) ↔ W (fun v=>W (fun j=>W (fun p=>W (fun l=>k (.c (.one l),σ)) ⟨⟩ (cvv σ sz p.2 v)) ⟨⟩ (int? j)) ⟨⟩ (val σ y)) ⟨⟩ (val σ x):=by
 simp only [bV,dQ,aK]
 refine cB fun v=>cB fun j=>cB fun p=>?_
 cases v with
 | agg l=>exact bU
 | one b =>
  cases b with
  | own key n =>
   simp only [cvv,iD]
   cases get σ.ob key with
   | none=>exact bU
   | some o =>
    cases o with
    | row sz' rows=>simp only [L6,Option.bind_some,bI,bq]
    | _=>exact bU
  | _=>exact bU
section
variable {k : PL → Prop} {u:Tok k}
@[go_sem ↓] theorem agL {sz key n:Nat} {i:Int}:W k u (cvv σ sz i (.one (.own key n))) ↔ W (fun o=>(o.1 = sz ∧ 0 ≤ i ∧ i ≤ (o.2.length:Int)) ∧ k (.vw key sz o.2.length i.toNat)) ⟨⟩ (iD σ key):=by
 simp only [cvv,dQ,aK,bI,bq]
end
def vw? : CV → Option (Nat × Nat × Nat × Nat)
 | .one (.vw key z n lo)=>some (key,z,n,lo)
 | _=>none
@[go_sem] theorem aeP {a b c e:Nat}:vw? (.one (.vw a b c e)) = some (a,b,c,e):=rfl
@[go_sem ↓] theorem agM {sz:Nat} {zs:List FV}:W k u (bV Γ q σ d (.Sn sz zs x)) ↔ W (fun v=>W (fun p=>W (fun o=>(o.1 = sz ∧ p.2.1 = sz ∧ zs.length = sz ∧ p.2.2.1 = o.2.length ∧ p.2.2.2 ≤ p.2.2.1) ∧ k (.uy [],jm σ p.1 (.row sz (o.2.take p.2.2.2 ++ List.replicate (p.2.2.1 - p.2.2.2) zs)))) ⟨⟩ (iD σ p.1)) ⟨⟩ (vw? v)) ⟨⟩ (val σ x):=by
 simp only [bV,dQ,aK]
 refine cB fun v=>?_
 cases v with
 | agg l=>exact bU
 | one b =>
  cases b with
  | vw key z n lo =>
   simp only [vw?,bq,iD]
   cases get σ.ob key with
   | none=>exact bU
   | some o =>
    cases o with
    | row sz' rows=>simp only [L6,bI,bq]
    | _=>exact bU
  | _=>exact bU
def SI (σ:St):CV → Option (List (List FV))
 | .one (.f (.sl rows))=>some rows
 | .one .bP=>some []
 | .one (.own key _)=>(iD σ key).bind fun o=>if o.1 = 1 then some o.2 else none
 | _=>none
@[go_sem] theorem agN {rows:List (List FV)}:SI σ (.one (.f (.sl rows))) = some rows:=rfl
@[go_sem] theorem agO : SI σ (.one .bP) = some []:=rfl
@[go_sem] theorem SL : bytesOf [] = some ⟨#[]⟩:=rfl
@[go_sem] theorem PY {n:Int} {l:List (List FV)}:bytesOf ([.int .u8 n] :: l) = (bytesOf l).map fun s=>⟨#[UInt8.ofNat n.toNat] ++ s.data⟩:=rfl
section
variable {k : List (List FV) → Prop} {u:Tok k}
@[go_sem ↓] theorem agP {key n:Nat}:W k u (SI σ (.one (.own key n))) ↔ W (fun o=>o.1 = 1 ∧ k o.2) ⟨⟩ (iD σ key):=by
 simp only [SI,dQ,aK,bI,bq]
end
@[go_sem ↓] theorem agQ : W k u (bV Γ q σ d (.Xm x)) ↔ W (fun v=>W (fun l=>W (fun s=>k (.c (.one (.f (.str s))),σ)) ⟨⟩ (bytesOf l)) ⟨⟩ (SI σ v)) ⟨⟩ (val σ x):=by
 simp only [bV,dQ,aK]
 refine cB fun v=>?_
 cases v with
 | agg l=>exact bU
 | one b =>
  cases b with
  | f a =>
   cases a with
   | sl rows=>simp only [SI,aK,bq,one]
   | _=>exact bU
  | bP=>simp only [SI,bq,bytesOf,one]
  | own key n =>
   simp only [SI,iD]
   cases get σ.ob key with
   | none=>exact bU
   | some o =>
    cases o with
    | row sz' rows=>simp only [L6,Option.bind_some,bI,aK,bq,one]
    | _=>exact bU
  | _=>exact bU
@[go_sem ↓] theorem agR {f:FuncId} {xs:List dH}:W k u (bV Γ q σ d (.OZ f xs)) ↔ W (fun l=>W (fun p=>k (.c (.one (.fn f p.1)),p.2)) ⟨⟩ (lN q σ l)) ⟨⟩ (ji σ xs):=by
 simp only [bV,dQ,aK,bQ]
@[go_sem ↓] theorem aeQ {f:FuncId} {xs:List dH}:W k u (bV Γ q σ d (.zl f xs)) ↔ W (fun l=>W (fun d9=>W (fun r=>W (fun p=>W (fun s=>k (.c (.one (.own (dx d) p.2.length)),s)) ⟨⟩ (new σ (dx d) (.row p.1 p.2))) ⟨⟩ (Uv r.1)) ⟨⟩ (Γ f d9)) ⟨⟩ (KM l)) ⟨⟩ (ji σ xs):=by
 simp only [bV,rY,dQ,aK,bQ]
attribute [go_sem] avT O6 avC KM
@[go_sem] theorem ZK {sz:Nat} {rows:List (List FV)}:Uv [.one (.own sz rows)] = some (sz,rows):=rfl
@[go_sem ↓] theorem acp {gv:Bool} {f:FuncId} {xs:List dH}:W k u (bV Γ q σ d (.call gv f xs)) ↔ W (fun l=>W k ⟨⟩ (kL Γ gv q σ d f l)) ⟨⟩ (ji σ xs):=by
 simp only [bV,dQ,aK]
def fn? : CV → Option (FuncId × List (List FV))
 | .one (.fn f caps)=>some (f,caps)
 | _=>none
@[go_sem] theorem aeR {f:FuncId} {caps:List (List FV)}:fn? (.one (.fn f caps)) = some (f,caps):=rfl
@[go_sem ↓] theorem agS {xs:List dH}:W k u (bV Γ q σ d (.dyn x xs)) ↔ W (fun v=>W (fun p=>W (fun l=>W k ⟨⟩ (kL Γ false q σ d p.1 (l ++ p.2.map fun c=>.one (.fp c)))) ⟨⟩ (ji σ xs)) ⟨⟩ (fn? v)) ⟨⟩ (val σ x):=by
 simp only [bV,dQ,aK]
 refine cB fun v=>?_
 cases v with
 | agg l=>exact bU
 | one b =>
  cases b with
  | fn f caps=>simp only [fn?,bq,aK]
  | _=>exact bU
def FX (gv:Bool) (args:List CV) (p:List AV × St) (r:List AV × List AV):Option St:=if (!gv && ((r.1.any vV || !p.1.all fH) && args.any (fun x=>(cells x).any fZ))) = true then rX p.2 args else some p.2
def FY (d:Nat) (σ:St) (args:List CV) (p:List AV × St) (r:List AV × List AV) (s:St):Option St:=if p.1.all fH = true then some s else zo σ (args.flatMap cells) (dx d + 10000) s args r.2
@[go_sem ↓] theorem ZL {gv:Bool} {f:FuncId} {args:List CV}:W k u (kL Γ gv q σ d f args) ↔ W (fun p=>W (fun r0=>W (fun r=>((q && !(p.1.all fH && r.1.all fH)) = false ∧ (q && ((r.1.any vV || !p.1.all fH) && args.any (fun x=>(cells x).any fZ))) = false) ∧
  W (fun s=>W (fun s=>W (fun v=>k (Jl v.1,v.2)) ⟨⟩ (wT (dx d) 0 [] s r.1)) ⟨⟩ (FY d σ args p r s)) ⟨⟩ (FX gv args p r)) ⟨⟩ (some (Uu q r0))) ⟨⟩ (Γ f p.1)) ⟨⟩ (rW gv σ args):=by
 simp only [kL,dQ,aK,cO,bQ,bq,FX,FY,ajj,and_assoc]
@[go_sem] theorem aeS {r:List AV × List AV}:Uu false r = r:=rfl
@[go_sem] theorem acr {r:List AV × List AV}:Uu true r = (r.1.map O5,r.2):=rfl
@[go_sem] theorem acs {sz:Nat} {rows:List (List FV)}:O5 (.one (.own sz rows)) = .one (.f (.sl rows)):=rfl
@[go_sem] theorem agT {x:FV}:O5 (.one (.f x)) = .one (.f x):=rfl
@[go_sem] theorem acu {xs:List TV}:O5 (.agg xs) = .agg xs:=rfl
@[go_sem] theorem acv {xs:List CL}:O5 (.one (.ptr xs)) = .one (.ptr xs):=rfl
end
section
variable {Γ : Env} {F:Nat} {k:List AV × List AV → Prop} {u:Tok k} {cf:CF} {d9:List AV}
@[go_sem ↓] theorem agU : W k u (Jm Γ F cf d9) ↔ d9.length = cf.np ∧ W (fun e=>W (fun p=>(∀ id,p.1 ≠ .ext id) ∧ W (fun b=>W (fun l=>W (fun r=>k (r.1,b.1)) ⟨⟩ (l7 cf.ro b.2 l)) ⟨⟩ (slots b.2 cf.res)) ⟨⟩ (jV p.2 e.1 d9)) ⟨⟩ (ev Γ F cf.body e.2)) ⟨⟩ (enter cf.bo 0 [] ⟨[],[]⟩ d9):=by
 simp only [Jm,dQ,cO,aK,ne_eq,ai3]
 refine ajB aiu (cB fun e=>cB fun p=>?_)
 obtain ⟨o,s⟩:=p
 cases o with
 | ext id=>simp [jq]
 | _=>simp [aK,bQ]
@[go_sem] theorem acw : (∀ id,Out.iV ≠ .ext id) ↔ True:=by simp
@[go_sem] theorem acy : (∀ id,Out.ret ≠ .ext id) ↔ True:=by simp
@[go_sem] theorem acz {i:Nat}:(∀ id,Out.ext i ≠ .ext id) ↔ False:=by simp
end
end
end Go.Proofs.YtfokaoeinpnagaaGreat.Ev

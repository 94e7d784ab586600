/- A part of the proof of SeekZones: cut, joined and given short names by a program of this session (wip/tools/pack.py); Lean checks it. No condition. -/
import Derived.Test.YtfokaoeinpnagaaGreatPSZesg
import Derived.Test.YtfokaoeinpnagaaGreatPSZesh
import Derived.Deep.RegionHeld3
import Derived.WalkSpells
import Derived.Test.YtfokaoeinpnagaaGreatPSZese
import Derived.ProofKit
import Derived.OpenShut
import Derived.SizedLaws
import Derived.ChangeArms
import Derived.ChangeSlices
import Derived.Carry
import Derived.Test.YtfokaoeinpnagaaGreatPSZesf
import Derived.Test.YtfokaoeinpnagaaGreatPSZesd
set_option linter.unusedSectionVars false
set_option linter.unusedSimpArgs false
set_option linter.unusedVariables false
set_option maxHeartbeats 16000000
set_option maxRecDepth 100000
namespace Go.Proofs.YtfokaoeinpnagaaGreat.ZQ
section
open Go.RowKit Go.Proofs.YtfokaoeinpnagaaGreatW.aX Go.Proofs.YtfokaoeinpnagaaGreatW.dL Go.Proofs.YtfokaoeinpnagaaGreatW.eO
attribute [local go_sem] jV jW lF lG jo jq jX jY
def bV.agg (a b c:Int):Value:=.agg #[.int .i64 a,.int .i64 b,.int .i64 c]
def bV.tab : List (Int × Value):=[(1,bV.agg 4 0 0),(28,bV.agg 16 0 0),(2,bV.agg 0 1 0),(5,bV.agg 0 1 0),(12,bV.agg 0 1 0),(6,bV.agg 0 2 20),(15,bV.agg 2 1 0),(33,bV.agg 6 1 0)]
theorem bV.calls (w:World):Calls Tryz.prog 129 #[] w fun e w'=>∃ g,e = .returned (.map (some g)) ∧ Mi.In w.heap.size w w' g bV.tab:=by
 have hmm:=@run_makeMap Tryz.prog
 have hi:=ah.mk (Mi.In.made (w:=w))
 generalize hg:w.heap.size = g at hi
 have hg':=ah.mk hg
 go_enter Tryz.func129,Tryz.ntmps129
 go_wp2_with (first | (refine Mi.FL 207 _ _ _ rfl ?_;refine Mi.abZ _ rfl _ _ _ 207 rfl 3 205 Tryz.underlying207 Tryz.underlying3 _ _ rfl (ah.out (by assumption)) _ _ rfl rfl rfl ?_;clear hi;intro w1 hi))
 go_ret
 exact ⟨g,rfl,hi.out⟩
def bR.l0 : Nat → ByteArray → Int → Int → Int → Int → Int → Int → Int → ByteArray → ByteArray → List ByteArray → Option (ByteArray × ByteArray × List ByteArray × Bool)
 | 0,_,_,_,_,_,_,_,_,_,_,_=>none
 | k + 1,x0,x1,x2,x37,x38,Sq,Sw,Jv,Jw,Sy,Dv=>if x38 < x37 then ((bq.f k x0 x1).bind fun Jy=>(if Jy.2.2 = 0 then (if Jy.2.1 > x2 then (some ((⟨#[]⟩:ByteArray),(⟨#[]⟩:ByteArray),([]:List ByteArray),false)) else (if Dv.length < 8796093022208 then (bR.l0 k x0 Jy.2.1 x2 x37 (wrap64 (x38 + 1)) Sq Sw Jv Jw Sy (Dv ++ [Jy.1])) else (none))) else (some ((⟨#[]⟩:ByteArray),(⟨#[]⟩:ByteArray),([]:List ByteArray),false)))) else (if 0 ≤ x1 then (if x1 ≤ x2 then (if x2 ≤ (x0.size:Int) then (some (Jw,x0.extract (x1:Int).toNat (x2:Int).toNat,Dv,(((x0.extract (x1:Int).toNat (x2:Int).toNat).size:Int) == Jv))) else (none)) else (none)) else (none))
def bR.f (k:Nat) (a0:ByteArray) (a1:Int) (a2:Int) (eP:Int) (jd:Int) (ku:Int):Option (ByteArray × ByteArray × List ByteArray × Bool):=if (eP ≤ (wrap64 (a2 - a1))) then (if 0 ≤ a1 then (if a1 ≤ (wrap64 (a1 + eP)) then (if (wrap64 (a1 + eP)) ≤ (a0.size:Int) then (bR.l0 k a0 (wrap64 (a1 + eP)) a2 jd 0 eP jd ku (a0.extract (a1:Int).toNat ((wrap64 (a1 + eP)):Int).toNat) (⟨#[]⟩:ByteArray) ([]:List ByteArray)) else (none)) else (none)) else (none)) else (some ((⟨#[]⟩:ByteArray),(⟨#[]⟩:ByteArray),([]:List ByteArray),false))
def bR.T15 : Bool × List (List Nat × List Nat):=(true,[([],[]),([],[]),([1],[1]),([2],[2]),([],[]),([4],[4]),([3,5],[3,5]),([0,0],[0]),([6,7,0,1,2,3,4,5,6,7],[6])])
def bR.B15 : List Nat:=[0,0,2,6,0,16,62,1,255]
theorem bR.ab0 : nG .any (opsOf Tryz.f130 15) = bR.T15:=by kernel_rfl
theorem bR.XG : qL bR.T15.2 bR.B15 = true:=by kernel_rfl
theorem bR.calls (k:Nat) (a0:ByteArray) (a1:Int) (a2:Int) (eP:Int) (jd:Int) (ku:Int) (r1:ByteArray) (r2:ByteArray) (r3:List ByteArray) (r4:Bool) (w:World) (h:bR.f k a0 a1 a2 eP jd ku = some (r1,r2,r3,r4)) :
  Calls Tryz.prog 130 #[.string a0,.int .i64 a1,.int .i64 a2,.agg #[.int .i64 eP,.int .i64 jd,.int .i64 ku]] w fun e w'=>∃ v2_:Value,e = .returned (.tuple #[.agg #[.string r1,.string r2,v2_],.bool r4]) ∧ Kd.R Kd.string 9 w' w.heap.size (fun _=>True) v2_ r3 ∧ Below w.heap.size w w':=by
 have ah3:=Tryz.underlying205
 have ab1:=Tryz.underlying191
 have HB:=ah.mk (Below.refl w.heap.size w)
 have H:(if (eP ≤ (wrap64 (a2 - a1))) then (if 0 ≤ a1 then (if a1 ≤ (wrap64 (a1 + eP)) then (if (wrap64 (a1 + eP)) ≤ (a0.size:Int) then (bR.l0 k a0 (wrap64 (a1 + eP)) a2 jd 0 eP jd ku (a0.extract (a1:Int).toNat ((wrap64 (a1 + eP)):Int).toNat) (⟨#[]⟩:ByteArray) ([]:List ByteArray)) else (none)) else (none)) else (none)) else (some ((⟨#[]⟩:ByteArray),(⟨#[]⟩:ByteArray),([]:List ByteArray),false))) = some (r1,r2,r3,r4):=h
 clear h
 by_cases c5:(eP ≤ (wrap64 (a2 - a1)))
 ·rw [ai8 c5] at H
  have KJ:decide (eP ≤ (wrap64 (a2 - a1))) = true:=aja c5
  (try (have Sz:decide (eP ≤ ((a2 - a1))) = true:=by have h_:decide (eP ≤ (wrap64 (a2 - a1))) = true:=aja c5;rw [B.jQ (by omega) (by omega)] at h_;exact h_))
  clear c5
  by_cases c6:0 ≤ a1
  ·rw [ai8 c6] at H
   have Ho:=ajj c6
   have KE:decide (0 ≤ a1) = true:=aja c6
   clear c6
   by_cases c7:a1 ≤ (wrap64 (a1 + eP))
   ·rw [ai8 c7] at H
    have abP:=ajj c7
    have abQ:decide (a1 ≤ (wrap64 (a1 + eP))) = true:=aja c7
    by_cases c8:(wrap64 (a1 + eP)) ≤ (a0.size:Int)
    ·rw [ai8 c8] at H
     have KF:=ajj c8
     have KG:decide ((wrap64 (a1 + eP)) ≤ (a0.size:Int)) = true:=aja c8
     have H':=ah.mk H
     clear H
     go_enter Tryz.func130,Tryz.ntmps130
     go_wp2_with (first | ((with_reducible refine mU (N:=7) rfl ?_);refine lC ?hg (N:=7) ?hd (cs:=#[.int .i64 eP,.int .i64 jd,.int .i64 ku]) (t:=205) ?hr ?_;(case hd=>rfl);(case hg=>rfl);(case hr=>first | (go_simp;done) | (go_simp;rfl));intro fO hg w9 oz hb;have fM:=ah.mk (bL (by repeat first | exact HB.out | apply ak | apply aj | apply au) hb);have jJ:=ah.mk (oz);have nW:=ah.mk ((by rw [hg];exact (dB (by repeat first | exact HB.out | apply ak | apply aj | apply au)):w.heap.size ≤ fO));have oW:=ah.mk ((by rw [hg];exact (dB (by repeat first | exact HB.out | apply ak | apply aj | apply au)):w.heap.size ≤ fO));clear HB;have HB:=fM;have dJ:=jJ;have ab2:=nW;have jl:=oW;clear fM jJ nW oW;clear hb oz hg) | ((with_reducible refine mU (N:=8) rfl ?_);refine lC ?hg (N:=8) ?hd (cs:=#[.string (⟨#[]⟩:ByteArray),.string (⟨#[]⟩:ByteArray),.slice none 0 0]) (t:=191) ?hr ?_;(case hd=>rfl);(case hg=>rfl);(case hr=>first | (go_simp;done) | (go_simp;rfl));intro dG hg w10 oz hb;have fM:=ah.mk (dZ (g:=fO) (o:=.cells #[.int .i64 eP,.int .i64 jd,.int .i64 ku] 205 (0,0)) (by (with_reducible repeat (first | refine aR ?_ _ | refine aW ?_ | refine aN ?_ _));exact dJ.out) hb);have jJ:=ah.mk (bL (by repeat (first | (with_reducible first | exact HB.out | apply ak | apply aj | apply au | refine aZ ?_ jl.out) | exact HB.out)) hb);have nW:=ah.mk (oz);have oW:=ah.mk ((by rw [hg];exact (dB (by repeat (first | (with_reducible first | exact HB.out | apply ak | apply aj | apply au | refine aZ ?_ jl.out) | exact HB.out))):w.heap.size ≤ dG));have q9:=ah.mk ((by rw [hg];exact (dB (by repeat (first | (with_reducible first | exact HB.out | apply ak | apply aj | apply au | refine aZ ?_ jl.out) | exact HB.out))):w.heap.size ≤ dG));have OW:=ah.mk ((by rw [hg];exact Nat.ne_of_lt (jN (g:=fO) (o:=.cells #[.int .i64 eP,.int .i64 jd,.int .i64 ku] 205 (0,0)) (by (with_reducible repeat (first | refine aR ?_ _ | refine aW ?_ | refine aN ?_ _));exact dJ.out)):fO ≠ dG));have OX:=ah.mk ((by rw [hg];exact Nat.ne_of_gt (jN (g:=fO) (o:=.cells #[.int .i64 eP,.int .i64 jd,.int .i64 ku] 205 (0,0)) (by (with_reducible repeat (first | refine aR ?_ _ | refine aW ?_ | refine aN ?_ _));exact dJ.out)):dG ≠ fO));clear dJ;clear HB;have dJ:=fM;have HB:=jJ;have dD:=nW;have ab3:=oW;have kQ:=q9;have fG:=OW;have kH:=OX;clear fM jJ nW oW q9 OW OX;clear hb oz hg) | ((with_reducible refine mU (N:=10) rfl ?_);refine lC ?hg (N:=10) ?hd (cs:=#[.string (⟨#[]⟩:ByteArray),.string (⟨#[]⟩:ByteArray),.slice none 0 0]) (t:=191) ?hr ?_;(case hd=>rfl);(case hg=>rfl);(case hr=>first | (go_simp;done) | (go_simp;rfl));intro fE hg UR oz hb;have fM:=ah.mk (dZ (g:=fO) (o:=.cells #[.int .i64 eP,.int .i64 jd,.int .i64 ku] 205 (0,0)) (by (with_reducible repeat (first | refine aR ?_ _ | refine aW ?_ | refine aN ?_ _));exact dJ.out) hb);have jJ:=ah.mk (dZ (g:=dG) (o:=.cells #[.string (⟨#[]⟩:ByteArray),.string (⟨#[]⟩:ByteArray),.slice none 0 0] 191 (0,0)) (by (with_reducible repeat (first | refine aR ?_ _ | refine aW ?_ | refine aN ?_ _));exact dD.out) hb);have nW:=ah.mk (bL (by repeat (first | (with_reducible first | exact HB.out | apply ak | apply aj | apply au | refine aZ ?_ jl.out | refine aZ ?_ kQ.out) | exact HB.out)) hb);have oW:=ah.mk (oz);have q9:=ah.mk ((by rw [hg];exact (dB (by repeat (first | (with_reducible first | exact HB.out | apply ak | apply aj | apply au | refine aZ ?_ jl.out | refine aZ ?_ kQ.out) | exact HB.out))):w.heap.size ≤ fE));have OW:=ah.mk ((by rw [hg];exact (dB (by repeat (first | (with_reducible first | exact HB.out | apply ak | apply aj | apply au | refine aZ ?_ jl.out | refine aZ ?_ kQ.out) | exact HB.out))):w.heap.size ≤ fE));have OX:=ah.mk ((by rw [hg];exact Nat.ne_of_lt (jN (g:=fO) (o:=.cells #[.int .i64 eP,.int .i64 jd,.int .i64 ku] 205 (0,0)) (by (with_reducible repeat (first | refine aR ?_ _ | refine aW ?_ | refine aN ?_ _));exact dJ.out)):fO ≠ fE));have n7_:=ah.mk ((by rw [hg];exact Nat.ne_of_gt (jN (g:=fO) (o:=.cells #[.int .i64 eP,.int .i64 jd,.int .i64 ku] 205 (0,0)) (by (with_reducible repeat (first | refine aR ?_ _ | refine aW ?_ | refine aN ?_ _));exact dJ.out)):fE ≠ fO));have n8_:=ah.mk ((by rw [hg];exact Nat.ne_of_lt (jN (g:=dG) (o:=.cells #[.string (⟨#[]⟩:ByteArray),.string (⟨#[]⟩:ByteArray),.slice none 0 0] 191 (0,0)) (by (with_reducible repeat (first | refine aR ?_ _ | refine aW ?_ | refine aN ?_ _));exact dD.out)):dG ≠ fE));have n9_:=ah.mk ((by rw [hg];exact Nat.ne_of_gt (jN (g:=dG) (o:=.cells #[.string (⟨#[]⟩:ByteArray),.string (⟨#[]⟩:ByteArray),.slice none 0 0] 191 (0,0)) (by (with_reducible repeat (first | refine aR ?_ _ | refine aW ?_ | refine aN ?_ _));exact dD.out)):fE ≠ dG));clear dJ;clear dD;clear HB;have dJ:=fM;have dD:=jJ;have HB:=nW;have dY:=oW;have ab4:=q9;have oC:=OW;have kI:=OX;have oD:=n7_;have gY:=n8_;have fu:=n9_;clear fM jJ nW oW q9 OW OX n7_ n8_ n9_;clear hb oz hg;have ah4:=fG.out;have ah5:=kH.out;have ah6:=kI.out;have ah7:=oD.out;have SA:UR.cell? ⟨fO,0,none⟩ = some (.int .i64 eP):=(bN dJ.out 0).trans rfl;have SB:UR.cell? ⟨fO,1,none⟩ = some (.int .i64 jd):=(bN dJ.out 1).trans rfl;have SC:UR.cell? ⟨fO,2,none⟩ = some (.int .i64 ku):=(bN dJ.out 2).trans rfl;have SE:=bJ dJ.out 0;have SF:=bJ dJ.out 1;have SG:=bJ dJ.out 2;have ah8:=fu.out;have ah9:=gY.out;have SH:UR.cell? ⟨fE,0,none⟩ = some (.string (⟨#[]⟩:ByteArray)):=(bN dY.out 0).trans rfl;have SI:UR.cell? ⟨fE,1,none⟩ = some (.string (⟨#[]⟩:ByteArray)):=(bN dY.out 1).trans rfl;have SL:UR.cell? ⟨fE,2,none⟩ = some (.slice none 0 0):=(bN dY.out 2).trans rfl;have SN:=bJ dY.out 0;have SQ:=bJ dY.out 1;have SS:=bJ dY.out 2))
     go_loopg [1,38] k (fun kq v1 v38 w'=>∃ (lV:Int) (uH:Int) (gI:ByteArray) (fH:ByteArray) (iG:List ByteArray) (je:Value),v1 = .int .i64 lV ∧ v38 = .int .i64 uH ∧ ah (bR.l0 kq a0 lV a2 jd uH eP jd ku (a0.extract (a1:Int).toNat ((wrap64 (a1 + eP)):Int).toNat) (⟨#[]⟩:ByteArray) iG = some (r1,r2,r3,r4)) ∧ ah (kq ≤ k) ∧ ah (Kd.R Kd.string 9 w' w.heap.size (fun _=>True) je iG) ∧ ah (w'.heap[fO]? = some (.cells #[.int .i64 eP,.int .i64 jd,.int .i64 ku] 205 (0,0))) ∧ ah (w'.heap[dG]? = some (.cells #[.string gI,.string fH,(.slice none 0 0)] 191 (0,0))) ∧ ah (w'.heap[fE]? = some (.cells #[.string (a0.extract (a1:Int).toNat ((wrap64 (a1 + eP)):Int).toNat),.string (⟨#[]⟩:ByteArray),je] 191 (0,0))) ∧ ah (Below w.heap.size w w'))
     case atStart=>exact ⟨(wrap64 (a1 + eP)),(0),((⟨#[]⟩:ByteArray)),((⟨#[]⟩:ByteArray)),(([]:List ByteArray)),(.slice none 0 0),(by first | rfl | (simp;done) | (simp [*];done) | (simp [B.dV];done) | (simp [B.dW];done)),(by first | rfl | (simp;done) | (simp [*];done) | (simp [B.dV];done) | (simp [B.dW];done)),H',⟨ajd _⟩,⟨by first | exact Kd.kC _ _ _ _ _ | exact Kd.mW _ _ _ _ _ | exact Kd.mX _ _ _ _ _ | exact Kd.mR _ _ _ _ _ | exact Kd.mV _ _ _ _ _⟩,⟨by (with_reducible repeat (first | refine aR ?_ _ | refine aW ?_ | refine aN ?_ _));refine oP ?_ kI.out _;(with_reducible repeat (first | refine aR ?_ _ | refine aW ?_ | refine aN ?_ _));exact dJ.out⟩,⟨by (with_reducible repeat (first | refine aR ?_ _ | refine aW ?_ | refine aN ?_ _));refine oP ?_ gY.out _;(with_reducible repeat (first | refine aR ?_ _ | refine aW ?_ | refine aN ?_ _));exact dD.out⟩,⟨by (with_reducible repeat (first | refine aR ?_ _ | refine aW ?_ | refine aN ?_ _));refine iA (cs:=#[.string (⟨#[]⟩:ByteArray),.string (⟨#[]⟩:ByteArray),.slice none 0 0]) ?_ 0 _ rfl;(with_reducible repeat (first | refine aR ?_ _ | refine aW ?_ | refine aN ?_ _));exact dY.out⟩,⟨by repeat (first | (with_reducible first | exact HB.out | apply ak | apply aj | apply au | refine aZ ?_ jl.out | refine aZ ?_ kQ.out | refine aZ ?_ oC.out) | exact HB.out)⟩⟩
     case round =>
      clear H'
      try clear c1
      try clear p2
      try clear c5
      try clear KJ
      try clear Sz
      try clear c6
      try clear Ho
      try clear KE
      try clear p6
      try clear c7
      try clear abP
      try clear abQ
      try clear c8
      try clear KF
      try clear KG
      try clear c12
      try clear c13
      try clear c15
      try clear SA
      try clear SB
      try clear SC
      try clear SH
      try clear SI
      try clear SL
      try clear SE
      try clear SF
      try clear SG
      try clear SN
      try clear SQ
      try clear SS
      obtain ⟨lV,uH,gI,fH,iG,je,rfl,rfl,HA,PO,dP,dJ,dD,dY,HB⟩:=hrel
      cases gk with
      | zero=>exact absurd HA.out (by simp [bR.l0])
      | succ k1 =>
       have H:=HA.out
       clear HA
       simp only [bR.l0] at H
       by_cases c17:uH < jd
       ·rw [ai8 c17] at H
        have ab5:decide (uH < jd) = true:=aja c17
        clear c17
        replace H:=zbm H
        obtain ⟨⟨H6,Af,t127⟩,ab6,H⟩:=H
        replace H:(if t127 = 0 then (if Af > a2 then (some ((⟨#[]⟩:ByteArray),(⟨#[]⟩:ByteArray),([]:List ByteArray),false)) else (if iG.length < 8796093022208 then (bR.l0 k1 a0 Af a2 jd (wrap64 (uH + 1)) eP jd ku (a0.extract (a1:Int).toNat ((wrap64 (a1 + eP)):Int).toNat) (⟨#[]⟩:ByteArray) (iG ++ [H6])) else (none))) else (some ((⟨#[]⟩:ByteArray),(⟨#[]⟩:ByteArray),([]:List ByteArray),false))) = some (r1,r2,r3,r4):=H
        have A18:=ah.mk ab6
        clear ab6
        by_cases c19:t127 = 0
        ·rw [ai8 c19] at H
         have ab7:(t127 == 0) = true:=ajI.mpr c19
         have ab8:(t127 != 0) = false:=akz.mpr c19
         clear c19
         by_cases c20:Af > a2
         ·rw [ai8 c20] at H
          have ab9:decide (a2 < Af) = true:=aja c20
          clear c20
          simp only [ajl,ajm] at H
          obtain ⟨rfl,rfl,rfl,rfl⟩:=H
          go_wp2_with (first | ((with_reducible refine bS (f:=146) rfl ?_);refine gJ (some 43) rfl rfl Tryz.func146 (by kernel_rfl) rfl #[.string a0,.int .i64 lV] rfl (by (try simp only [ajG,ajk,ajn]) <;> rfl) ?_;(with_reducible refine (bq.calls k1 a0 lV H6 Af t127 _ A18.out).mono ?_);rintro e w21 ⟨rfl,hb⟩;refine ⟨_,rfl,?_⟩;have fM:=ah.mk (Kd.lD (by (with_reducible repeat (first | apply Kd.gq | apply Kd.gT | apply Kd.iq));exact dP.out) hb);have jJ:=ah.mk (dZ (g:=fO) (o:=.cells #[.int .i64 eP,.int .i64 jd,.int .i64 ku] 205 (0,0)) (by (with_reducible repeat (first | refine aR ?_ _ | refine aW ?_ | refine aN ?_ _));exact dJ.out) hb);have nW:=ah.mk (dZ (g:=dG) (o:=.cells #[.string gI,.string fH,.slice none 0 0] 191 (0,0)) (by (with_reducible repeat (first | refine aR ?_ _ | refine aW ?_ | refine aN ?_ _));exact dD.out) hb);have oW:=ah.mk (dZ (g:=fE) (o:=.cells #[.string (a0.extract (a1:Int).toNat ((wrap64 (a1 + eP)):Int).toNat),.string (⟨#[]⟩:ByteArray),je] 191 (0,0)) (by (with_reducible repeat (first | refine aR ?_ _ | refine aW ?_ | refine aN ?_ _));exact dY.out) hb);have q9:=ah.mk (bL (by repeat (first | (with_reducible first | exact HB.out | apply ak | apply aj | apply au | refine aZ ?_ jl.out | refine aZ ?_ kQ.out | refine aZ ?_ oC.out) | exact HB.out)) hb);clear dP;clear dJ;clear dD;clear dY;clear HB;have dP:=fM;have dJ:=jJ;have dD:=nW;have dY:=oW;have HB:=q9;clear fM jJ nW oW q9;(try clear hb);(try clear hb2);(try clear hk);(try clear hi);have aia:=kH.out;have aib:=fG.out;have aic:=gY.out;have aie:=fu.out;have adQ:w21.cell? ⟨dG,0,none⟩ = some (.string gI):=(bN dD.out 0).trans rfl;have adR:w21.cell? ⟨dG,1,none⟩ = some (.string fH):=(bN dD.out 1).trans rfl;have adS:w21.cell? ⟨dG,2,none⟩ = some (.slice none 0 0):=(bN dD.out 2).trans rfl;have adT:=bJ dD.out 0;have adU:=bJ dD.out 1;have adV:=bJ dD.out 2))
          refine bodyPost_ret (kr rfl _ _ dG 191 #[.string (⟨#[]⟩:ByteArray),.string (⟨#[]⟩:ByteArray),.slice none 0 0] (0,0) _ rfl (by (with_reducible repeat (first | refine aR ?_ _ | refine aW ?_ | refine aN ?_ _));refine iA (cs:=#[.string (⟨#[]⟩:ByteArray),.string (⟨#[]⟩:ByteArray),.slice none 0 0]) ?_ 2 _ rfl;(with_reducible repeat (first | refine aR ?_ _ | refine aW ?_ | refine aN ?_ _));refine iA (cs:=#[.string (⟨#[]⟩:ByteArray),.string fH,.slice none 0 0]) ?_ 1 _ rfl;(with_reducible repeat (first | refine aR ?_ _ | refine aW ?_ | refine aN ?_ _));refine iA (cs:=#[.string gI,.string fH,.slice none 0 0]) ?_ 0 _ rfl;(with_reducible repeat (first | refine aR ?_ _ | refine aW ?_ | refine aN ?_ _));exact dD.out) Tryz.underlying191 rfl (by kernel_rfl)) rfl ?_
          exact ⟨_,by first | rfl | (simp [aJ,aK] <;> rfl) | (simp [*,aJ,aK] <;> rfl),by first | exact Kd.kC _ _ _ _ _ | exact Kd.mW _ _ _ _ _ | exact Kd.mX _ _ _ _ _ | exact Kd.mR _ _ _ _ _ | exact Kd.mV _ _ _ _ _,by repeat (first | (with_reducible first | exact HB.out | apply ak | apply aj | apply au | refine aZ ?_ jl.out | refine aZ ?_ kQ.out | refine aZ ?_ oC.out) | exact HB.out)⟩
         ·rw [ai9 c20] at H
          have ab9:decide (a2 < Af) = false:=ajc c20
          clear c20
          by_cases NH:iG.length < 8796093022208
          ·rw [ai8 NH] at H
           have acd:=ah.mk NH
           clear NH
           obtain ⟨SX,hy128⟩:∃ y_:List ByteArray,y_ = (iG ++ [H6]):=⟨_,rfl⟩
           replace H:(bR.l0 k1 a0 Af a2 jd (wrap64 (uH + 1)) eP jd ku (a0.extract (a1:Int).toNat ((wrap64 (a1 + eP)):Int).toNat) (⟨#[]⟩:ByteArray) SX) = some (r1,r2,r3,r4):=by first | (rw [hy128];with_reducible exact H) | (have Hr:=(Option.bind_some _ _).symm.trans H;rw [hy128];with_reducible exact Hr) | (have Hr:=(Option.bind_some _ _).symm.trans H;with_reducible exact Hr) | with_reducible exact H | (rw [hy128];exact H) | exact H
           have ace:=ah.mk hy128
           clear hy128
           have H':=ah.mk H
           clear H
           go_wp2_with (first | ((with_reducible refine bS (f:=146) rfl ?_);refine gJ (some 43) rfl rfl Tryz.func146 (by kernel_rfl) rfl #[.string a0,.int .i64 lV] rfl (by (try simp only [ajG,ajk,ajn]) <;> rfl) ?_;(with_reducible refine (bq.calls k1 a0 lV H6 Af t127 _ A18.out).mono ?_);rintro e w26 ⟨rfl,hb⟩;refine ⟨_,rfl,?_⟩;have fM:=ah.mk (Kd.lD (by (with_reducible repeat (first | apply Kd.gq | apply Kd.gT | apply Kd.iq));exact dP.out) hb);have jJ:=ah.mk (dZ (g:=fO) (o:=.cells #[.int .i64 eP,.int .i64 jd,.int .i64 ku] 205 (0,0)) (by (with_reducible repeat (first | refine aR ?_ _ | refine aW ?_ | refine aN ?_ _));exact dJ.out) hb);have nW:=ah.mk (dZ (g:=dG) (o:=.cells #[.string gI,.string fH,.slice none 0 0] 191 (0,0)) (by (with_reducible repeat (first | refine aR ?_ _ | refine aW ?_ | refine aN ?_ _));exact dD.out) hb);have oW:=ah.mk (dZ (g:=fE) (o:=.cells #[.string (a0.extract (a1:Int).toNat ((wrap64 (a1 + eP)):Int).toNat),.string (⟨#[]⟩:ByteArray),je] 191 (0,0)) (by (with_reducible repeat (first | refine aR ?_ _ | refine aW ?_ | refine aN ?_ _));exact dY.out) hb);have q9:=ah.mk (bL (by repeat (first | (with_reducible first | exact HB.out | apply ak | apply aj | apply au | refine aZ ?_ jl.out | refine aZ ?_ kQ.out | refine aZ ?_ oC.out) | exact HB.out)) hb);clear dP;clear dJ;clear dD;clear dY;clear HB;have dP:=fM;have dJ:=jJ;have dD:=nW;have dY:=oW;have HB:=q9;clear fM jJ nW oW q9;(try clear hb);(try clear hb2);(try clear hk);(try clear hi);have aif:=oD.out;have aii:=kI.out;have aij:=fu.out;have aik:=gY.out;have adW:w26.cell? ⟨fE,0,none⟩ = some (.string (a0.extract (a1:Int).toNat ((wrap64 (a1 + eP)):Int).toNat)):=(bN dY.out 0).trans rfl;have adX:w26.cell? ⟨fE,1,none⟩ = some (.string (⟨#[]⟩:ByteArray)):=(bN dY.out 1).trans rfl;have adY:w26.cell? ⟨fE,2,none⟩ = some (je):=(bN dY.out 2).trans rfl;have adZ:=bJ dY.out 0;have ad1:=bJ dY.out 1;have ad2:=bJ dY.out 2) | ((with_reducible refine uy (b:=.append) (xs:=#[.tmp 56,.tmp 58]) rfl ?_);at_builtin;refine Kd.Fb Kd.string (w0:=w) w.heap.size rfl (.tmp 56) (.tmp 58) 40 9 (.string ⟨#[]⟩) 16 rfl Tryz.underlying40 Jj rfl (by decide) (by omega) je iG H6 [.string H6] (fun _=>True) (fun _=>False) rfl rfl ?aP (fun _ hk=>hk.elim) ?aF ?aO ?aB ?aS ?aL ?_;(case aP=>exact rfl);(case aB=>exact (by repeat (first | (with_reducible first | exact HB.out | apply ak | apply aj | apply au | refine aZ ?_ jl.out | refine aZ ?_ kQ.out | refine aZ ?_ oC.out) | exact HB.out)));(case aF=>exact (fun _ _=>trivial));(case aO=>exact (by (with_reducible repeat (first | apply Kd.gq | apply Kd.gT | apply Kd.iq));exact dP.out));(case aS=>exact (dB (by repeat (first | (with_reducible first | exact HB.out | apply ak | apply aj | apply au | refine aZ ?_ jl.out | refine aZ ?_ kQ.out | refine aZ ?_ oC.out) | exact HB.out))));(case aL=>have:=acd.out;omega);intro ai2 w30 ho hb hg hat;rw [← ace.out] at ho;have fM:=ah.mk (vv (g:=fO) (o:=.cells #[.int .i64 eP,.int .i64 jd,.int .i64 ku] 205 (0,0)) (by (with_reducible repeat (first | refine aR ?_ _ | refine aW ?_ | refine aN ?_ _));exact dJ.out) hg (Kd.Xo dP.out dJ.out (by decide)));have jJ:=ah.mk (vv (g:=dG) (o:=.cells #[.string gI,.string fH,.slice none 0 0] 191 (0,0)) (by (with_reducible repeat (first | refine aR ?_ _ | refine aW ?_ | refine aN ?_ _));exact dD.out) hg (Kd.Xo dP.out dD.out (by decide)));have nW:=ah.mk (vv (g:=fE) (o:=.cells #[.string (a0.extract (a1:Int).toNat ((wrap64 (a1 + eP)):Int).toNat),.string (⟨#[]⟩:ByteArray),je] 191 (0,0)) (by (with_reducible repeat (first | refine aR ?_ _ | refine aW ?_ | refine aN ?_ _));exact dY.out) hg (Kd.Xo dP.out dY.out (by decide)));have oW:=ah.mk (hb);have q9:=ah.mk (ho);clear dJ;clear dD;clear dY;clear HB;clear dP;have dJ:=fM;have dD:=jJ;have dY:=nW;have HB:=oW;have UZ:=q9;clear fM jJ nW oW q9;clear ho hb hg hat;obtain ⟨acf,acg,agB⟩:=Kd.um UZ.out;subst agB;have ad3:w30.cell? ⟨fE,0,none⟩ = some (.string (a0.extract (a1:Int).toNat ((wrap64 (a1 + eP)):Int).toNat)):=(bN dY.out 0).trans rfl;have ad4:w30.cell? ⟨fE,1,none⟩ = some (.string (⟨#[]⟩:ByteArray)):=(bN dY.out 1).trans rfl;have ad5:w30.cell? ⟨fE,2,none⟩ = some (je):=(bN dY.out 2).trans rfl;have ad6:=bJ dY.out 0;have ad7:=bJ dY.out 1;have ad8:=bJ dY.out 2))
           go_roundg k1
           case measure=>have:=PO.out;omega
           case rel=>exact ⟨(Af),(wrap64 (uH + 1)),(gI),(fH),(SX),(.slice acf SX.length acg),(by first | rfl | (simp;done) | (simp [*];done) | (simp [B.dV];done) | (simp [B.dW];done)),(by first | rfl | (simp;done) | (simp [*];done) | (simp [B.dV];done) | (simp [B.dW];done)),H',⟨by have:=PO.out;omega⟩,⟨by (with_reducible repeat (first | apply Kd.gq | apply Kd.gT | apply Kd.iq));exact Kd.qo (Kd.uh (p:=⟨fE,2,none⟩) (Kd.uj UZ.out dY.out (by decide)) (fun _ hk=>hk.2) (.slice acf SX.length acg)) (fun _ hk=>trivial)⟩,⟨by (with_reducible repeat (first | refine aR ?_ _ | refine aW ?_ | refine aN ?_ _));refine oP ?_ kI.out _;(with_reducible repeat (first | refine aR ?_ _ | refine aW ?_ | refine aN ?_ _));exact dJ.out⟩,⟨by (with_reducible repeat (first | refine aR ?_ _ | refine aW ?_ | refine aN ?_ _));refine oP ?_ gY.out _;(with_reducible repeat (first | refine aR ?_ _ | refine aW ?_ | refine aN ?_ _));exact dD.out⟩,⟨by (with_reducible repeat (first | refine aR ?_ _ | refine aW ?_ | refine aN ?_ _));refine iA (cs:=#[.string (a0.extract (a1:Int).toNat ((wrap64 (a1 + eP)):Int).toNat),.string (⟨#[]⟩:ByteArray),je]) ?_ 2 _ rfl;(with_reducible repeat (first | refine aR ?_ _ | refine aW ?_ | refine aN ?_ _));exact dY.out⟩,⟨by repeat (first | (with_reducible first | exact HB.out | apply ak | apply aj | apply au | refine aZ ?_ jl.out | refine aZ ?_ kQ.out | refine aZ ?_ oC.out) | exact HB.out)⟩⟩
          ·rw [ai9 NH] at H
           exact absurd H (by simp)
        ·rw [ai9 c19] at H
         have ab7:(t127 == 0) = false:=aj7.mpr c19
         have ab8:(t127 != 0) = true:=aki.mpr c19
         simp only [ajl,ajm] at H
         obtain ⟨rfl,rfl,rfl,rfl⟩:=H
         go_wp2_with (first | ((with_reducible refine bS (f:=146) rfl ?_);refine gJ (some 43) rfl rfl Tryz.func146 (by kernel_rfl) rfl #[.string a0,.int .i64 lV] rfl (by (try simp only [ajG,ajk,ajn]) <;> rfl) ?_;(with_reducible refine (bq.calls k1 a0 lV H6 Af t127 _ A18.out).mono ?_);rintro e w33 ⟨rfl,hb⟩;refine ⟨_,rfl,?_⟩;have fM:=ah.mk (Kd.lD (by (with_reducible repeat (first | apply Kd.gq | apply Kd.gT | apply Kd.iq));exact dP.out) hb);have jJ:=ah.mk (dZ (g:=fO) (o:=.cells #[.int .i64 eP,.int .i64 jd,.int .i64 ku] 205 (0,0)) (by (with_reducible repeat (first | refine aR ?_ _ | refine aW ?_ | refine aN ?_ _));exact dJ.out) hb);have nW:=ah.mk (dZ (g:=dG) (o:=.cells #[.string gI,.string fH,.slice none 0 0] 191 (0,0)) (by (with_reducible repeat (first | refine aR ?_ _ | refine aW ?_ | refine aN ?_ _));exact dD.out) hb);have oW:=ah.mk (dZ (g:=fE) (o:=.cells #[.string (a0.extract (a1:Int).toNat ((wrap64 (a1 + eP)):Int).toNat),.string (⟨#[]⟩:ByteArray),je] 191 (0,0)) (by (with_reducible repeat (first | refine aR ?_ _ | refine aW ?_ | refine aN ?_ _));exact dY.out) hb);have q9:=ah.mk (bL (by repeat (first | (with_reducible first | exact HB.out | apply ak | apply aj | apply au | refine aZ ?_ jl.out | refine aZ ?_ kQ.out | refine aZ ?_ oC.out) | exact HB.out)) hb);clear dP;clear dJ;clear dD;clear dY;clear HB;have dP:=fM;have dJ:=jJ;have dD:=nW;have dY:=oW;have HB:=q9;clear fM jJ nW oW q9;(try clear hb);(try clear hb2);(try clear hk);(try clear hi);have ail:=kH.out;have ain:=fG.out;have aio:=gY.out;have aip:=fu.out;have ad9:w33.cell? ⟨dG,0,none⟩ = some (.string gI):=(bN dD.out 0).trans rfl;have aea:w33.cell? ⟨dG,1,none⟩ = some (.string fH):=(bN dD.out 1).trans rfl;have aeb:w33.cell? ⟨dG,2,none⟩ = some (.slice none 0 0):=(bN dD.out 2).trans rfl;have aec:=bJ dD.out 0;have aed:=bJ dD.out 1;have aee:=bJ dD.out 2))
         refine bodyPost_ret (kr rfl _ _ dG 191 #[.string (⟨#[]⟩:ByteArray),.string (⟨#[]⟩:ByteArray),.slice none 0 0] (0,0) _ rfl (by (with_reducible repeat (first | refine aR ?_ _ | refine aW ?_ | refine aN ?_ _));refine iA (cs:=#[.string (⟨#[]⟩:ByteArray),.string (⟨#[]⟩:ByteArray),.slice none 0 0]) ?_ 2 _ rfl;(with_reducible repeat (first | refine aR ?_ _ | refine aW ?_ | refine aN ?_ _));refine iA (cs:=#[.string (⟨#[]⟩:ByteArray),.string fH,.slice none 0 0]) ?_ 1 _ rfl;(with_reducible repeat (first | refine aR ?_ _ | refine aW ?_ | refine aN ?_ _));refine iA (cs:=#[.string gI,.string fH,.slice none 0 0]) ?_ 0 _ rfl;(with_reducible repeat (first | refine aR ?_ _ | refine aW ?_ | refine aN ?_ _));exact dD.out) Tryz.underlying191 rfl (by kernel_rfl)) rfl ?_
         exact ⟨_,by first | rfl | (simp [aJ,aK] <;> rfl) | (simp [*,aJ,aK] <;> rfl),by first | exact Kd.kC _ _ _ _ _ | exact Kd.mW _ _ _ _ _ | exact Kd.mX _ _ _ _ _ | exact Kd.mR _ _ _ _ _ | exact Kd.mV _ _ _ _ _,by repeat (first | (with_reducible first | exact HB.out | apply ak | apply aj | apply au | refine aZ ?_ jl.out | refine aZ ?_ kQ.out | refine aZ ?_ oC.out) | exact HB.out)⟩
       ·rw [ai9 c17] at H
        have ab5:decide (uH < jd) = false:=ajc c17
        clear c17
        by_cases c37:0 ≤ lV
        ·rw [ai8 c37] at H
         have aiq:=ajj c37
         have air:decide (0 ≤ lV) = true:=aja c37
         clear c37
         by_cases PN:lV ≤ a2
         ·rw [ai8 PN] at H
          have ais:=ajj PN
          have ait:decide (lV ≤ a2) = true:=aja PN
          clear PN
          by_cases c39:a2 ≤ (a0.size:Int)
          ·rw [ai8 c39] at H
           have aiu:=ajj c39
           have aiv:decide (a2 ≤ (a0.size:Int)) = true:=aja c39
           clear c39
           simp only [ajl,ajm] at H
           obtain ⟨rfl,rfl,rfl,rfl⟩:=H
           have aiw:=oD.out
           have aix:=kI.out
           have aiy:=fu.out
           have aiz:=gY.out
           have aef:wr.cell? ⟨fE,0,none⟩ = some (.string (a0.extract (a1:Int).toNat ((wrap64 (a1 + eP)):Int).toNat)):=(bN dY.out 0).trans rfl
           have aeg:wr.cell? ⟨fE,1,none⟩ = some (.string (⟨#[]⟩:ByteArray)):=(bN dY.out 1).trans rfl
           have aeh:wr.cell? ⟨fE,2,none⟩ = some (je):=(bN dY.out 2).trans rfl
           have aei:=bJ dY.out 0
           have aej:=bJ dY.out 1
           have aek:=bJ dY.out 2
           try go_wp2
           have fM:ah (Kd.R Kd.string 9 (wr.setCell ⟨fE,1,none⟩ (.string (a0.extract (lV:Int).toNat (a2:Int).toNat))) w.heap.size (fun _=>True) je iG):=⟨by (with_reducible repeat (first | apply Kd.gq | apply Kd.gT | apply Kd.iq));exact Kd.qo (Kd.uh (p:=⟨fE,1,none⟩) (Kd.uj dP.out dY.out (by decide)) (fun _ hk=>hk.2) (.string (a0.extract (lV:Int).toNat (a2:Int).toNat))) (fun _ hk=>trivial)⟩
           have jJ:ah ((wr.setCell ⟨fE,1,none⟩ (.string (a0.extract (lV:Int).toNat (a2:Int).toNat))).heap[fO]? = some (.cells #[.int .i64 eP,.int .i64 jd,.int .i64 ku] 205 (0,0))):=⟨by (with_reducible repeat (first | refine aR ?_ _ | refine aW ?_ | refine aN ?_ _));refine oP ?_ kI.out _;(with_reducible repeat (first | refine aR ?_ _ | refine aW ?_ | refine aN ?_ _));exact dJ.out⟩
           have nW:ah ((wr.setCell ⟨fE,1,none⟩ (.string (a0.extract (lV:Int).toNat (a2:Int).toNat))).heap[dG]? = some (.cells #[.string gI,.string fH,.slice none 0 0] 191 (0,0))):=⟨by (with_reducible repeat (first | refine aR ?_ _ | refine aW ?_ | refine aN ?_ _));refine oP ?_ gY.out _;(with_reducible repeat (first | refine aR ?_ _ | refine aW ?_ | refine aN ?_ _));exact dD.out⟩
           have oW:ah ((wr.setCell ⟨fE,1,none⟩ (.string (a0.extract (lV:Int).toNat (a2:Int).toNat))).heap[fE]? = some (.cells #[.string (a0.extract (a1:Int).toNat ((wrap64 (a1 + eP)):Int).toNat),.string (a0.extract (lV:Int).toNat (a2:Int).toNat),je] 191 (0,0))):=⟨by (with_reducible repeat (first | refine aR ?_ _ | refine aW ?_ | refine aN ?_ _));refine iA (cs:=#[.string (a0.extract (a1:Int).toNat ((wrap64 (a1 + eP)):Int).toNat),.string (⟨#[]⟩:ByteArray),je]) ?_ 1 _ rfl;(with_reducible repeat (first | refine aR ?_ _ | refine aW ?_ | refine aN ?_ _));exact dY.out⟩
           have q9:ah (Below w.heap.size w (wr.setCell ⟨fE,1,none⟩ (.string (a0.extract (lV:Int).toNat (a2:Int).toNat)))):=⟨by repeat (first | (with_reducible first | exact HB.out | apply ak | apply aj | apply au | refine aZ ?_ jl.out | refine aZ ?_ kQ.out | refine aZ ?_ oC.out) | exact HB.out)⟩
           (try clear dP)
           (try clear dJ)
           (try clear dD)
           (try clear dY)
           (try clear HB)
           generalize (wr.setCell ⟨fE,1,none⟩ (.string (a0.extract (lV:Int).toNat (a2:Int).toNat))) = w43 at fM jJ nW oW q9 ⊢
           have dP:=fM
           have dJ:=jJ
           have dD:=nW
           have dY:=oW
           have HB:=q9
           clear fM jJ nW oW q9
           have fM:=ah.mk (Kd.iq dP.out)
           have jJ:=ah.mk (aW dJ.out)
           have nW:=ah.mk (aW dD.out)
           have oW:=ah.mk (aW dY.out)
           have q9:=ah.mk (au HB.out)
           clear dP
           clear dJ
           clear dD
           clear dY
           clear HB
           have dP:=fM
           have dJ:=jJ
           have dD:=nW
           have dY:=oW
           have HB:=q9
           clear fM jJ nW oW q9
           obtain ⟨XH,XI,ach⟩:=Kd.um dP.out
           (first | subst ach | (injection ach with f1_ f2_ f3_;have f4_:=f1_.symm;have f5_:=f3_.symm;clear f1_ f2_ f3_;subst f4_;subst f5_))
           refine Ol (n:=9) (S:=fun w'=>w'.cell? ⟨fE,0,none⟩ = some (.string (a0.extract (a1:Int).toNat ((wrap64 (a1 + eP)):Int).toNat)) ∧ w'.cell? ⟨fE,1,none⟩ = some (.string (a0.extract (lV:Int).toNat (a2:Int).toNat)) ∧ w'.cell? ⟨fE,2,none⟩ = some (.slice XH iG.length XI) ∧ w'.cell? ⟨fO,0,none⟩ = some (.int .i64 eP) ∧ w'.cell? ⟨fO,1,none⟩ = some (.int .i64 jd) ∧ w'.cell? ⟨fO,2,none⟩ = some (.int .i64 ku)) (ds:=[]) #[false,false,false,false,false,false,false,false,false] (by kernel_rfl) rfl rfl ⟨(bN dY.out 0).trans rfl,(bN dY.out 1).trans rfl,(bN dY.out 2).trans rfl,(bN dJ.out 0).trans rfl,(bN dJ.out 1).trans rfl,(bN dJ.out 2).trans rfl⟩ (fun hHeld=>?_);refine Bo bR.ab0 bR.XG (fun wR HW_=>?_)
           generalize w43.drew = w44 at dP dJ dD dY HB hHeld ⊢
           refine lX (i:=1) (N:=some 69) (v:=?_) (a':=?_) #[false,true,false,false,false,false,false,false,false] rfl rfl (jO wR.out (by kernel_rfl)) (fun _ _ _ h=>h) (Or.inl ⟨by rfl,?_⟩) ?_ ?_
           rotate_left
           ·intro w'
            go_simp
            with_reducible rfl
           rotate_left
           ·simp only [Act.put,ajN,List.set_cons_zero,List.set_cons_succ,iI,jh]
            rfl
           refine lX (i:=4) (N:=some 72) (v:=?_) (a':=?_) #[false,true,false,false,true,false,false,false,false] rfl rfl (jO wR.out (by kernel_rfl)) (fun _ _ _ h=>h) (Or.inl ⟨by rfl,?_⟩) ?_ ?_
           rotate_left
           ·intro w'
            go_simp
            with_reducible rfl
           rotate_left
           ·simp only [Act.put,ajN,List.set_cons_zero,List.set_cons_succ,iI,jh]
            rfl
           refine Fa (i:=0) (N:=some 68) (v:=?_) (a':=?_) #[true,true,false,false,true,false,false,false,false] rfl rfl (yX wR.out HW_.out (by kernel_rfl)) (fun _ _ _ h=>h) (Or.inl ⟨by rfl,?_⟩) hHeld ?_ ?_
           rotate_left
           ·rintro w' ⟨s0,s1,s2,s3,s4,s5⟩
            go_simp
            with_reducible rfl
           rotate_left
           ·simp only [Act.put,ajN,List.set_cons_zero,List.set_cons_succ,iI,jh]
            rfl
           refine Fa (i:=2) (N:=some 70) (v:=?_) (a':=?_) #[true,true,true,false,true,false,false,false,false] rfl rfl (yX wR.out HW_.out (by kernel_rfl)) (fun _ _ _ h=>h) (Or.inl ⟨by rfl,?_⟩) hHeld ?_ ?_
           rotate_left
           ·rintro w' ⟨s0,s1,s2,s3,s4,s5⟩
            go_simp
            with_reducible rfl
           rotate_left
           ·simp only [Act.put,ajN,List.set_cons_zero,List.set_cons_succ,iI,jh]
            rfl
           refine lX (i:=3) (N:=some 71) (v:=?_) (a':=?_) #[true,true,true,true,true,false,false,false,false] rfl rfl (jO wR.out (by kernel_rfl)) (fun _ _ _ h=>h) (Or.inl ⟨by rfl,?_⟩) ?_ ?_
           rotate_left
           ·intro w'
            go_simp
            with_reducible rfl
           rotate_left
           ·simp only [Act.put,ajN,List.set_cons_zero,List.set_cons_succ,iI,jh]
            rfl
           refine Fa (i:=5) (N:=some 73) (v:=?_) (a':=?_) #[true,true,true,true,true,true,false,false,false] rfl rfl (yX wR.out HW_.out (by kernel_rfl)) (fun _ _ _ h=>h) (Or.inl ⟨by rfl,?_⟩) hHeld ?_ ?_
           rotate_left
           ·rintro w' ⟨s0,s1,s2,s3,s4,s5⟩
            go_simp
            with_reducible rfl
           rotate_left
           ·simp only [Act.put,ajN,List.set_cons_zero,List.set_cons_succ,iI,jh]
            rfl
           refine lX (i:=6) (N:=some 74) (v:=?_) (a':=?_) #[true,true,true,true,true,true,true,false,false] rfl rfl (jO wR.out (by kernel_rfl)) (fun _ _ _ h=>h) (Or.inl ⟨by rfl,?_⟩) ?_ ?_
           rotate_left
           ·intro w'
            go_simp
            with_reducible rfl
           rotate_left
           ·simp only [Act.put,ajN,List.set_cons_zero,List.set_cons_succ,iI,jh]
            rfl
           refine Xv (i:=7) (N:=none) #[true,true,true,true,true,true,true,true,false] rfl rfl (Hf wR.out (by kernel_rfl)) (by decide) (fun K hK=>?_)
           have ai3:w44.cell? ⟨dG,0,none⟩ = some (.string gI):=(bN dD.out 0).trans rfl
           have aiA:=bJ dD.out 0
           have ael:=fG.out
           have aem:=fu.out
           have aen:=kH.out
           have aeo:=gY.out
           have ai4:w44.cell? ⟨dG,1,none⟩ = some (.string fH):=(bN dD.out 1).trans rfl
           have aiB:=bJ dD.out 1
           have aep:=fG.out
           have aer:=fu.out
           have aes:=kH.out
           have aeu:=gY.out
           have ai5:w44.cell? ⟨dG,2,none⟩ = some (.slice none 0 0):=(bN dD.out 2).trans rfl
           have aiC:=bJ dD.out 2
           have aev:=fG.out
           have aew:=fu.out
           have aex:=kH.out
           have aey:=gY.out
           refine abz (w1:=?_) (by rfl) rfl ?_ ?_
           rotate_left
           ·go_simp
            rfl
           refine hK.out _ _ ⟨((cell_far (p:=⟨dG,_,none⟩) fu.out _).trans (((cell_far (p:=⟨dG,_,none⟩) fu.out _).trans (((cell_far (p:=⟨dG,_,none⟩) fu.out _).trans (hHeld.1)))))),((cell_far (p:=⟨dG,_,none⟩) fu.out _).trans (((cell_far (p:=⟨dG,_,none⟩) fu.out _).trans (((cell_far (p:=⟨dG,_,none⟩) fu.out _).trans (hHeld.2.1)))))),((cell_far (p:=⟨dG,_,none⟩) fu.out _).trans (((cell_far (p:=⟨dG,_,none⟩) fu.out _).trans (((cell_far (p:=⟨dG,_,none⟩) fu.out _).trans (hHeld.2.2.1)))))),((cell_far (p:=⟨dG,_,none⟩) fG.out _).trans (((cell_far (p:=⟨dG,_,none⟩) fG.out _).trans (((cell_far (p:=⟨dG,_,none⟩) fG.out _).trans (hHeld.2.2.2.1)))))),((cell_far (p:=⟨dG,_,none⟩) fG.out _).trans (((cell_far (p:=⟨dG,_,none⟩) fG.out _).trans (((cell_far (p:=⟨dG,_,none⟩) fG.out _).trans (hHeld.2.2.2.2.1)))))),((cell_far (p:=⟨dG,_,none⟩) fG.out _).trans (((cell_far (p:=⟨dG,_,none⟩) fG.out _).trans (((cell_far (p:=⟨dG,_,none⟩) fG.out _).trans (hHeld.2.2.2.2.2))))))⟩ (fun hHeld=>?_)
           clear hK K
           refine lX (i:=8) (N:=some 9) (v:=?_) (a':=?_) #[true,true,true,true,true,true,true,true,true] rfl rfl (jO wR.out (by kernel_rfl)) (fun _ _ _ h=>h) (Or.inl ⟨by rfl,?_⟩) ?_ ?_
           rotate_left
           ·intro w'
            go_simp
            with_reducible rfl
           rotate_left
           ·simp only [Act.put,ajN,List.set_cons_zero,List.set_cons_succ,iI,jh]
            rfl
           refine UF (Jh wR.out (by kernel_rfl)) ?_
           try go_wp2
           refine bodyPost_ret (kr rfl _ _ dG 191 #[.string (a0.extract (a1:Int).toNat ((wrap64 (a1 + eP)):Int).toNat),.string (a0.extract (lV:Int).toNat (a2:Int).toNat),.slice XH iG.length XI] (0,0) _ rfl (by (with_reducible repeat (first | refine aR ?_ _ | refine aW ?_ | refine aN ?_ _));refine iA (cs:=#[.string (a0.extract (a1:Int).toNat ((wrap64 (a1 + eP)):Int).toNat),.string (a0.extract (lV:Int).toNat (a2:Int).toNat),.slice none 0 0]) ?_ 2 _ rfl;(with_reducible repeat (first | refine aR ?_ _ | refine aW ?_ | refine aN ?_ _));refine iA (cs:=#[.string (a0.extract (a1:Int).toNat ((wrap64 (a1 + eP)):Int).toNat),.string fH,.slice none 0 0]) ?_ 1 _ rfl;(with_reducible repeat (first | refine aR ?_ _ | refine aW ?_ | refine aN ?_ _));refine iA (cs:=#[.string gI,.string fH,.slice none 0 0]) ?_ 0 _ rfl;(with_reducible repeat (first | refine aR ?_ _ | refine aW ?_ | refine aN ?_ _));exact dD.out) Tryz.underlying191 rfl (by kernel_rfl)) rfl ?_
           exact ⟨_,by first | rfl | (simp [aJ,aK] <;> rfl) | (simp [*,aJ,aK] <;> rfl),by (with_reducible repeat (first | apply Kd.gq | apply Kd.gT | apply Kd.iq));exact Kd.qo (Kd.uh (p:=⟨dG,2,none⟩) (Kd.uh (p:=⟨dG,1,none⟩) (Kd.uh (p:=⟨dG,0,none⟩) (Kd.uj dP.out dD.out (by decide)) (fun _ hk=>hk.2) (.string (a0.extract (a1:Int).toNat ((wrap64 (a1 + eP)):Int).toNat))) (fun _ hk=>hk.2) (.string (a0.extract (lV:Int).toNat (a2:Int).toNat))) (fun _ hk=>hk.2) (.slice XH iG.length XI)) (fun _ hk=>trivial),by repeat (first | (with_reducible first | exact HB.out | apply ak | apply aj | apply au | refine aZ ?_ jl.out | refine aZ ?_ kQ.out | refine aZ ?_ oC.out) | exact HB.out)⟩
          ·rw [ai9 c39] at H
           exact absurd H (by simp)
         ·rw [ai9 PN] at H
          exact absurd H (by simp)
        ·rw [ai9 c37] at H
         exact absurd H (by simp)
    ·rw [ai9 c8] at H
     exact absurd H (by simp)
   ·rw [ai9 c7] at H
    exact absurd H (by simp)
  ·rw [ai9 c6] at H
   exact absurd H (by simp)
 ·rw [ai9 c5] at H
  have KJ:decide (eP ≤ (wrap64 (a2 - a1))) = false:=ajc c5
  (try (have Sz:decide (eP ≤ ((a2 - a1))) = false:=by have h_:decide (eP ≤ (wrap64 (a2 - a1))) = false:=ajc c5;rw [B.jQ (by omega) (by omega)] at h_;exact h_))
  clear c5
  simp only [ajl,ajm] at H
  obtain ⟨rfl,rfl,rfl,rfl⟩:=H
  go_enter Tryz.func130,Tryz.ntmps130
  go_wp2_with (first | ((with_reducible refine mU (N:=7) rfl ?_);refine lC ?hg (N:=7) ?hd (cs:=#[.int .i64 eP,.int .i64 jd,.int .i64 ku]) (t:=205) ?hr ?_;(case hd=>rfl);(case hg=>rfl);(case hr=>first | (go_simp;done) | (go_simp;rfl));intro fO hg w49 oz hb;have fM:=ah.mk (bL (by repeat first | exact HB.out | apply ak | apply aj | apply au) hb);have jJ:=ah.mk (oz);have nW:=ah.mk ((by rw [hg];exact (dB (by repeat first | exact HB.out | apply ak | apply aj | apply au)):w.heap.size ≤ fO));have oW:=ah.mk ((by rw [hg];exact (dB (by repeat first | exact HB.out | apply ak | apply aj | apply au)):w.heap.size ≤ fO));clear HB;have HB:=fM;have dJ:=jJ;have ab2:=nW;have jl:=oW;clear fM jJ nW oW;clear hb oz hg) | ((with_reducible refine mU (N:=8) rfl ?_);refine lC ?hg (N:=8) ?hd (cs:=#[.string (⟨#[]⟩:ByteArray),.string (⟨#[]⟩:ByteArray),.slice none 0 0]) (t:=191) ?hr ?_;(case hd=>rfl);(case hg=>rfl);(case hr=>first | (go_simp;done) | (go_simp;rfl));intro dG hg w50 oz hb;have fM:=ah.mk (dZ (g:=fO) (o:=.cells #[.int .i64 eP,.int .i64 jd,.int .i64 ku] 205 (0,0)) (by (with_reducible repeat (first | refine aR ?_ _ | refine aW ?_ | refine aN ?_ _));exact dJ.out) hb);have jJ:=ah.mk (bL (by repeat (first | (with_reducible first | exact HB.out | apply ak | apply aj | apply au | refine aZ ?_ jl.out) | exact HB.out)) hb);have nW:=ah.mk (oz);have oW:=ah.mk ((by rw [hg];exact (dB (by repeat (first | (with_reducible first | exact HB.out | apply ak | apply aj | apply au | refine aZ ?_ jl.out) | exact HB.out))):w.heap.size ≤ dG));have q9:=ah.mk ((by rw [hg];exact (dB (by repeat (first | (with_reducible first | exact HB.out | apply ak | apply aj | apply au | refine aZ ?_ jl.out) | exact HB.out))):w.heap.size ≤ dG));have OW:=ah.mk ((by rw [hg];exact Nat.ne_of_lt (jN (g:=fO) (o:=.cells #[.int .i64 eP,.int .i64 jd,.int .i64 ku] 205 (0,0)) (by (with_reducible repeat (first | refine aR ?_ _ | refine aW ?_ | refine aN ?_ _));exact dJ.out)):fO ≠ dG));have OX:=ah.mk ((by rw [hg];exact Nat.ne_of_gt (jN (g:=fO) (o:=.cells #[.int .i64 eP,.int .i64 jd,.int .i64 ku] 205 (0,0)) (by (with_reducible repeat (first | refine aR ?_ _ | refine aW ?_ | refine aN ?_ _));exact dJ.out)):dG ≠ fO));clear dJ;clear HB;have dJ:=fM;have HB:=jJ;have dD:=nW;have ab3:=oW;have kQ:=q9;have fG:=OW;have kH:=OX;clear fM jJ nW oW q9 OW OX;clear hb oz hg) | ((with_reducible refine mU (N:=10) rfl ?_);refine lC ?hg (N:=10) ?hd (cs:=#[.string (⟨#[]⟩:ByteArray),.string (⟨#[]⟩:ByteArray),.slice none 0 0]) (t:=191) ?hr ?_;(case hd=>rfl);(case hg=>rfl);(case hr=>first | (go_simp;done) | (go_simp;rfl));intro fE hg Zb oz hb;have fM:=ah.mk (dZ (g:=fO) (o:=.cells #[.int .i64 eP,.int .i64 jd,.int .i64 ku] 205 (0,0)) (by (with_reducible repeat (first | refine aR ?_ _ | refine aW ?_ | refine aN ?_ _));exact dJ.out) hb);have jJ:=ah.mk (dZ (g:=dG) (o:=.cells #[.string (⟨#[]⟩:ByteArray),.string (⟨#[]⟩:ByteArray),.slice none 0 0] 191 (0,0)) (by (with_reducible repeat (first | refine aR ?_ _ | refine aW ?_ | refine aN ?_ _));exact dD.out) hb);have nW:=ah.mk (bL (by repeat (first | (with_reducible first | exact HB.out | apply ak | apply aj | apply au | refine aZ ?_ jl.out | refine aZ ?_ kQ.out) | exact HB.out)) hb);have oW:=ah.mk (oz);have q9:=ah.mk ((by rw [hg];exact (dB (by repeat (first | (with_reducible first | exact HB.out | apply ak | apply aj | apply au | refine aZ ?_ jl.out | refine aZ ?_ kQ.out) | exact HB.out))):w.heap.size ≤ fE));have OW:=ah.mk ((by rw [hg];exact (dB (by repeat (first | (with_reducible first | exact HB.out | apply ak | apply aj | apply au | refine aZ ?_ jl.out | refine aZ ?_ kQ.out) | exact HB.out))):w.heap.size ≤ fE));have OX:=ah.mk ((by rw [hg];exact Nat.ne_of_lt (jN (g:=fO) (o:=.cells #[.int .i64 eP,.int .i64 jd,.int .i64 ku] 205 (0,0)) (by (with_reducible repeat (first | refine aR ?_ _ | refine aW ?_ | refine aN ?_ _));exact dJ.out)):fO ≠ fE));have n7_:=ah.mk ((by rw [hg];exact Nat.ne_of_gt (jN (g:=fO) (o:=.cells #[.int .i64 eP,.int .i64 jd,.int .i64 ku] 205 (0,0)) (by (with_reducible repeat (first | refine aR ?_ _ | refine aW ?_ | refine aN ?_ _));exact dJ.out)):fE ≠ fO));have n8_:=ah.mk ((by rw [hg];exact Nat.ne_of_lt (jN (g:=dG) (o:=.cells #[.string (⟨#[]⟩:ByteArray),.string (⟨#[]⟩:ByteArray),.slice none 0 0] 191 (0,0)) (by (with_reducible repeat (first | refine aR ?_ _ | refine aW ?_ | refine aN ?_ _));exact dD.out)):dG ≠ fE));have n9_:=ah.mk ((by rw [hg];exact Nat.ne_of_gt (jN (g:=dG) (o:=.cells #[.string (⟨#[]⟩:ByteArray),.string (⟨#[]⟩:ByteArray),.slice none 0 0] 191 (0,0)) (by (with_reducible repeat (first | refine aR ?_ _ | refine aW ?_ | refine aN ?_ _));exact dD.out)):fE ≠ dG));clear dJ;clear dD;clear HB;have dJ:=fM;have dD:=jJ;have HB:=nW;have dY:=oW;have ab4:=q9;have oC:=OW;have kI:=OX;have oD:=n7_;have gY:=n8_;have fu:=n9_;clear fM jJ nW oW q9 OW OX n7_ n8_ n9_;clear hb oz hg;have aiD:=fG.out;have aiE:=kH.out;have aiF:=kI.out;have aiG:=oD.out;have aez:Zb.cell? ⟨fO,0,none⟩ = some (.int .i64 eP):=(bN dJ.out 0).trans rfl;have aeA:Zb.cell? ⟨fO,1,none⟩ = some (.int .i64 jd):=(bN dJ.out 1).trans rfl;have aeB:Zb.cell? ⟨fO,2,none⟩ = some (.int .i64 ku):=(bN dJ.out 2).trans rfl;have aeC:=bJ dJ.out 0;have aeD:=bJ dJ.out 1;have aeE:=bJ dJ.out 2;have aiH:=gY.out;have aiI:=fu.out;have aeF:Zb.cell? ⟨dG,0,none⟩ = some (.string (⟨#[]⟩:ByteArray)):=(bN dD.out 0).trans rfl;have aeG:Zb.cell? ⟨dG,1,none⟩ = some (.string (⟨#[]⟩:ByteArray)):=(bN dD.out 1).trans rfl;have aeH:Zb.cell? ⟨dG,2,none⟩ = some (.slice none 0 0):=(bN dD.out 2).trans rfl;have aeI:=bJ dD.out 0;have aeJ:=bJ dD.out 1;have aeK:=bJ dD.out 2))
  refine bodyPost_ret (kr rfl _ _ dG 191 #[.string (⟨#[]⟩:ByteArray),.string (⟨#[]⟩:ByteArray),.slice none 0 0] (0,0) _ rfl (by (with_reducible repeat (first | refine aR ?_ _ | refine aW ?_ | refine aN ?_ _));refine iA (cs:=#[.string (⟨#[]⟩:ByteArray),.string (⟨#[]⟩:ByteArray),.slice none 0 0]) ?_ 2 _ rfl;(with_reducible repeat (first | refine aR ?_ _ | refine aW ?_ | refine aN ?_ _));refine iA (cs:=#[.string (⟨#[]⟩:ByteArray),.string (⟨#[]⟩:ByteArray),.slice none 0 0]) ?_ 1 _ rfl;(with_reducible repeat (first | refine aR ?_ _ | refine aW ?_ | refine aN ?_ _));refine iA (cs:=#[.string (⟨#[]⟩:ByteArray),.string (⟨#[]⟩:ByteArray),.slice none 0 0]) ?_ 0 _ rfl;(with_reducible repeat (first | refine aR ?_ _ | refine aW ?_ | refine aN ?_ _));exact dD.out) Tryz.underlying191 rfl (by kernel_rfl)) rfl ?_
  exact ⟨_,by first | rfl | (simp [aJ,aK] <;> rfl) | (simp [*,aJ,aK] <;> rfl),by first | exact Kd.kC _ _ _ _ _ | exact Kd.mW _ _ _ _ _ | exact Kd.mX _ _ _ _ _ | exact Kd.mR _ _ _ _ _ | exact Kd.mV _ _ _ _ _,by repeat (first | (with_reducible first | exact HB.out | apply ak | apply aj | apply au | refine aZ ?_ jl.out | refine aZ ?_ kQ.out | refine aZ ?_ oC.out) | exact HB.out)⟩
theorem iT.keep {a b:ByteArray} {v:Value} {l:List ByteArray} {base g:Nat} {ok:Nat → Prop} {w w1 w2:World}
  (h:(w1.cell? ⟨g,0,none⟩ = some (.string a) ∧ w1.cell? ⟨g,1,none⟩ = some (.string b) ∧ w1.cell? ⟨g,2,none⟩ = some v) ∧ ah (Below g w w1 ∧ g < w1.heap.size ∧ Kd.R Kd.string 9 w1 base ok v l)) (hb:Below w1.heap.size w1 w2) :
  (w2.cell? ⟨g,0,none⟩ = some (.string a) ∧ w2.cell? ⟨g,1,none⟩ = some (.string b) ∧ w2.cell? ⟨g,2,none⟩ = some v) ∧ ah (Below g w w2 ∧ g < w2.heap.size ∧ Kd.R Kd.string 9 w2 base ok v l):=by
 obtain ⟨⟨c0,c1,c2⟩,⟨h1,h2,h3⟩⟩:=h
 have hs:=hb.size
 exact ⟨⟨(hb.cell h2).trans c0,(hb.cell h2).trans c1,(hb.cell h2).trans c2⟩,⟨h1.trans (hb.mono (by omega)),by omega,Kd.lD h3 hb⟩⟩
theorem iT.calls (a b:ByteArray) (v:Value) (l:List ByteArray) (base:Nat) (ok:Nat → Prop) (w:World) (hr:Kd.R Kd.string 9 w base ok v l) (hl:l.length ≤ 1000000) (hz:a.size + (strings_Join.cat l).size + b.size ≤ 140737488355328) :
  Calls Tryz.prog 147 #[.agg #[.string a,.string b,v]] w fun e w'=>e = .returned (.string (a ++ strings_Join.cat l ++ b)) ∧ Below w.heap.size w w':=by
 have HB:=ah.mk (ak (Below.refl w.heap.size w) (.cells #[.string a,.string b,v] 191 (0,0)))
 have HR:=ah.mk (Kd.gq hr (.cells #[.string a,.string b,v] 191 (0,0)))
 have HC:(w.alloc (.cells #[.string a,.string b,v] 191 (0,0))).cell? ⟨w.heap.size,0,none⟩ = some (.string a) ∧ (w.alloc (.cells #[.string a,.string b,v] 191 (0,0))).cell? ⟨w.heap.size,1,none⟩ = some (.string b) ∧ (w.alloc (.cells #[.string a,.string b,v] 191 (0,0))).cell? ⟨w.heap.size,2,none⟩ = some v:=by
  refine ⟨?_,?_,?_⟩ <;> (rw [Lib.cell_of_heap (heap_alloc_new w _)];rfl)
 have HC0:=ah.mk HC
 clear HC
 have HC:=HC0
 clear HC0
 have hs:w.heap.size < (w.alloc (.cells #[.string a,.string b,v] 191 (0,0))).heap.size:=by show _ < (w.heap.push _).size;rw [akj];omega
 have HS:=ah.mk hs
 have HZ:=ah.mk hz
 have HL:=ah.mk hl
 clear hs hz hr hl
 go_enter Tryz.func147,Tryz.ntmps147
 go_wp2
 generalize w.alloc (.cells #[.string a,.string b,v] 191 (0,0)) = w1 at *
 generalize hgg:w.heap.size = g at *
 have hgg:=ah.mk hgg
 have hf1:a.size + (strings_Join.cat l).size ≤ 9223372036854775807:=by have:=HZ.out;omega
 have hf2:a.size + (strings_Join.cat l).size + b.size ≤ 9223372036854775807:=by have:=HZ.out;omega
 have c0:=HC.out.1
 have c1:=HC.out.2.1
 have c2:=HC.out.2.2
 go_region_held (fun w'=>(w'.cell? ⟨g,0,none⟩ = some (.string a) ∧ w'.cell? ⟨g,1,none⟩ = some (.string b) ∧ w'.cell? ⟨g,2,none⟩ = some v) ∧ ah (Below g w w' ∧ g < w'.heap.size ∧ Kd.R Kd.string 9 w' base ok v l)) ((first | assumption | exact iT.keep ⟨⟨c0,c1,c2⟩,⟨HB.out,HS.out,HR.out⟩⟩ (iL (Below.refl _ _)) | exact iT.keep (by assumption) (by assumption))) ((first | (go_at_call 156;refine (strings_Join.calls v l base ok _ (Kd.iq HR.out) HL.out (by have:=HZ.out;omega)).mono ?_;rintro e w' ⟨rfl,hb'⟩)))
 all_goals
  rename_i hx
  go_wp2
  go_ret
  exact ⟨rfl,hgg.out ▸ hx.2.out.1⟩
def dK.l0 : Nat → ByteArray → Option (Bool)
 | 0,_=>none
 | k + 1,x0=>if x0.toList = ([]:List UInt8) then (some true) else (if 0 < (x0.size:Int) then (if (wrap64 (1 + (wrap64 (bt x0 0)))) > (x0.size:Int) then (some false) else (if 0 ≤ (wrap64 (1 + (wrap64 (bt x0 0)))) then (if (wrap64 (1 + (wrap64 (bt x0 0)))) ≤ (x0.size:Int) then (dK.l0 k (x0.extract ((wrap64 (1 + (wrap64 (bt x0 0)))):Int).toNat x0.size)) else (none)) else (none))) else (none))
def dK.f (k:Nat) (a0:ByteArray):Option (Bool):=if a0.toList = ([]:List UInt8) then (some false) else (dK.l0 k a0)
theorem dK.calls (k:Nat) (a0:ByteArray) (r:Bool) (w:World) (h:dK.f k a0 = some r) :
  Calls Tryz.prog 152 #[.string a0] w fun e w'=>e = .returned (.bool r) ∧ bQ w w':=by
 have H:(if a0.toList = ([]:List UInt8) then (some false) else (dK.l0 k a0)) = some r:=h
 clear h
 by_cases c2:a0.toList = ([]:List UInt8)
 ·rw [ai8 c2] at H
  have Ac:(a0.toList == ([]:List UInt8)) = true:=ajI.mpr c2
  have KD:(a0.toList != ([]:List UInt8)) = false:=akz.mpr c2
  have aci:a0.toList.isEmpty = true:=List.isEmpty_iff.mpr c2
  clear c2
  obtain rfl:=ajz H
  go_enter Tryz.func152,Tryz.ntmps152
  go_wp2
  go_ret
  exact ⟨by first | rfl | (simp;done) | (simp [*];done),by repeat (first | exact bQ.refl _ | apply bQ.step)⟩
 ·rw [ai9 c2] at H
  have Ac:(a0.toList == ([]:List UInt8)) = false:=aj7.mpr c2
  have KD:(a0.toList != ([]:List UInt8)) = true:=aki.mpr c2
  have aci:a0.toList.isEmpty = false:=ajP.mpr (fun h_=>c2 (List.isEmpty_iff.mp h_))
  have H':=ah.mk H
  clear H
  go_enter Tryz.func152,Tryz.ntmps152
  go_wp2
  go_loopg [0] k (fun kq v0 w'=>∃ (bF:ByteArray),v0 = .string bF ∧ ah (dK.l0 kq bF = some r) ∧ ah (kq ≤ k) ∧ bQ w w')
  case atStart=>exact ⟨(a0),(by first | rfl | (simp;done) | (simp [*];done) | (simp [B.dV];done) | (simp [B.dW];done)),H',⟨ajd _⟩,by repeat (first | exact bQ.refl _ | apply bQ.step)⟩
  case round =>
   clear H'
   try clear c1
   try clear c2
   try clear Ac
   try clear KD
   try clear aci
   try clear p2
   obtain ⟨bF,rfl,HA,PO,⟨m1,rfl⟩⟩:=hrel
   cases gk with
   | zero=>exact absurd HA.out (by simp [dK.l0])
   | succ k1 =>
    have H:=HA.out
    clear HA
    simp only [dK.l0] at H
    by_cases c3:bF.toList = ([]:List UInt8)
    ·rw [ai8 c3] at H
     have vE:(bF.toList == ([]:List UInt8)) = true:=ajI.mpr c3
     have Ht:(bF.toList != ([]:List UInt8)) = false:=akz.mpr c3
     have OC:bF.toList.isEmpty = true:=List.isEmpty_iff.mpr c3
     clear c3
     obtain rfl:=ajz H
     go_wp2
     go_ret
     exact ⟨by first | rfl | (simp;done) | (simp [*];done),by repeat (first | exact bQ.refl _ | apply bQ.step)⟩
    ·rw [ai9 c3] at H
     have vE:(bF.toList == ([]:List UInt8)) = false:=aj7.mpr c3
     have Ht:(bF.toList != ([]:List UInt8)) = true:=aki.mpr c3
     have OC:bF.toList.isEmpty = false:=ajP.mpr (fun h_=>c3 (List.isEmpty_iff.mp h_))
     by_cases c4:0 < (bF.size:Int)
     ·rw [ai8 c4] at H
      have yZ:decide (0 < (bF.size:Int)) = true:=aja c4
      have Hl:decide (0 < bF.size) = true:=aja (by omega)
      clear c4
      by_cases c6:(wrap64 (1 + (wrap64 (bt bF 0)))) > (bF.size:Int)
      ·rw [ai8 c6] at H
       have Ho:decide ((bF.size:Int) < (wrap64 (1 + (wrap64 (bt bF 0))))) = true:=aja c6
       (try (have KE:decide ((bF.size:Int) < ((1 + ((bt bF 0))))) = true:=by have h_:decide ((bF.size:Int) < (wrap64 (1 + (wrap64 (bt bF 0))))) = true:=aja c6;rw [B.jQ (by omega) (by omega)] at h_;rw [B.jQ (by omega) (by omega)] at h_;exact h_))
       clear c6
       obtain rfl:=ajz H
       have p5:0 ≤ (0:Int):=(by omega)
       have q5:0 < bF.size:=(by have:(0:Int) < (bF.size:Int):=ajw (by first | (with_reducible assumption) | assumption);omega)
       have hx5:∀ h:0 < bF.size,((bF[0]'h).toNat:Int) = bt bF 0:=pE bF 0
       clear p5
       have qi5:(0 < (bF.size:Int)) = True:=ajj (ajw (by first | (with_reducible assumption) | assumption))
       replace q5:=ajj q5
       go_wp2
       go_ret
       exact ⟨by first | rfl | (simp;done) | (simp [*];done),by repeat (first | exact bQ.refl _ | apply bQ.step)⟩
      ·rw [ai9 c6] at H
       have Ho:decide ((bF.size:Int) < (wrap64 (1 + (wrap64 (bt bF 0))))) = false:=ajc c6
       (try (have KE:decide ((bF.size:Int) < ((1 + ((bt bF 0))))) = false:=by have h_:decide ((bF.size:Int) < (wrap64 (1 + (wrap64 (bt bF 0))))) = false:=ajc c6;rw [B.jQ (by omega) (by omega)] at h_;rw [B.jQ (by omega) (by omega)] at h_;exact h_))
       clear c6
       obtain ⟨SY,KU⟩:∃ j_:Int,(wrap64 (1 + (wrap64 (bt bF 0)))) = j_:=⟨_,rfl⟩
       replace H:(if 0 ≤ (SY) then (if (SY) ≤ (bF.size:Int) then (dK.l0 k1 (bF.extract ((SY):Int).toNat bF.size)) else (none)) else (none)) = some r:=by first | (rw [KU] at H;exact H) | (simp only [KU] at H ⊢;exact H)
       (try rw [KU] at Ho)
       (try rw [KU] at KE)
       have aiJ:(IntKind.i64.wrap (1 + (wrap64 (bt bF 0)))) = SY:=(iI _).trans KU
       by_cases c8:0 ≤ (SY)
       ·rw [ai8 c8] at H
        have KF:=ajj c8
        have KG:decide (0 ≤ (SY)) = true:=aja c8
        clear c8
        by_cases c9:(SY) ≤ (bF.size:Int)
        ·rw [ai8 c9] at H
         have Hq:=ajj c9
         have Oy:decide ((SY) ≤ (bF.size:Int)) = true:=aja c9
         clear c9
         have H':=ah.mk H
         clear H
         have p5:0 ≤ (0:Int):=(by omega)
         have q5:0 < bF.size:=(by have:(0:Int) < (bF.size:Int):=ajw (by first | (with_reducible assumption) | assumption);omega)
         have hx5:∀ h:0 < bF.size,((bF[0]'h).toNat:Int) = bt bF 0:=pE bF 0
         clear p5
         have qi5:(0 < (bF.size:Int)) = True:=ajj (ajw (by first | (with_reducible assumption) | assumption))
         replace q5:=ajj q5
         go_wp2
         go_roundg k1
         case measure=>have:=PO.out;omega
         case rel=>exact ⟨(bF.extract ((SY):Int).toNat bF.size),(by first | rfl | (simp;done) | (simp only [← KU] <;> (first | rfl | simp)) | (simp [*];done)),H',⟨by have:=PO.out;omega⟩,by repeat (first | exact bQ.refl _ | apply bQ.step)⟩
        ·rw [ai9 c9] at H
         exact absurd H (by simp)
       ·rw [ai9 c8] at H
        exact absurd H (by simp)
     ·rw [ai9 c4] at H
      exact absurd H (by simp)
def aA.DY (k:Int):Option (Int × Int × Int) :=
 if k = 1 then some (4,0,0) else if k = 28 then some (16,0,0) else if k = 2 then some (0,1,0) else if k = 5 then some (0,1,0) else if k = 12 then some (0,1,0) else if k = 6 then some (0,2,20) else if k = 15 then some (2,1,0) else if k = 33 then some (6,1,0) else none
theorem aA.xg (k:Int):Mi.sP k bV.tab = (aA.DY k).map fun s=>bV.agg s.1 s.2.1 s.2.2:=by
 unfold aA.DY bV.tab
 simp only [Mi.sP]
 repeat' split
 all_goals rfl
def aA.fin (k:Nat) (kind:Int) (d:ByteArray) (is:Bool):Option (ByteArray × Int) :=
 if is = true then (if kind = 16 then ((dK.f k d).bind fun b=>if b = true then (if (d.size:Int) > 65535 then some (⟨#[]⟩,4) else some (d,0)) else some (⟨#[]⟩,4)) else (if (d.size:Int) > 65535 then some (⟨#[]⟩,4) else some (d,0))) else some (⟨#[]⟩,4)
def aA.g (k:Nat) (a0:ByteArray) (a1 a2 a3:Int) (s:Int × Int × Int):Option (ByteArray × Int) :=
 (bR.f k a0 a1 (wrap64 (a1 + a2)) s.1 s.2.1 s.2.2).bind fun p=>if p.1.size + (strings_Join.cat p.2.2.1).size + p.2.1.size ≤ 140737488355328 then (if p.2.2.1.length ≤ 1000000 then aA.fin k a3 (p.1 ++ strings_Join.cat p.2.2.1 ++ p.2.1) p.2.2.2 else none) else none
def aA.f (k:Nat) (a0:ByteArray) (a1 a2 a3:Int):Option (ByteArray × Int) :=
 (eX.f a0 a1 a2).bind fun t=>if t.2 = true then (match aA.DY a3 with | some s=>aA.g k a0 a1 a2 a3 s | none=>aA.fin k a3 t.1 true) else some (⟨#[]⟩,2)
theorem aA.Bw {k:Nat} {kind:Int} {d:ByteArray} {r:ByteArray × Int} (h:aA.fin k kind d true = some r) (hk:kind = 16) :
  ∃ b,dK.f k d = some b ∧ (if b = true then (if (d.size:Int) > 65535 then some ((⟨#[]⟩:ByteArray),(4:Int)) else some (d,0)) else some (⟨#[]⟩,4)) = some r:=by
 unfold aA.fin at h
 rw [ai8 rfl,ai8 hk] at h
 exact zbm h
theorem aA.qM {k:Nat} {kind:Int} {d:ByteArray} {r:ByteArray × Int} (h:aA.fin k kind d true = some r) (hk:¬ kind = 16) :
  (if (d.size:Int) > 65535 then some ((⟨#[]⟩:ByteArray),(4:Int)) else some (d,0)) = some r:=by
 unfold aA.fin at h
 rw [ai8 rfl,ai9 hk] at h
 exact h
theorem aA.XJ {k:Nat} {kind:Int} {d:ByteArray} {r:ByteArray × Int} (h:aA.fin k kind d false = some r):r = (⟨#[]⟩,4):=by
 unfold aA.fin at h
 rw [ai9 aj6] at h
 exact (ajz h).symm
theorem aA.slc {v:Value} {l:List ByteArray} {base:Nat} {ok:Nat → Prop} {w:World} (hr:Kd.R Kd.string 9 w base ok v l):∃ A n c,v = .slice A n c:=by
 rcases (Kd.uo hr).2 with ⟨rfl,_⟩ | ⟨g,cap,cur,rfl,_⟩
 ·exact ⟨_,_,_,rfl⟩
 ·exact ⟨_,_,_,rfl⟩
theorem aA.mE {b:Bool} {d r1:ByteArray} {r2:Int} (h:(if b = true then (if (d.size:Int) > 65535 then some ((⟨#[]⟩:ByteArray),(4:Int)) else some (d,0)) else some (⟨#[]⟩,4)) = some (r1,r2)) :
  (b = true → 65535 < (d.size:Int) → r1 = ⟨#[]⟩ ∧ r2 = 4) ∧ (b = true → (d.size:Int) ≤ 65535 → r1 = d ∧ r2 = 0) ∧ (b = false → r1 = ⟨#[]⟩ ∧ r2 = 4):=by
 refine ⟨fun h1 h2=>?_,fun h1 h2=>?_,fun h1=>?_⟩
 ·rw [ai8 h1,ai8 h2] at h;cases h;exact ⟨rfl,rfl⟩
 ·rw [ai8 h1,ai9 (by omega)] at h;cases h;exact ⟨rfl,rfl⟩
 ·rw [h1,ai9 aj6] at h;cases h;exact ⟨rfl,rfl⟩
theorem aA.qN {d r1:ByteArray} {r2:Int} (h:(if (d.size:Int) > 65535 then some ((⟨#[]⟩:ByteArray),(4:Int)) else some (d,0)) = some (r1,r2)) :
  (65535 < (d.size:Int) → r1 = ⟨#[]⟩ ∧ r2 = 4) ∧ ((d.size:Int) ≤ 65535 → r1 = d ∧ r2 = 0):=by
 refine ⟨fun h2=>?_,fun h2=>?_⟩
 ·rw [ai8 h2] at h;cases h;exact ⟨rfl,rfl⟩
 ·rw [ai9 (by omega)] at h;cases h;exact ⟨rfl,rfl⟩
theorem aA.calls (k:Nat) (a0:ByteArray) (a1 a2 a3:Int) (r1:ByteArray) (r2:Int) (w:World) (h:aA.f k a0 a1 a2 a3 = some (r1,r2)) :
  Calls Tryz.prog 145 #[.string a0,.int .i64 a1,.int .i64 a2,.int .i64 a3] w fun e w'=>e = .returned (.tuple #[.string r1,.int .i64 r2]) ∧ Below w.heap.size w w':=by
 have HB:=ah.mk (Below.refl w.heap.size w)
 obtain ⟨⟨t1,t2⟩,ht,h'⟩:=zbm h
 clear h
 have HT:=ah.mk ht
 clear ht
 cases t2 with
 | false =>
  rw [ai9 aj6] at h'
  obtain ⟨rfl,rfl⟩:=ajm .. ▸ ajz h'
  go_enter Tryz.func145,Tryz.ntmps145
  go_wp2_with (first | (go_at_call 136;refine (eX.calls _ _ _ _ _ _ HT.out).mono ?_;rintro e w1 ⟨rfl,hd1⟩))
  go_ret2
  exact ⟨rfl,hd1.below⟩
 | true =>
  replace h':(match aA.DY a3 with | some s=>aA.g k a0 a1 a2 a3 s | none=>aA.fin k a3 t1 true) = some (r1,r2):=h'
  cases hsh:aA.DY a3 with
  | none =>
   rw [hsh] at h'
   have HH:=ah.mk (show aA.fin k a3 t1 true = some (r1,r2) from h')
   clear h'
   have hfn:Mi.sP a3 bV.tab = none:=by rw [aA.xg,hsh];rfl
   go_enter Tryz.func145,Tryz.ntmps145
   go_wp2_with (first
    | (go_at_call 136;refine (eX.calls _ _ _ _ _ _ HT.out).mono ?_;rintro e w1 ⟨rfl,hd1⟩)
    | (go_at_call 129;refine (bV.calls _).mono ?_;rintro e w2 ⟨g,rfl,hin⟩;have hl:=Mi.look (P:=Tryz.prog) hin.at_ 207 3 205 Tryz.underlying207 Tryz.underlying3 _ (Tryz.zeroValue205 w2) a3;rw [hfn] at hl;have hB2:=ah.mk ((HB.out.trans hd1.below).trans (hin.PS.mono hd1.below.size));clear hin)
    | (go_at_call 152;obtain ⟨b,hb,hx⟩:=aA.Bw HH.out (by assumption);have hx:=ah.mk hx;refine (dK.calls _ _ _ _ hb).mono ?_;rintro e w3 ⟨rfl,hd3⟩))
   all_goals
    go_ret2
    first
     | (have hq:=(aA.mE hx.out).1 (by assumption) (by assumption);obtain ⟨rfl,rfl⟩:=hq;exact ⟨rfl,(ak hB2.out _).trans (hd3.below.mono (by have:=hB2.out.size;simp only [World.alloc,akj];omega))⟩)
     | (have hq:=(aA.mE hx.out).2.1 (by assumption) (by assumption);obtain ⟨rfl,rfl⟩:=hq;exact ⟨rfl,(ak hB2.out _).trans (hd3.below.mono (by have:=hB2.out.size;simp only [World.alloc,akj];omega))⟩)
     | (have hq:=(aA.mE hx.out).2.2 (by first | assumption | simpa using ‹¬ b = true›);obtain ⟨rfl,rfl⟩:=hq;exact ⟨rfl,(ak hB2.out _).trans (hd3.below.mono (by have:=hB2.out.size;simp only [World.alloc,akj];omega))⟩)
     | (have hq:=(aA.qN (aA.qM HH.out (by assumption))).1 (by assumption);obtain ⟨rfl,rfl⟩:=hq;exact ⟨rfl,ak hB2.out _⟩)
     | (have hq:=(aA.qN (aA.qM HH.out (by assumption))).2 (by assumption);obtain ⟨rfl,rfl⟩:=hq;exact ⟨rfl,ak hB2.out _⟩)
  | some s =>
   obtain ⟨s0,s1,s2⟩:=s
   rw [hsh] at h'
   replace h':aA.g k a0 a1 a2 a3 (s0,s1,s2) = some (r1,r2):=h'
   unfold aA.g at h'
   obtain ⟨⟨p1,p2,p3,p4⟩,hp,h'⟩:=zbm h'
   replace h':(if p1.size + (strings_Join.cat p3).size + p2.size ≤ 140737488355328 then (if p3.length ≤ 1000000 then aA.fin k a3 (p1 ++ strings_Join.cat p3 ++ p2) p4 else none) else none) = some (r1,r2):=h'
   have hp:=ah.mk (show bR.f k a0 a1 (wrap64 (a1 + a2)) s0 s1 s2 = some (p1,p2,p3,p4) from hp)
   by_cases z1:p1.size + (strings_Join.cat p3).size + p2.size ≤ 140737488355328
   ·rw [ai8 z1] at h'
    by_cases z2:p3.length ≤ 1000000
    ·rw [ai8 z2] at h'
     have HH:=ah.mk h'
     have z1:=ah.mk z1
     have z2:=ah.mk z2
     clear h'
     have hfn:Mi.sP a3 bV.tab = some (bV.agg s0 s1 s2):=by rw [aA.xg,hsh];rfl
     cases p4
     all_goals
      go_enter Tryz.func145,Tryz.ntmps145
      go_wp2_with (first
       | (go_at_call 136;refine (eX.calls _ _ _ _ _ _ HT.out).mono ?_;rintro e w1 ⟨rfl,hd1⟩)
       | (go_at_call 129;refine (bV.calls _).mono ?_;rintro e w2 ⟨g,rfl,hin⟩;have hl:=Mi.look (P:=Tryz.prog) hin.at_ 207 3 205 Tryz.underlying207 Tryz.underlying3 _ (Tryz.zeroValue205 w2) a3;rw [hfn] at hl;replace hl:=show _ = Result.ok (Value.tuple #[.agg #[.int .i64 s0,.int .i64 s1,.int .i64 s2],.bool true]) w2 from hl;have hB2:=ah.mk ((HB.out.trans hd1.below).trans (hin.PS.mono hd1.below.size));clear hin)
       | (go_at_call 130;refine (bR.calls _ _ _ _ _ _ _ _ _ _ _ _ hp.out).mono ?_;rintro e w3 ⟨v,rfl,hv,hb3⟩;obtain ⟨vA,vn,vc,rfl⟩:=aA.slc hv;have hB3:=ah.mk ((ak hB2.out _).trans (hb3.mono (by have:=hB2.out.size;simp only [World.alloc,akj];omega)));have hv:=ah.mk hv;clear hb3)
       | (go_at_call 147;refine (iT.calls _ _ _ p3 _ _ _ (Kd.gq hv.out _) z2.out z1.out).mono ?_;rintro e w4 ⟨rfl,hb4⟩;have hB4:=ah.mk ((ak hB3.out _).trans (hb4.mono (by have:=hB3.out.size;simp only [World.alloc,akj];omega)));clear hb4)
       | (go_at_call 152;obtain ⟨b,hb,hx⟩:=aA.Bw HH.out (by assumption);have hx:=ah.mk hx;refine (dK.calls _ _ _ _ hb).mono ?_;rintro e w5 ⟨rfl,hd3⟩))
      all_goals
       go_ret2
       first
        | (have hq:=aA.XJ HH.out;cases hq;exact ⟨rfl,hB4.out⟩)
        | (have hq:=(aA.mE hx.out).1 (by first | assumption | (simp only [ajs,Int.natCast_add];assumption)) (by first | assumption | (simp only [ajs,Int.natCast_add];assumption));obtain ⟨rfl,rfl⟩:=hq;exact ⟨rfl,hB4.out.trans (hd3.below.mono hB4.out.size)⟩)
        | (have hq:=(aA.mE hx.out).2.1 (by first | assumption | (simp only [ajs,Int.natCast_add];assumption)) (by first | assumption | (simp only [ajs,Int.natCast_add];assumption));obtain ⟨rfl,rfl⟩:=hq;exact ⟨rfl,hB4.out.trans (hd3.below.mono hB4.out.size)⟩)
        | (have hq:=(aA.mE hx.out).2.2 (by first | assumption | simpa using ‹¬ b = true›);obtain ⟨rfl,rfl⟩:=hq;exact ⟨rfl,hB4.out.trans (hd3.below.mono hB4.out.size)⟩)
        | (have hq:=(aA.qN (aA.qM HH.out (by first | assumption | (simp only [ajs,Int.natCast_add];assumption)))).1 (by first | assumption | (simp only [ajs,Int.natCast_add];assumption));obtain ⟨rfl,rfl⟩:=hq;exact ⟨rfl,hB4.out⟩)
        | (have hq:=(aA.qN (aA.qM HH.out (by first | assumption | (simp only [ajs,Int.natCast_add];assumption)))).2 (by first | assumption | (simp only [ajs,Int.natCast_add];assumption));obtain ⟨rfl,rfl⟩:=hq;exact ⟨rfl,hB4.out⟩)
    ·rw [ai9 z2] at h';cases h'
   ·rw [ai9 z1] at h';cases h'
def jf.f (k:Nat) (a0:Int) (a1:ByteArray):Option (Bool):=if (a1.size:Int) > 65535 then (some false) else ((aA.f k a1 0 (a1.size:Int) a0).bind fun FM=>(if FM.2 = 0 then (some (FM.1.toList == a1.toList)) else (some false)))
theorem jf.calls (k:Nat) (a0:Int) (a1:ByteArray) (r:Bool) (w:World) (h:jf.f k a0 a1 = some r) :
  Calls Tryz.prog 128 #[.int .i64 a0,.string a1] w fun e w'=>e = .returned (.bool r) ∧ Below w.heap.size w w':=by
 have HB:=ah.mk (Below.refl w.heap.size w)
 have H:(if (a1.size:Int) > 65535 then (some false) else ((aA.f k a1 0 (a1.size:Int) a0).bind fun FM=>(if FM.2 = 0 then (some (FM.1.toList == a1.toList)) else (some false)))) = some r:=h
 clear h
 by_cases c3:(a1.size:Int) > 65535
 ·rw [ai8 c3] at H
  have vE:decide (65535 < (a1.size:Int)) = true:=aja c3
  have Ht:decide (65535 < a1.size) = true:=aja (by omega)
  clear c3
  obtain rfl:=ajz H
  go_enter Tryz.func128,Tryz.ntmps128
  go_wp2
  go_ret
  exact ⟨by first | rfl | (simp [aJ,aK] <;> rfl) | (simp [*,aJ,aK] <;> rfl),by repeat (first | exact HB.out | apply ak | apply aj | apply au)⟩
 ·rw [ai9 c3] at H
  have vE:decide (65535 < (a1.size:Int)) = false:=ajc c3
  have Ht:decide (65535 < a1.size) = false:=ajc (by omega)
  clear c3
  replace H:=zbm H
  obtain ⟨⟨t131,FP⟩,OA,H⟩:=H
  replace H:(if FP = 0 then (some (t131.toList == a1.toList)) else (some false)) = some r:=H
  have A4:=ah.mk OA
  clear OA
  by_cases c5:FP = 0
  ·rw [ai8 c5] at H
   have KJ:(FP == 0) = true:=ajI.mpr c5
   have Sz:(FP != 0) = false:=akz.mpr c5
   clear c5
   obtain rfl:=ajz H
   go_enter Tryz.func128,Tryz.ntmps128
   go_wp2_with (first | ((with_reducible refine bS (f:=145) rfl ?_);refine gJ (some 15) rfl rfl Tryz.func145 (by kernel_rfl) rfl #[.string a1,.int .i64 0,.int .i64 (a1.size:Int),.int .i64 a0] rfl (by (try simp only [ajG,ajk,ajn]);first | done | rfl | (simp only [ajA,ajq];rfl) | (simp only [ajs,Int.natCast_add];rfl) | (rw [B.jQ] <;> first | rfl | omega | (simp only [ajZ,ajt,Int.not_lt,Nat.not_lt,gt_iff_lt] at * <;> omega))) ?_;(with_reducible refine (aA.calls k a1 0 (a1.size:Int) a0 t131 FP _ A4.out).mono ?_);rintro e w6 ⟨rfl,hb⟩;refine ⟨_,rfl,?_⟩;have fM:=ah.mk (bL (by repeat first | exact HB.out | apply ak | apply aj | apply au) hb);clear HB;have HB:=fM;clear fM;(try clear hb);(try clear hb2);(try clear hk);(try clear hi)))
   go_ret
   exact ⟨by first | rfl | (simp [aJ,aK] <;> rfl) | (simp [*,aJ,aK] <;> rfl),by repeat (first | exact HB.out | apply ak | apply aj | apply au)⟩
  ·rw [ai9 c5] at H
   have KJ:(FP == 0) = false:=aj7.mpr c5
   have Sz:(FP != 0) = true:=aki.mpr c5
   obtain rfl:=ajz H
   go_enter Tryz.func128,Tryz.ntmps128
   go_wp2_with (first | ((with_reducible refine bS (f:=145) rfl ?_);refine gJ (some 15) rfl rfl Tryz.func145 (by kernel_rfl) rfl #[.string a1,.int .i64 0,.int .i64 (a1.size:Int),.int .i64 a0] rfl (by (try simp only [ajG,ajk,ajn]);first | done | rfl | (simp only [ajA,ajq];rfl) | (simp only [ajs,Int.natCast_add];rfl) | (rw [B.jQ] <;> first | rfl | omega | (simp only [ajZ,ajt,Int.not_lt,Nat.not_lt,gt_iff_lt] at * <;> omega))) ?_;(with_reducible refine (aA.calls k a1 0 (a1.size:Int) a0 t131 FP _ A4.out).mono ?_);rintro e w7 ⟨rfl,hb⟩;refine ⟨_,rfl,?_⟩;have fM:=ah.mk (bL (by repeat first | exact HB.out | apply ak | apply aj | apply au) hb);clear HB;have HB:=fM;clear fM;(try clear hb);(try clear hb2);(try clear hk);(try clear hi)))
   go_ret
   exact ⟨by first | rfl | (simp [aJ,aK] <;> rfl) | (simp [*,aJ,aK] <;> rfl),by repeat (first | exact HB.out | apply ak | apply aj | apply au)⟩
def bW.f (k:Nat) (a0:Int) (a1:ByteArray):Option (ByteArray × ByteArray × List ByteArray × Bool) :=
 (jf.f k a0 a1).bind fun c=>if c = true then (match aA.DY a0 with | some s=>bR.f k a1 0 (a1.size:Int) s.1 s.2.1 s.2.2 | none=>some (a1,⟨#[]⟩,[],true)) else some (⟨#[]⟩,⟨#[]⟩,[],false)
theorem bW.three {w w1:World} {g B:Nat} {a b c a' b' c':Value} (bk:w1.heap[g]? = some (.cells #[a',b',c'] 191 (0,0))) :
  (((w1.setCell ⟨g,0,none⟩ a).setCell ⟨g,1,none⟩ b).setCell ⟨g,2,none⟩ c).heap[g]? = some (.cells #[a,b,c] 191 (0,0)) ∧
  (Below B w w1 → B ≤ g → Below B w (((w1.setCell ⟨g,0,none⟩ a).setCell ⟨g,1,none⟩ b).setCell ⟨g,2,none⟩ c)) ∧
  (∀ v l base ok,Kd.R Kd.string 9 w1 base ok v l → Kd.R Kd.string 9 (((w1.setCell ⟨g,0,none⟩ a).setCell ⟨g,1,none⟩ b).setCell ⟨g,2,none⟩ c) base ok v l):=by
 have b1:=iA bk 0 a (cs':=#[a,b',c']) rfl
 have b2:=iA b1 1 b (cs':=#[a,b,c']) rfl
 have b3:=iA b2 2 c (cs':=#[a,b,c]) rfl
 refine ⟨b3,fun h hg=>((h.setCell hg _).setCell hg _).setCell hg _,fun v l base ok h=>?_⟩
 exact Kd.Oc (Kd.Oc (Kd.Oc h bk (by decide) 0 a) b1 (by decide) 1 b) b2 (by decide) 2 c
theorem bW.facts {w1:World} {g:Nat} {a b c:Value} (bk:w1.heap[g]? = some (.cells #[a,b,c] 191 (0,0))) :
  (w1.cell? ⟨g,0,none⟩ = some a ∧ w1.cell? ⟨g,1,none⟩ = some b ∧ w1.cell? ⟨g,2,none⟩ = some c) ∧ w1.frozen? ⟨g,0,none⟩ = false ∧ w1.frozen? ⟨g,1,none⟩ = false ∧ w1.frozen? ⟨g,2,none⟩ = false :=
 ⟨⟨bN bk 0,bN bk 1,bN bk 2⟩,bJ bk 0,bJ bk 1,bJ bk 2⟩
theorem bW.calls (k:Nat) (a0:Int) (a1:ByteArray) (r1 r2:ByteArray) (r3:List ByteArray) (r4:Bool) (w:World) (h:bW.f k a0 a1 = some (r1,r2,r3,r4)) :
  Calls Tryz.prog 112 #[.int .i64 a0,.string a1] w fun e w'=>∃ v2_:Value,e = .returned (.tuple #[.agg #[.string r1,.string r2,v2_],.bool r4]) ∧ Kd.R Kd.string 9 w' w.heap.size (fun _=>True) v2_ r3 ∧ Below w.heap.size w w':=by
 obtain ⟨c,hc,h'⟩:=zbm h
 clear h
 have HC:=ah.mk hc
 clear hc
 cases c with
 | false =>
  rw [ai9 aj6] at h'
  cases h'
  go_enter Tryz.func112,Tryz.ntmps112
  go_wp2_with (first
   | (go_at_call 128;refine (jf.calls _ _ _ _ _ HC.out).mono ?_;rintro e w1 ⟨rfl,hd1⟩;have bk:=dZ (uf w _) hd1;obtain ⟨⟨k0,k1,k2⟩,f0,f1,f2⟩:=bW.facts bk;have bk:=ah.mk bk;have hB1:=ah.mk ((ak (Below.refl w.heap.size w) _).trans (hd1.mono (by simp only [World.alloc,akj];omega)));clear hd1))
  refine bodyPost_ret (kr rfl _ _ w.heap.size 191 #[.string ⟨#[]⟩,.string ⟨#[]⟩,.slice none 0 0] (0,0) _ rfl (bW.three (w:=w) (B:=0) bk.out).1 Tryz.underlying191 rfl (by kernel_rfl)) rfl ?_
  exact ⟨_,rfl,Kd.kC _ _ _ _ _,(bW.three bk.out).2.1 hB1.out (ajd _)⟩
 | true =>
  replace h':(match aA.DY a0 with | some s=>bR.f k a1 0 (a1.size:Int) s.1 s.2.1 s.2.2 | none=>some (a1,⟨#[]⟩,[],true)) = some (r1,r2,r3,r4):=h'
  cases hsh:aA.DY a0 with
  | none =>
   rw [hsh] at h'
   cases h'
   have hfn:Mi.sP a0 bV.tab = none:=by rw [aA.xg,hsh];rfl
   go_enter Tryz.func112,Tryz.ntmps112
   go_wp2_with (first
    | (go_at_call 128;refine (jf.calls _ _ _ _ _ HC.out).mono ?_;rintro e w1 ⟨rfl,hd1⟩;have bk:=dZ (uf w _) hd1;obtain ⟨⟨k0,k1,k2⟩,f0,f1,f2⟩:=bW.facts bk;have bk:=ah.mk bk;have hB1:=ah.mk ((ak (Below.refl w.heap.size w) _).trans (hd1.mono (by simp only [World.alloc,akj];omega)));clear hd1)
    | (go_at_call 129;refine (bV.calls _).mono ?_;rintro e w2 ⟨g,rfl,hin⟩;clear k0 k1 k2 f0 f1 f2;have hl:=Mi.look (P:=Tryz.prog) hin.at_ 207 3 205 Tryz.underlying207 Tryz.underlying3 _ (Tryz.zeroValue205 w2) a0;rw [hfn] at hl;replace hl:=show _ = Result.ok (Value.tuple #[.agg #[.int .i64 0,.int .i64 0,.int .i64 0],.bool false]) w2 from hl;have hB2:=ah.mk (hB1.out.trans (hin.PS.mono hB1.out.size));have bk:=ah.mk (aN (dZ bk.out hin.PS) (.cells #[.int .i64 0,.int .i64 0,.int .i64 0] 205 (0,0)));obtain ⟨⟨k0,k1,k2⟩,f0,f1,f2⟩:=bW.facts bk.out;clear hin))
   refine bodyPost_ret (kr rfl _ _ w.heap.size 191 #[.string a1,.string ⟨#[]⟩,.slice none 0 0] (0,0) _ rfl (bW.three (w:=w) (B:=0) bk.out).1 Tryz.underlying191 rfl (by kernel_rfl)) rfl ?_
   exact ⟨_,rfl,Kd.kC _ _ _ _ _,(bW.three bk.out).2.1 (ak hB2.out _) (ajd _)⟩
  | some s =>
   obtain ⟨s0,s1,s2⟩:=s
   rw [hsh] at h'
   have hp:=ah.mk (show bR.f k a1 0 (a1.size:Int) s0 s1 s2 = some (r1,r2,r3,r4) from h')
   clear h'
   have hfn:Mi.sP a0 bV.tab = some (bV.agg s0 s1 s2):=by rw [aA.xg,hsh];rfl
   go_enter Tryz.func112,Tryz.ntmps112
   go_wp2_with (first
    | (go_at_call 128;refine (jf.calls _ _ _ _ _ HC.out).mono ?_;rintro e w1 ⟨rfl,hd1⟩;have bk:=dZ (uf w _) hd1;obtain ⟨⟨k0,k1,k2⟩,f0,f1,f2⟩:=bW.facts bk;have bk:=ah.mk bk;have hB1:=ah.mk ((ak (Below.refl w.heap.size w) _).trans (hd1.mono (by simp only [World.alloc,akj];omega)));clear hd1)
    | (go_at_call 129;refine (bV.calls _).mono ?_;rintro e w2 ⟨g,rfl,hin⟩;clear k0 k1 k2 f0 f1 f2;have hl:=Mi.look (P:=Tryz.prog) hin.at_ 207 3 205 Tryz.underlying207 Tryz.underlying3 _ (Tryz.zeroValue205 w2) a0;rw [hfn] at hl;replace hl:=show _ = Result.ok (Value.tuple #[.agg #[.int .i64 s0,.int .i64 s1,.int .i64 s2],.bool true]) w2 from hl;have hB2:=ah.mk (hB1.out.trans (hin.PS.mono hB1.out.size));have bk:=ah.mk (aN (dZ bk.out hin.PS) (.cells #[.int .i64 s0,.int .i64 s1,.int .i64 s2] 205 (0,0)));obtain ⟨⟨k0,k1,k2⟩,f0,f1,f2⟩:=bW.facts bk.out;clear hin)
    | (go_at_call 130;refine (bR.calls _ _ _ _ _ _ _ _ _ _ _ _ hp.out).mono ?_;rintro e w3 ⟨v,rfl,hv,hb3⟩;clear k0 k1 k2 f0 f1 f2;obtain ⟨vA,vn,vc,rfl⟩:=aA.slc hv;have hB3:=ah.mk ((ak hB2.out _).trans (hb3.mono (by have:=hB2.out.size;simp only [World.alloc,akj];omega)));have hv:=ah.mk (Kd.nM hv (by have:=hB2.out.size;simp only [World.alloc,akj];omega:w.heap.size ≤ _));have bk:=ah.mk (dZ bk.out hb3);obtain ⟨⟨k0,k1,k2⟩,f0,f1,f2⟩:=bW.facts bk.out;clear hb3))
   refine bodyPost_ret (kr rfl _ _ w.heap.size 191 #[.string r1,.string r2,.slice vA vn vc] (0,0) _ rfl (bW.three (w:=w) (B:=0) bk.out).1 Tryz.underlying191 rfl (by kernel_rfl)) rfl ?_
   exact ⟨_,rfl,(bW.three (w:=w) (B:=0) bk.out).2.2 _ _ _ _ hv.out,(bW.three bk.out).2.1 hB3.out (ajd _)⟩
def eH.all (k:Nat):List ByteArray → Option (List ByteArray)
 | []=>some []
 | x :: l=>(ng.f k x).bind fun y=>(eH.all k l).bind fun m=>some (y :: m)
def eH.fin (p1 p2:ByteArray) (m:List ByteArray):Option ByteArray :=
 if p1.size + (strings_Join.cat m).size + p2.size ≤ 140737488355328 then (if m.length ≤ 1000000 then some (p1 ++ strings_Join.cat m ++ p2) else none) else none
def eH.f (k:Nat) (a0:Int) (a1:ByteArray):Option ByteArray :=
 (bW.f k a0 a1).bind fun p=>(eH.all k p.2.2.1).bind fun m=>eH.fin p.1 p.2.1 m
theorem eH.zl {k:Nat}:∀ {l m:List ByteArray},eH.all k l = some m → m.length = l.length
 | [],m,h=>by cases h;rfl
 | x :: l,m,h=>by
  rw [eH.all] at h
  obtain ⟨y,_,h⟩:=zbm h
  obtain ⟨m',h',h⟩:=zbm h
  cases h
  rw [List.length_cons,List.length_cons,eH.zl h']
theorem eH.calls (k:Nat) (a0:Int) (a1:ByteArray) (r:ByteArray) (w:World) (h:eH.f k a0 a1 = some r) :
  Calls Tryz.prog 132 #[.int .i64 a0,.string a1] w fun e w'=>e = .returned (.string r) ∧ Below w.heap.size w w':=by
 obtain ⟨⟨p1,p2,l,p4⟩,hp,h'⟩:=zbm h
 clear h
 obtain ⟨m,hm,h'⟩:=zbm h'
 replace hm:eH.all k l = some m:=hm
 replace h':eH.fin p1 p2 m = some r:=h'
 have hml:=eH.zl hm
 have HP:=ah.mk hp
 have HM:=ah.mk hm
 have HF:=ah.mk h'
 have HL:=ah.mk hml
 clear hp hm h' hml
 go_enter Tryz.func132,Tryz.ntmps132
 go_wp2_with (first
  | (go_at_call 112;refine (bW.calls _ _ _ _ _ _ _ _ HP.out).mono ?_;rintro e w1 ⟨v,rfl,hv,hb1⟩;obtain ⟨vA,vn,vc,rfl⟩:=aA.slc hv;obtain ⟨rfl,_,hcc⟩:=Kd.qp hv;have hmx:=ah.mk (Kd.UE hcc);clear hcc;have hv2:=ah.mk (Kd.gq hv (.cells #[.string p1,.string p2,.slice vA l.length vc] 191 (0,0)));have hb2:=ah.mk (ak hb1 (.cells #[.string p1,.string p2,.slice vA l.length vc] 191 (0,0)));have bk2:=ah.mk (uf w1 (.cells #[.string p1,.string p2,.slice vA l.length vc] 191 (0,0)));have hge:=ah.mk hb1.size;clear hv hb1))
 generalize hw1:w1.alloc (.cells #[.string p1,.string p2,.slice vA l.length vc] 191 (0,0)) = w2 at *
 generalize hg:w1.heap.size = g at *
 clear hw1 hg
 go_loopw [18] (fun v18 wr=>∃ (j:Nat) (cur:List ByteArray),v18 = .int .i64 j ∧ j ≤ l.length ∧ ah (cur.length = l.length ∧ ∃ mm,eH.all k (cur.drop j) = some mm ∧ m = cur.take j ++ mm) ∧ ah (wr.heap[g]? = some (.cells #[.string p1,.string p2,.slice vA l.length vc] 191 (0,0))) ∧ ah (Kd.R Kd.string 9 wr w.heap.size (fun _=>True) (.slice vA l.length vc) cur) ∧ ah (Below w.heap.size w wr)) (fun v18 _=>l.length - (intOf v18).toNat)
 case atStart=>exact ⟨0,l,rfl,ajO _,⟨rfl,m,HM.out,rfl⟩,bk2,hv2,hb2⟩
 case round =>
  clear HM hv2 hb2 bk2
  obtain ⟨j,cur,rfl,hj,hc,bk,hR,hB⟩:=hrel
  by_cases hlt:j < l.length
  ·obtain ⟨hcl,mm,hmm,hmt⟩:=hc.out
   have hjc:j < cur.length:=by omega
   rw [akC hjc,eH.all] at hmm
   obtain ⟨y,hy,hmm⟩:=zbm hmm
   obtain ⟨m',hm',hmm⟩:=zbm hmm
   obtain rfl:mm = y :: m':=(ajz hmm).symm
   have hnew:=ah.mk (show (cur.set j y).length = l.length ∧ ∃ mm,eH.all k ((cur.set j y).drop (j + 1)) = some mm ∧ m = (cur.set j y).take (j + 1) ++ mm from by
    refine ⟨by rw [akK];exact hcl,m',?_,?_⟩
    ·rw [List.drop_set_of_lt (by omega)];exact hm'
    ·have e:(cur.set j y).take (j + 1) = cur.take j ++ [y]:=by
      rw [List.take_succ_eq_append_getElem (by rw [akK];exact hjc),List.getElem_set_self,List.take_set_of_le (ajd j)]
     rw [hmt,e,ajW];rfl)
   obtain ⟨gr,cap,e0,_,_,cells,hcells⟩:=Kd.Xq hR.out (by omega)
   injection e0 with e1 e2 e3
   subst e1 e3
   have hne:=ah.mk (show g ≠ gr from Xl bk.out hcells (by decide))
   have hxc:=Kd.Db ByteArray.empty hR.out (j:Int) (by omega) (by omega)
   have hxe:zY ByteArray.empty cur (j:Int) = cur[j]:=by
    unfold zY
    rw [Int.toNat_natCast,ajy,ajo hjc]
    rfl
   rw [hxe,Int.toNat_natCast] at hxc
   have HY:=ah.mk hy
   have c0:=hxc.1
   have c1:=(bW.facts bk.out).1.2.2
   have hlt2:=ah.mk hlt
   have p0:(0 ≤ (j:Int)) = True:=ajj (by omega)
   have q0:((j:Int) < (l.length:Int)) = True:=ajj (by omega)
   generalize cur[j] = x at *
   clear hmm hm' hmt hy hxe hxc hcells hc e2 hlt hjc hcl
   go_wp2
   go_region_with (first | (go_at_call 68;refine (ng.calls _ _ _ _ HY.out).mono ?_;rintro e w3 ⟨rfl,hb3⟩;have bk3:=dZ (aW bk.out) hb3;have S9:=Kd.lD (Kd.iq hR.out) hb3;have hB3:=ah.mk ((iL hB.out).trans (hb3.mono hB.out.size));have d0:=(Kd.Db ByteArray.empty S9 (j:Int) (by omega) (by have:=hlt2.out;omega)).1;have d1:=(Kd.Db ByteArray.empty S9 (j:Int) (by omega) (by have:=hlt2.out;omega)).2;rw [Int.toNat_natCast] at d0 d1;have d2:=(bW.facts bk3).1.2.2;have bk3:=ah.mk bk3;have S9:=ah.mk S9;clear hb3))
   all_goals
    have hfin:=Kd.Xu S9.out (j:Int) y
    rw [Int.toNat_natCast] at hfin
    have bk4:=ah.mk (oP (p:=⟨gr,j,none⟩) bk3.out hne.out (.string y))
    have hR4:=ah.mk hfin.1
    have hB4:=ah.mk (hB3.out.grown hfin.2 hB3.out.size (fun k e=>by cases e;exact Kd.Xp S9.out gr rfl))
    clear hfin
    generalize w3.setCell ⟨gr,j,none⟩ (.string y) = w4 at *
    clear c0 c1 d0 d1 d2 p0 q0
    have hw:=(show wrap64 ((j:Int) + 1) = ((j + 1:Nat):Int) from by have hlt:=hlt2.out;have hm9:=hmx.out;rw [B.jQ (by omega) (by omega)];omega)
    have hw:=ah.mk hw
    go_wp2
    go_roundw
    case rel=>have hlt:=hlt2.out;have hm9:=hmx.out;exact ⟨j + 1,cur.set j y,by rw [hw.out],hlt2.out,hnew,bk4,hR4,hB4⟩
    case measure=>have hlt:=hlt2.out;have hm9:=hmx.out;rw [hw.out];simp only [intOf];omega
  ·obtain rfl:j = l.length:=by omega
   have hcm:m = cur:=by
    obtain ⟨hcl,mm,hmm,hmt⟩:=hc.out
    rw [← hcl,List.drop_length] at hmm
    cases hmm
    rw [hmt,← hcl,ajS,akb]
   subst hcm
   have q0:((l.length:Int) < (l.length:Int)) = False:=eq_false (by omega)
   obtain ⟨⟨k0,k1,k2⟩,_,_,_⟩:=bW.facts bk.out
   have hF:=HF.out
   unfold eH.fin at hF
   by_cases z1:p1.size + (strings_Join.cat m).size + p2.size ≤ 140737488355328
   ·rw [ai8 z1] at hF
    by_cases z2:m.length ≤ 1000000
    ·rw [ai8 z2] at hF
     obtain rfl:=ajz hF
     have z1:=ah.mk z1
     have z2:=ah.mk z2
     clear hF HF
     go_wp2_with (first
      | (go_at_call 147;refine (iT.calls _ _ _ m _ _ _ hR.out z2.out z1.out).mono ?_;rintro e w4 ⟨rfl,hb4⟩;have hB4:=ah.mk (hB.out.trans (hb4.mono hB.out.size));clear hb4))
     go_ret
     exact ⟨rfl,hB4.out⟩
    ·rw [ai9 z2] at hF;cases hF
   ·rw [ai9 z1] at hF;cases hF
def nu.f (k:Nat) (a0:Int) (a1:ByteArray):Option (List ByteArray):=(bW.f k a0 a1).bind fun OY=>(some OY.2.2.1)
theorem nu.calls (k:Nat) (a0:Int) (a1:ByteArray) (r:List ByteArray) (w:World) (h:nu.f k a0 a1 = some r) :
  Calls Tryz.prog 81 #[.int .i64 a0,.string a1] w fun e w'=>∃ UK:Value,e = .returned (UK) ∧ Kd.R Kd.string 9 w' w.heap.size (fun _=>True) UK r ∧ Below w.heap.size w w':=by
 have ab1:=Tryz.underlying191
 have HB:=ah.mk (Below.refl w.heap.size w)
 have H:((bW.f k a0 a1).bind fun OY=>(some OY.2.2.1)) = some r:=h
 clear h
 replace H:=zbm H
 obtain ⟨⟨acj,acn,XK,t138⟩,A30,H⟩:=H
 replace H:(some XK) = some r:=H
 have A3:=ah.mk A30
 clear A30
 obtain rfl:=ajz H
 go_enter Tryz.func81,Tryz.ntmps81
 go_wp2_with (first | ((with_reducible refine bS (f:=112) rfl ?_);refine gJ (some 10) rfl rfl Tryz.func112 (by kernel_rfl) rfl #[.int .i64 a0,.string a1] rfl (by (try simp only [ajG,ajk,ajn]) <;> rfl) ?_;(with_reducible refine (bW.calls k a0 a1 acj acn XK t138 _ A3.out).mono ?_);rintro e w4 ⟨ai6,rfl,ho0,hb⟩;refine ⟨_,rfl,?_⟩;have fM:=ah.mk (Kd.nM ho0 (dB (by repeat first | exact HB.out | apply ak | apply aj | apply au)));have jJ:=ah.mk (bL (by repeat first | exact HB.out | apply ak | apply aj | apply au) hb);clear HB;have FQ:=fM;have HB:=jJ;clear fM jJ;(try clear hb);(try clear hb2);(try clear hk);(try clear hi);(try clear ho0)) | ((with_reducible refine mU (N:=5) rfl ?_);refine lC ?hg (N:=5) ?hd (cs:=#[.string (⟨#[]⟩:ByteArray),.string (⟨#[]⟩:ByteArray),.slice none 0 0]) (t:=191) ?hr ?_;(case hd=>rfl);(case hg=>rfl);(case hr=>first | (go_simp;done) | (go_simp;rfl));intro wD hg w5 oz hb;have fM:=ah.mk (Kd.lD (by (with_reducible repeat (first | apply Kd.gq | apply Kd.gT | apply Kd.iq));exact FQ.out) hb);have jJ:=ah.mk (bL (by repeat first | exact HB.out | apply ak | apply aj | apply au) hb);have nW:=ah.mk (oz);have oW:=ah.mk ((by rw [hg];exact (dB (by repeat first | exact HB.out | apply ak | apply aj | apply au)):w.heap.size ≤ wD));have q9:=ah.mk ((by rw [hg];exact (dB (by repeat first | exact HB.out | apply ak | apply aj | apply au)):w.heap.size ≤ wD));clear FQ;clear HB;have FQ:=fM;have HB:=jJ;have zm:=nW;have aiK:=oW;have aco:=q9;clear fM jJ nW oW q9;clear hb oz hg;have agC:w5.cell? ⟨wD,0,none⟩ = some (.string (⟨#[]⟩:ByteArray)):=(bN zm.out 0).trans rfl;have agD:w5.cell? ⟨wD,1,none⟩ = some (.string (⟨#[]⟩:ByteArray)):=(bN zm.out 1).trans rfl;have agE:w5.cell? ⟨wD,2,none⟩ = some (.slice none 0 0):=(bN zm.out 2).trans rfl;have agF:=bJ zm.out 0;have agG:=bJ zm.out 1;have agH:=bJ zm.out 2;obtain ⟨Ao7,co7,eo7⟩:=Kd.um FQ.out;subst eo7))
 go_ret
 exact ⟨_,by first | rfl | (simp [aJ,aK] <;> rfl) | (simp [*,aJ,aK] <;> rfl),by (with_reducible repeat (first | apply Kd.gq | apply Kd.gT | apply Kd.iq));exact Kd.qo (Kd.uh (p:=⟨wD,2,none⟩) (Kd.uh (p:=⟨wD,1,none⟩) (Kd.uh (p:=⟨wD,0,none⟩) (Kd.uj FQ.out zm.out (by decide)) (fun _ hk=>hk.2) (.string acj)) (fun _ hk=>hk.2) (.string acn)) (fun _ hk=>hk.2) (.slice Ao7 XK.length co7)) (fun _ hk=>trivial),by repeat (first | (with_reducible first | exact HB.out | apply ak | apply aj | apply au | refine aZ ?_ aco.out) | exact HB.out)⟩
end
section
open Go.RowKit Go.Proofs.YtfokaoeinpnagaaGreatW.aX Go.Proofs.YtfokaoeinpnagaaGreatW.dL Go.Proofs.YtfokaoeinpnagaaGreatW.eO
attribute [local go_sem] jV jW lF lG jo jq jX jY
theorem agI (d:Nat) (w:World) (x0 y0:Int) (x1 y1:Int) (x2 y2:Int) :
  (Op.equalIn (d + 2) 198 (.agg #[.int .i64 x0,.int .i64 x1,.int .i64 x2]) (.agg #[.int .i64 y0,.int .i64 y1,.int .i64 y2])).run Tryz.prog w = .ok (x0 == y0 && (x1 == y1 && (x2 == y2))) w:=by
 refine B.Ou Tryz.underlying198 (by kernel_rfl) (by kernel_rfl) ?_
 show (Op.eqItems _ 3 1 _ _ [0,1,2]).run _ _ = _
 refine B.Fg (by go_simp;rfl) (by go_simp;rfl) (by go_simp) ?_
 refine B.Fg (by go_simp;rfl) (by go_simp;rfl) (by go_simp) ?_
 exact B.Ot (by go_simp;rfl) (by go_simp;rfl) (by go_simp)
end
section
open Go.RowKit Go.Proofs.YtfokaoeinpnagaaGreatW.aX Go.Proofs.YtfokaoeinpnagaaGreatW.dL Go.Proofs.YtfokaoeinpnagaaGreatW.eO Go.Proofs.YtfokaoeinpnagaaGreat.B
def Bz (msg:ByteArray) (i:Int):ByteArray × Int × Int:=(bq.f (rounds i) msg i).getD (⟨#[]⟩,0,0)
theorem U0 (msg:ByteArray) (i:Int) (hm:msg.size ≤ 100000):bq.f (rounds i) msg i = some (Bz msg i):=by
 obtain ⟨R,h1,_⟩:=KP (rounds i) msg i hm (ajd _)
 unfold Bz;rw [h1];rfl
theorem acp (k:Nat) (msg:ByteArray) (i:Int) (hm:msg.size ≤ 100000) (hk:rounds i ≤ k):bq.f k msg i = some (Bz msg i):=FJ hk (U0 msg i hm)
theorem FR (msg:ByteArray) (i:Int) (hm:msg.size ≤ 100000) :
  ((Bz msg i).2.2 = 0 ∧ gN (Bz msg i).1 = true ∧ 0 ≤ i ∧ i < (Bz msg i).2.1 ∧ (Bz msg i).2.1 ≤ (msg.size:Int)) ∨ (((Bz msg i).2.2 = 2 ∨ (Bz msg i).2.2 = 3) ∧ (Bz msg i).1 = ⟨#[]⟩ ∧ (Bz msg i).2.1 = 0):=Hz hm (U0 msg i hm)
def Ls (msg:ByteArray) (e:Int):Nat → Int → List ByteArray → Option (List ByteArray × Int)
 | 0,i,l=>some (l,i)
 | n + 1,i,l=>if (Bz msg i).2.2 = 0 then (if (Bz msg i).2.1 > e then none else Ls msg e n (Bz msg i).2.1 (l ++ [(Bz msg i).1])) else none
theorem qO (msg:ByteArray) (e:Int) (hm:msg.size ≤ 100000):∀ (n:Nat) (i:Int) (l:List ByteArray) (R:List ByteArray × Int),Ls msg e n i l = some R → i ≤ e → i ≤ R.2 ∧ R.2 ≤ e ∧ R.1.length = l.length + n ∧ (∃ l',R.1 = l ++ l' ∧ ∀ x ∈ l',gN x = true)
 | 0,i,l,R,h,hi=>by cases h;exact ⟨aj2 _,hi,rfl,[],by simp,by simp⟩
 | n + 1,i,l,R,h,hi=>by
  rw [Ls] at h
  by_cases h0:(Bz msg i).2.2 = 0
  ·rw [ai8 h0] at h
   by_cases h1:(Bz msg i).2.1 > e
   ·rw [ai8 h1] at h;cases h
   ·rw [ai9 h1] at h
    obtain ⟨a1,a2,a3,l',a4,a5⟩:=qO msg e hm n _ _ R h (by omega)
    rcases FR msg i hm with ⟨_,b2,_,b4,_⟩ | ⟨b1,_⟩
    ·refine ⟨by omega,a2,by rw [a3,ajh,List.length_singleton];omega,(Bz msg i).1 :: l',by rw [a4];simp,?_⟩
     intro x hx
     rcases ajr.mp hx with rfl | hx
     ·exact b2
     ·exact a5 x hx
    ·omega
  ·rw [ai9 h0] at h;cases h
def K0 : Nat:=101000
theorem KW {msg:ByteArray} {i:Int} {k:Nat} (hm:msg.size ≤ 100000) (hi:i ≤ (msg.size:Int)) (hk:K0 ≤ k):rounds i ≤ k:=by unfold rounds;unfold K0 at hk;omega
theorem Dw (msg:ByteArray) (e s0 s1 s2:Int) (a b:ByteArray) (hm:msg.size ≤ 100000) (he:e ≤ (msg.size:Int)) (h2:0 ≤ s2 ∧ s2 ≤ 1000) (c:Int) (hc:c ≤ 100):∀ (n k:Nat) (i x:Int) (l:List ByteArray),K0 + n ≤ k → x + n = c → 0 ≤ x → 0 ≤ i → i ≤ e → l.length + n ≤ 1000 →
  bR.l0 (k + 1) msg i e c x s0 s1 s2 a b l = (match Ls msg e n i l with
   | some R=>some (a,msg.extract R.2.toNat e.toNat,R.1,(((msg.extract R.2.toNat e.toNat).size:Int) == s2))
   | none=>some (⟨#[]⟩,⟨#[]⟩,[],false))
 | 0,k,i,x,l,hk,hx,hx0,hi,hie,hl=>by
  rw [bR.l0,ai9 (by omega),ai8 hi,ai8 hie,ai8 he,Ls]
 | n + 1,k,i,x,l,hk,hx,hx0,hi,hie,hl=>by
  obtain ⟨k,rfl⟩:∃ m,k = m + 1:=⟨k - 1,by omega⟩
  rw [bR.l0,ai8 (by omega),acp (k + 1) msg i hm (KW hm (by omega) (by omega)),Ls]
  simp only [Option.bind_some]
  by_cases h0:(Bz msg i).2.2 = 0
  ·rw [ai8 h0,ai8 h0]
   by_cases h1:(Bz msg i).2.1 > e
   ·rw [ai8 h1,ai8 h1]
   ·rcases FR msg i hm with ⟨_,_,_,b4,_⟩ | ⟨b1,_⟩
    ·rw [ai9 h1,ai9 h1,ai8 (by omega),jQ (by omega) (by omega)]
     exact Dw msg e s0 s1 s2 a b hm he h2 c hc n k _ (x + 1) _ (by omega) (by omega) (by omega) (by omega) (by omega) (by rw [ajh,List.length_singleton];omega)
    ·omega
  ·rw [ai9 h0,ai9 h0]
def U1 (s:ByteArray):Nat → Int → Bool
 | 0,_=>false
 | k + 1,i=>if i < (s.size:Int) then U1 s k (i + 1 + bt s i) else decide (i = s.size)
def OZ (s:ByteArray):Bool:=decide (0 < s.size) && U1 s (s.size + 1) 0
theorem XL (s:ByteArray) {k:Nat} {i:Int} (h:(s.size:Int) < i):U1 s k i = false:=by
 cases k with
 | zero=>rfl
 | succ k=>rw [U1,ai9 (by omega)];simp;omega
theorem O1 (s:ByteArray) (hs:s.size ≤ 100000) (d:Nat):∀ (k m:Nat) (i:Int),0 ≤ i → i ≤ (s.size:Int) → s.size - i.toNat ≤ d → d + 1 ≤ k → d + 1 ≤ m → dK.l0 k (s.extract i.toNat s.size) = some (U1 s m i):=by
 induction d with
 | zero =>
  intro k m i h0 h1 h2 hk hm
  obtain ⟨k,rfl⟩:∃ j,k = j + 1:=⟨k - 1,by omega⟩
  obtain ⟨m,rfl⟩:∃ j,m = j + 1:=⟨m - 1,by omega⟩
  rw [dK.l0,ai8 (toList_nil.mpr (by rw [ajJ];omega)),U1,ai9 (by omega),aja (by omega)]
 | succ d ih =>
  intro k m i h0 h1 h2 hk hm
  obtain ⟨k,rfl⟩:∃ j,k = j + 1:=⟨k - 1,by omega⟩
  obtain ⟨m,rfl⟩:∃ j,m = j + 1:=⟨m - 1,by omega⟩
  have hz:(s.extract i.toNat s.size).size = s.size - i.toNat:=by rw [ajJ];omega
  by_cases hi:i < (s.size:Int)
  ·have hb:bt (s.extract i.toNat s.size) 0 = bt s i:=by
    rw [mY (by omega) (by omega)];congr 1;omega
   have hr:=gK s i
   rw [dK.l0,ai9 (by rw [toList_nil];omega),ai8 (by omega),hb,jQ (n:=bt s i) (by omega) (by omega),jQ (n:=1 + bt s i) (by omega) (by omega),U1,ai8 hi]
   by_cases h3:1 + bt s i > ((s.extract i.toNat s.size).size:Int)
   ·rw [ai8 h3,XL s (by omega)]
   ·rw [ai9 h3,ai8 (by omega),ai8 (by omega)]
    have e:(s.extract i.toNat s.size).extract (1 + bt s i).toNat (s.extract i.toNat s.size).size = s.extract (i + 1 + bt s i).toNat s.size:=by
     rw [ByteArray.extract_extract,hz]
     congr 1 <;> omega
    rw [e]
    exact ih k m _ (by omega) (by omega) (by omega) (by omega) (by omega)
  ·rw [dK.l0,ai8 (toList_nil.mpr (by omega)),U1,ai9 hi,aja (by omega)]
theorem O4 (k:Nat) (hk:K0 ≤ k) (s:ByteArray) (hs:s.size ≤ 100000):dK.f k s = some (OZ s):=by
 unfold dK.f OZ
 by_cases h:s.toList = ([]:List UInt8)
 ·rw [ai8 h];rw [toList_nil] at h;rw [h];rfl
 ·rw [ai9 h]
  rw [toList_nil] at h
  unfold K0 at hk
  have:=O1 s hs s.size k (s.size + 1) 0 (by omega) (by omega) (by omega) (by omega) (by omega)
  rw [show (0:Int).toNat = 0 from rfl,ak3] at this
  rw [this,aja (by omega),Bool.true_and]
end
section
open Go.RowKit Go.Proofs.YtfokaoeinpnagaaGreatW.aX Go.Proofs.YtfokaoeinpnagaaGreatW.dL Go.Proofs.YtfokaoeinpnagaaGreatW.eO Go.Proofs.YtfokaoeinpnagaaGreat.B
theorem FT {n:ByteArray} (h:gN n = true):n.size ≤ 255:=by
 obtain ⟨l,_,_,hz⟩:=lH.mp h;exact hz
theorem zn : ∀ {l:List ByteArray},(∀ x ∈ l,gN x = true) → (strings_Join.cat l).size ≤ 255 * l.length
 | [],_=>ajO _
 | x :: l,h=>by
  have h1:=FT (h x (by simp))
  have h2:=zn (l:=l) (fun y hy=>h y (by simp [hy]))
  rw [strings_Join.cat,ajs,List.length_cons]
  omega
def Ag (d:ByteArray):ByteArray × Int:=if (d.size:Int) > 65535 then (⟨#[]⟩,4) else (d,0)
theorem BA (d:ByteArray):(if (d.size:Int) > 65535 then some ((⟨#[]⟩:ByteArray),(4:Int)) else some (d,0)) = some (Ag d):=by
 unfold Ag;split <;> rfl
def Ta (msg:ByteArray) (i size:Int) (s:Int × Int × Int):ByteArray × Int :=
 if s.1 ≤ size then (match Ls msg (i + size) s.2.1.toNat (i + s.1) [] with
  | some R=>if R.2 + s.2.2 = i + size then Ag (msg.extract i.toNat (i + s.1).toNat ++ strings_Join.cat R.1 ++ msg.extract R.2.toNat (i + size).toNat) else (⟨#[]⟩,4)
  | none=>(⟨#[]⟩,4)) else (⟨#[]⟩,4)
def H7 (msg:ByteArray) (i size kind:Int):ByteArray × Int :=
 if iR msg i size then (match aA.DY kind with
  | some s=>Ta msg i size s
  | none=>if kind = 16 then (if OZ (msg.extract i.toNat (i + size).toNat) = true then Ag (msg.extract i.toNat (i + size).toNat) else (⟨#[]⟩,4)) else Ag (msg.extract i.toNat (i + size).toNat))
 else (⟨#[]⟩,2)
theorem qP {kind:Int} {s:Int × Int × Int} (h:aA.DY kind = some s):0 ≤ s.1 ∧ s.1 ≤ 16 ∧ 0 ≤ s.2.1 ∧ s.2.1 ≤ 2 ∧ 0 ≤ s.2.2 ∧ s.2.2 ≤ 20 ∧ kind ≠ 16 ∧ (s.1 = 0 → s.2.1 = 0 → False):=by
 unfold aA.DY at h
 repeat' split at h
 all_goals (first | (cases h;subst_vars;decide) | cases h)
theorem XM (k:Nat) (hk:K0 ≤ k) (kind:Int) (hkind:kind ≠ 16) (d:ByteArray):aA.fin k kind d true = some (Ag d):=by
 unfold aA.fin
 rw [ai8 rfl,ai9 hkind,BA]
theorem vG (k:Nat) (kind:Int) (d:ByteArray):aA.fin k kind d false = some (⟨#[]⟩,4):=by
 unfold aA.fin;rw [ai9 aj6]
theorem KX (msg:ByteArray) (i size kind:Int) (k:Nat) (hk:K0 ≤ k) (hm:msg.size ≤ 100000) (f:ByteArray → Option Bool) (hf:∀ s,s.size ≤ 100000 → f s = some (OZ s)) (t:ByteArray) (ht:t.size ≤ 100000) :
  (if kind = 16 then ((f t).bind fun b=>if b = true then (if (t.size:Int) > 65535 then some ((⟨#[]⟩:ByteArray),(4:Int)) else some (t,0)) else some (⟨#[]⟩,4)) else (if (t.size:Int) > 65535 then some (⟨#[]⟩,4) else some (t,0))) =
   some (if kind = 16 then (if OZ t = true then Ag t else (⟨#[]⟩,4)) else Ag t):=by
 rw [hf t ht,BA]
 simp only [Option.bind_some]
 split
 ·split <;> rfl
 ·rfl
theorem KY (k:Nat) (hk:K0 + 10 ≤ k) (msg:ByteArray) (i size kind:Int) (hm:msg.size ≤ 100000) (ht:iR msg i size) (s:Int × Int × Int) (hs:aA.DY kind = some s):aA.g k msg i size kind s = some (Ta msg i size s):=by
 obtain ⟨h0,h1,h2⟩:=ht
 obtain ⟨a1,a2,a3,a4,a5,a6,a7,a8⟩:=qP hs
 obtain ⟨s0,s1,s2⟩:=s
 simp only at a1 a2 a3 a4 a5 a6 a8
 have e1:wrap64 (i + size) = i + size:=jQ (by omega) (by omega)
 have e2:wrap64 (i + size - i) = size:=by rw [jQ (by omega) (by omega)];omega
 have e3:wrap64 (i + s0) = i + s0:=jQ (by omega) (by omega)
 unfold aA.g bR.f Ta
 simp only [e1,e2,e3]
 by_cases c:s0 ≤ size
 ·rw [ai8 c,ai8 c,ai8 h0,ai8 (by omega),ai8 (by omega)]
  obtain ⟨k,rfl⟩:∃ j,k = j + 1:=⟨k - 1,by omega⟩
  rw [Dw msg (i + size) s0 s1 s2 _ _ hm h2 ⟨a5,by omega⟩ s1 (by omega) s1.toNat k (i + s0) 0 [] (by omega) (by omega) (aj2 _) (by omega) (by omega) (by simp only [List.length_nil];omega)]
  have hz:(msg.extract i.toNat (i + s0).toNat).size ≤ 16:=by rw [ajJ];omega
  cases hr:Ls msg (i + size) s1.toNat (i + s0) [] with
  | none =>
   simp only [Option.bind_some]
   rw [ai8 (by decide),ai8 (by decide),vG]
  | some R =>
   obtain ⟨b1,b2,b3,l',b4,b5⟩:=qO msg _ hm _ _ _ R hr (by omega)
   have hcz:=zn b5
   rw [List.nil_append] at b4
   rw [← b4] at hcz
   rw [List.length_nil,ajD] at b3
   have hbz:(msg.extract R.2.toNat (i + size).toNat).size = (i + size - R.2).toNat:=by rw [ajJ];omega
   simp only [Option.bind_some]
   rw [ai8 (by omega),ai8 (by omega)]
   by_cases d:R.2 + s2 = i + size
   ·rw [ai8 d,show (((msg.extract R.2.toNat (i + size).toNat).size:Int) == s2) = true from ajI.mpr (by omega),XM k.succ (by omega) kind a7]
   ·rw [ai9 d,show (((msg.extract R.2.toNat (i + size).toNat).size:Int) == s2) = false from aj7.mpr (by omega),vG]
 ·rw [ai9 c,ai9 c]
  simp only [Option.bind_some]
  rw [ai8 (by decide),ai8 (by decide),vG]
theorem XO (k:Nat) (hk:K0 + 10 ≤ k) (msg:ByteArray) (i size kind:Int) (hm:msg.size ≤ 100000):aA.f k msg i size kind = some (H7 msg i size kind):=by
 unfold aA.f H7
 rw [uG msg i size (by omega)]
 simp only [Option.bind_some]
 by_cases ht:iR msg i size
 ·rw [ai8 ht,ai8 ht]
  simp only [ajH]
  cases hs:aA.DY kind with
  | some s=>exact KY k hk msg i size kind hm ht s hs
  | none =>
   have hz:(msg.extract i.toNat (i + size).toNat).size ≤ 100000:=by rw [ajJ];omega
   have:=KX msg i size kind k (by omega) hm (dK.f k) (fun s h=>O4 k (by omega) s h) _ hz
   unfold aA.fin
   rw [ai8 rfl]
   exact this
 ·rw [ai9 ht,ai9 ht];rfl
end
section
open Go.RowKit Go.Proofs.YtfokaoeinpnagaaGreatW.aX Go.Proofs.YtfokaoeinpnagaaGreatW.dL Go.Proofs.YtfokaoeinpnagaaGreatW.eO Go.Proofs.YtfokaoeinpnagaaGreat.B
def DU (kind:Int) (d:ByteArray):Bool:=decide (d.size ≤ 65535) && (decide ((H7 d 0 d.size kind).2 = 0) && decide ((H7 d 0 d.size kind).1 = d))
theorem Dx {kind:Int} {d:ByteArray}:DU kind d = true ↔ d.size ≤ 65535 ∧ H7 d 0 d.size kind = (d,0):=by
 unfold DU
 simp only [ajg,ajt]
 constructor
 ·rintro ⟨h1,h2,h3⟩;exact ⟨h1,Prod.ext h3 h2⟩
 ·rintro ⟨h1,h2⟩;rw [h2];exact ⟨h1,rfl,rfl⟩
theorem BD (k:Nat) (hk:K0 + 10 ≤ k) (kind:Int) (d:ByteArray):jf.f k kind d = some (DU kind d):=by
 unfold jf.f DU
 by_cases h:(d.size:Int) > 65535
 ·rw [ai8 h,ajc (by omega)];rfl
 ·rw [ai9 h,XO k hk d 0 _ kind (by omega),aja (by omega),Bool.true_and]
  simp only [Option.bind_some]
  by_cases h0:(H7 d 0 d.size kind).2 = 0
  ·rw [ai8 h0,aja h0,y9,Bool.true_and]
  ·rw [ai9 h0,ajc h0,Bool.false_and]
theorem H8 (d:ByteArray):iR d 0 d.size:=⟨aj2 _,by omega,by omega⟩
theorem KZ {x d:ByteArray} (h:Ag x = (d,0)):x = d ∧ x.size ≤ 65535:=by
 unfold Ag at h
 split at h
 ·have:=ajC Prod.snd h;cases this
 ·exact ⟨ajC Prod.fst h,by omega⟩
theorem zo {kind:Int} {d:ByteArray} {s:Int × Int × Int} (h:DU kind d = true) (hs:aA.DY kind = some s) :
  ∃ R,s.1 ≤ (d.size:Int) ∧ Ls d d.size s.2.1.toNat s.1 [] = some R ∧ R.2 + s.2.2 = d.size ∧ d = d.extract 0 s.1.toNat ++ strings_Join.cat R.1 ++ d.extract R.2.toNat d.size ∧ s.1 ≤ R.2 ∧ R.2 ≤ (d.size:Int) ∧ R.1.length = s.2.1.toNat ∧ (∀ x ∈ R.1,gN x = true) ∧ R.2 = s.1 + (strings_Join.cat R.1).size:=by
 obtain ⟨h0,h1⟩:=Dx.mp h
 unfold H7 Ta at h1
 rw [ai8 (H8 d),hs] at h1
 simp only [Int.zero_add,Int.toNat_natCast] at h1
 obtain ⟨a1,a2,a3,a4,a5,a6,a7,a8⟩:=qP hs
 by_cases c:s.1 ≤ (d.size:Int)
 ·rw [ai8 c] at h1
  cases hr:Ls d d.size s.2.1.toNat s.1 [] with
  | none=>rw [hr] at h1;have:=ajC Prod.snd h1;cases this
  | some R =>
   rw [hr] at h1
   simp only at h1
   by_cases e:R.2 + s.2.2 = d.size
   ·rw [ai8 e] at h1
    obtain ⟨h2,_⟩:=KZ h1
    obtain ⟨b1,b2,b3,l',b4,b5⟩:=qO d _ (by omega) _ _ _ R hr c
    rw [List.nil_append] at b4
    rw [← b4] at b5
    have hz:=ajC ByteArray.size h2
    simp only [ajs,ajJ] at hz
    refine ⟨R,c,rfl,e,h2.symm,b1,b2,by rw [b3];simp,b5,?_⟩
    simp only [show (0:Int).toNat = 0 from rfl] at hz
    omega
   ·rw [ai9 e] at h1;have:=ajC Prod.snd h1;cases this
 ·rw [ai9 c] at h1;have:=ajC Prod.snd h1;cases this
def prt (kind:Int) (d:ByteArray):ByteArray × ByteArray × List ByteArray × Bool :=
 if DU kind d = true then (match aA.DY kind with
  | some s=>(match Ls d d.size s.2.1.toNat s.1 [] with
   | some R=>(d.extract 0 s.1.toNat,d.extract R.2.toNat d.size,R.1,true)
   | none=>(⟨#[]⟩,⟨#[]⟩,[],false))
  | none=>(d,⟨#[]⟩,[],true)) else (⟨#[]⟩,⟨#[]⟩,[],false)
theorem wT (k:Nat) (hk:K0 + 20 ≤ k) (d:ByteArray) (hd:d.size ≤ 65535) (s0 s1 s2:Int) (a1:0 ≤ s0) (a3:0 ≤ s1) (a4:s1 ≤ 2) (a5:0 ≤ s2) (a6:s2 ≤ 20) (R:List ByteArray × Int) (c1:s0 ≤ (d.size:Int)) (c2:Ls d d.size s1.toNat s0 [] = some R) (c3:R.2 + s2 = d.size) :
  bR.f k d 0 (d.size:Int) s0 s1 s2 = some (d.extract 0 s0.toNat,d.extract R.2.toNat d.size,R.1,true):=by
 unfold bR.f
 have e2:wrap64 ((d.size:Int) - 0) = d.size:=by rw [jQ (by omega) (by omega)];omega
 have e3:wrap64 (0 + s0) = s0:=by rw [jQ (by omega) (by omega)];omega
 obtain ⟨b1,b2,_⟩:=qO d _ (by omega) _ _ _ R c2 c1
 have hz:((d.extract R.2.toNat d.size).size:Int) = s2:=by rw [ajJ];omega
 obtain ⟨k,rfl⟩:∃ j,k = j + 1:=⟨k - 1,by omega⟩
 have h:=Dw d d.size s0 s1 s2 (d.extract 0 s0.toNat) ⟨#[]⟩ (by omega) (aj2 _) ⟨a5,by omega⟩ s1 (by omega) s1.toNat k s0 0 [] (by omega) (by omega) (aj2 _) a1 c1 (by simp only [List.length_nil];omega)
 rw [c2] at h
 simp only [Int.toNat_natCast] at h
 rw [show (((d.extract R.2.toNat d.size).size:Int) == s2) = true from ajI.mpr hz] at h
 rw [e2,ai8 c1,ai8 (aj2 _),e3,ai8 a1,ai8 c1]
 exact h
theorem BF (k:Nat) (hk:K0 + 20 ≤ k) (kind:Int) (d:ByteArray):bW.f k kind d = some (prt kind d):=by
 unfold bW.f prt
 rw [BD k (by omega)]
 simp only [Option.bind_some]
 by_cases h:DU kind d = true
 ·rw [ai8 h,ai8 h]
  cases hs:aA.DY kind with
  | none=>rfl
  | some s =>
   obtain ⟨R,c1,c2,c3,c4,c5,c6,c7,c8,c9⟩:=zo h hs
   obtain ⟨a1,a2,a3,a4,a5,a6,a7,a8⟩:=qP hs
   obtain ⟨h0,_⟩:=Dx.mp h
   obtain ⟨s0,s1,s2⟩:=s
   simp only at a1 a2 a3 a4 a5 a6 c1 c2 c3 c5
   simp only [c2]
   exact wT k hk d h0 s0 s1 s2 a1 a3 a4 a5 a6 R c1 c2 c3
 ·rw [ai9 h,ai9 h]
theorem O5 (k:Nat) (hk:K0 + 20 ≤ k) (kind:Int) (d:ByteArray):nu.f k kind d = some (prt kind d).2.2.1:=by
 unfold nu.f;rw [BF k hk];rfl
theorem vH {kind:Int} {d:ByteArray}:(∀ x ∈ (prt kind d).2.2.1,gN x = true) ∧ (prt kind d).2.2.1.length ≤ 2:=by
 unfold prt
 by_cases h:DU kind d = true
 ·rw [ai8 h]
  cases hs:aA.DY kind with
  | none=>exact ⟨by simp,by simp⟩
  | some s =>
   obtain ⟨R,c1,c2,c3,c4,c5,c6,c7,c8,c9⟩:=zo h hs
   obtain ⟨a1,a2,a3,a4,a5,a6,a7,a8⟩:=qP hs
   simp only [c2]
   exact ⟨c8,by omega⟩
 ·rw [ai9 h];exact ⟨by simp,by simp⟩
theorem wE (k:Nat) (hk:600 ≤ k) (n:ByteArray) (hs:n.size ≤ 1000000000):ng.f k n = some (if gN n = true then gU n else ⟨#[]⟩):=by
 unfold ng.f
 rw [y7 k hk n hs,XB n hs]
 simp only [Option.bind_some]
 split <;> rfl
theorem H9 (k:Nat) (hk:600 ≤ k) (n:ByteArray) (hs:n.size ≤ 1000000000):gM.f k n = some (if gN n = true then gU n else ⟨#[]⟩):=by
 unfold gM.f
 rw [mg k hk n hs,y8 n hs]
 simp only [Option.bind_some]
 split <;> rfl
theorem all_eq (k:Nat) (hk:600 ≤ k):∀ l:List ByteArray,(∀ x ∈ l,gN x = true) → eH.all k l = some (l.map gU)
 | [],_=>rfl
 | x :: l,h=>by
  have hx:=h x (by simp)
  have hz:=FT hx
  rw [eH.all,wE k hk x (by omega),ai8 hx]
  simp only [Option.bind_some]
  rw [all_eq k hk l (fun y hy=>h y (by simp [hy]))]
  rfl
theorem uI : ∀ l:List ByteArray,(strings_Join.cat (l.map gU)).size = (strings_Join.cat l).size
 | []=>rfl
 | x :: l=>by rw [ajk,strings_Join.cat,strings_Join.cat,ajs,ajs,kG,uI l]
def lw (kind:Int) (d:ByteArray):ByteArray:=(prt kind d).1 ++ strings_Join.cat ((prt kind d).2.2.1.map gU) ++ (prt kind d).2.1
theorem K3 {kind:Int} {d:ByteArray}:(prt kind d).1.size ≤ 65535 ∧ (prt kind d).2.1.size ≤ 65535:=by
 unfold prt
 by_cases h:DU kind d = true
 ·obtain ⟨h0,_⟩:=Dx.mp h
  rw [ai8 h]
  cases hs:aA.DY kind with
  | none=>exact ⟨h0,by show (⟨#[]⟩:ByteArray).size ≤ 65535;decide⟩
  | some s =>
   obtain ⟨R,c1,c2,_⟩:=zo h hs
   simp only [c2]
   simp only [ajJ]
   omega
 ·rw [ai9 h];exact ⟨by decide,by decide⟩
theorem Tc (k:Nat) (hk:K0 + 20 ≤ k) (kind:Int) (d:ByteArray):eH.f k kind d = some (lw kind d):=by
 obtain ⟨p1,p2⟩:=@vH kind d
 obtain ⟨p3,p4⟩:=@K3 kind d
 have hcz:=zn p1
 unfold eH.f
 rw [BF k hk]
 simp only [Option.bind_some]
 rw [all_eq k (by unfold K0 at hk;omega) _ p1]
 simp only [Option.bind_some]
 unfold eH.fin lw
 rw [ai8 (by rw [uI];omega),ai8 (by rw [ajb];omega)]
end
section
open Go.RowKit Go.Proofs.YtfokaoeinpnagaaGreatW.aX Go.Proofs.YtfokaoeinpnagaaGreatW.dL Go.Proofs.YtfokaoeinpnagaaGreatW.eO Go.Proofs.YtfokaoeinpnagaaGreat.B
theorem numsOf_range (s:ByteArray):∀ x ∈ numsOf s,0 ≤ x ∧ x ≤ 255:=by
 intro x hx
 unfold numsOf at hx
 obtain ⟨b,_,rfl⟩:=ajx.mp hx
 have:=b.toNat_lt
 omega
theorem DJ {x:Int} (h:0 ≤ x ∧ x ≤ 255):0 ≤ fF x ∧ fF x ≤ 255:=by unfold fF;split <;> omega
theorem F7 (x:Int):fF (fF x) = fF x:=by
 unfold fF
 by_cases h:65 ≤ x ∧ x ≤ 90
 ·rw [ai8 h,ai9 (by omega)]
 ·rw [ai9 h,ai9 h]
theorem wG (xs:List Int) (h:∀ x ∈ xs,0 ≤ x ∧ x ≤ 255):numsOf (strOfNums xs) = xs:=by
 unfold numsOf
 rw [strOfNums_data,aku]
 conv=>rhs;rw [← List.map_id xs]
 refine List.map_congr_left fun x hx=>?_
 have:=h x hx
 simp [UInt8.toNat_ofNat']
 omega
theorem Pp (s:ByteArray):numsOf (gU s) = (numsOf s).map fF:=by
 unfold gU
 refine wG _ fun x hx=>?_
 obtain ⟨y,hy,rfl⟩:=ajx.mp hx
 exact DJ (numsOf_range s y hy)
theorem K8 (s:ByteArray):gU (gU s) = gU s:=by
 show strOfNums ((numsOf (gU s)).map fF) = strOfNums ((numsOf s).map fF)
 rw [Pp,aku]
 exact ajC strOfNums (List.map_congr_left fun x _=>F7 x)
theorem JI (b:Int) (h:0 ≤ b ∧ b ≤ 63):gU (sg b) = sg b:=by
 have e:numsOf (sg b) = [b]:=wG [b] (by intro x hx;simp only [aj0] at hx;omega)
 unfold gU
 rw [e]
 have:fF b = b:=by unfold fF;rw [ai9 (by omega)]
 rw [ajk,ajn,this]
 rfl
theorem BJ : gU root = root:=by rw [Sl];exact JI 0 (by omega)
theorem Tv {x:ByteArray} (h:wY x):wY (gU x):=by unfold wY at *;rw [kG];exact h
theorem oF : ∀ (l:List ByteArray),(∀ x ∈ l,wY x) → gU (enc l) = enc (l.map gU)
 | [],_=>by rw [kP,ajn,kP,BJ]
 | x :: l,h=>by
  have hx:=h x (by simp)
  rw [jE,wC,wC,oF l (fun y hy=>h y (by simp [hy])),ajk,jE,kG,JI _ (by have:=hx.2;omega)]
theorem JJ {l:List ByteArray} (h:∀ x ∈ l,wY x):∀ x ∈ l.map gU,wY x:=by
 intro x hx
 obtain ⟨y,hy,rfl⟩:=ajx.mp hx
 exact Tv (h y hy)
theorem DK {n:ByteArray} (h:gN n = true):gN (gU n) = true:=by
 obtain ⟨l,rfl,hok,hz⟩:=lH.mp h
 rw [oF l hok]
 refine Sm (JJ hok) ?_
 rw [← oF l hok,kG];exact hz
end
end Go.Proofs.YtfokaoeinpnagaaGreat.ZQ
namespace Go.Proofs.YtfokaoeinpnagaaGreat.Ev
section
open Go Go.RowKit
structure Old (w w':World):Prop where
 os:w'.os = w.os
 output:w'.output = w.output
 size:w.heap.size ≤ w'.heap.size
 block:∀ k,k < w.heap.size → w'.heap[k]? = w.heap[k]?
theorem Old.frame {W w':World} (h:Old W w') (may:MemPlace → Prop):W.keptBut w' may:=by
 refine ⟨h.os,h.output,fun i hi=>?_⟩
 rw [h.block i hi]
 split <;> simp_all
theorem Old.same {W w':World} (h:Old W w') {p:MemPlace} (hp:p.block < W.heap.size):W.sameAt w' p:=by
 cases p with
 | cell b o=>exact World.cell?_of_block (w:=W) (h.block b hp)
 | map b=>exact h.block b hp
theorem Old.trod {H:Type} {enc:TypeId × Value → H} {P:Program} {t:TypeId} (hl:laidOutB P = true) (hr:P.readableRec t = true) (hrow:t < P.types.size) {W W':World} {v:Value} {d:DataW H} {ps:List MemPlace}
  (h:DataW.Trod enc P W 0 (fun _=>true) true t v d ps) (hb:Old W W') (hlt:∀ x ∈ ps,x.block < W.heap.size):DataW.Trod enc P W' 0 (fun b=>decide (b < W.heap.size)) true t v d ps :=
 WideElems.Trod_stays hl hr hrow h (fun x hx=>hb.same (hlt x hx)) (fun x hx=>by simpa using hlt x hx)
theorem Lc {P:Program} {Γ:Env} (kT:iC P Γ) {f:FuncId} {dS pV:List AV} {b:Bool} {vals:List Value} {W:World} (h:Γ f dS = some ([.one (.f (.bool b))],pV)) (ha:fD (fun k=>k < W.heap.size) W dS vals []) :
  Calls P f vals.toArray W fun e W'=>e = .returned (.bool b) ∧ Old W W':=by
 refine (kT f dS _ _ h (fun k=>k < W.heap.size) W vals [] ha akM (by simp) (fun _ h=>h)).mono fun e w' ⟨bD,tF,b1,b2,he,hp⟩=>?_
 refine ⟨?_,hp.kp.1,hp.kp.2,hp.big,fun k hk=>hp.ext k hk (by simp)⟩
 match tF,hp.rs with
 | [v],⟨c1,c2,h1,h2,h3⟩=>rw [he,show v = .bool b from h1.1];rfl
def Ih (P:Program) {α:Type} (T:TypeId) (f:α → List FV) (G:α → Prop):Prop :=
 ∀ {H:Type} (enc:TypeId × Value → H) (w:World) (spare:Nat → Bool) (held:Bool) (fuel:Nat) (cs:List Value) (x:DataW H × List MemPlace),
  DataW.trod enc P w 0 spare held fuel T cs = some x → (∀ n ∈ x.1.weights P T,n ≤ reachBytes) → ∃ a:α,cB (fun k=>k < w.heap.size) w (f a) cs ∧ G a
section
variable {P : Program}
theorem oZ {k:IntKind} {T:TypeId} (h:P.underlying T = some (.int k)):Ih P T (fun n=>[FV.int k n]) (fun n=>(Lit.int k n).wf = true):=by
 intro H enc w spare held fuel cs x hx _
 obtain ⟨n,rfl,rfl,hw⟩:=DataW.trod_int h hx
 exact ⟨n,⟨by simp only [eY],trivial⟩,hw⟩
theorem JN {T:TypeId} (h:P.underlying T = some .string):Ih P T (fun s=>[FV.str s]) (fun s=>s.size ≤ 140737488351232):=by
 intro H enc w spare held fuel cs x hx hz
 obtain ⟨s,rfl,rfl,hw⟩:=DataW.trod_string h hx
 refine ⟨s,⟨by simp only [eY],trivial⟩,?_⟩
 have:=hz s.data.toList.length (by simp [DataW.weights])
 rw [Array.length_toList] at this
 exact this
theorem oG {H:Type} {e:TypeId}:∀ {ds:List (DataW H)} {i:Nat} {d:DataW H},ds[i]? = some d → ∀ n ∈ d.weights P e,n ∈ DataW.weightsAll P e ds
 | [],i,d,h,_,_=>by simp at h
 | d0 :: ds,0,d,h,n,hn=>by
  simp at h;subst h
  exact ajE.mpr (.inl hn)
 | d0 :: ds,i + 1,d,h,n,hn=>by
  simp at h
  exact ajE.mpr (.inr (oG h n hn))
theorem F9 {H:Type} {ts:List TypeId} {ds:List (DataW H)} (h:(DataW.weightsEach P ts ds).all (· ≤ reachBytes) = true) {j:Nat} {t:TypeId} {d:DataW H} (ht:ts[j]? = some t) (hd:ds[j]? = some d) :
  ∀ n ∈ d.weights P t,n ≤ reachBytes:=fun n hn=>by
 have:=ajp.1 h n (DataW.weights_mem_each ht hd n hn)
 simpa using this
theorem uK {α:Type} {Q:Nat → α → Prop}:∀ n,(∀ i,i < n → ∃ y,Q i y) → ∃ ys:List α,ys.length = n ∧ ∀ i y,ys[i]? = some y → Q i y
 | 0,_=>⟨[],rfl,by simp⟩
 | n + 1,h=>by
  obtain ⟨ys,hl,hq⟩:=uK n (fun i hi=>h i (by omega))
  obtain ⟨y,hy⟩:=h n (by omega)
  refine ⟨ys ++ [y],by simp [hl],fun i z hz=>?_⟩
  by_cases hi:i < n
  ·rw [akZ (by omega)] at hz
   exact hq i z hz
  ·have hlt:=(aj1.1 hz).1
   simp only [ajh,List.length_singleton] at hlt
   obtain rfl:i = n:=by omega
   rw [List.getElem?_append_right (by omega),hl,Nat.sub_self] at hz
   simp at hz
   subst hz
   exact hy
theorem BL {Fz:Nat → Prop} {w:World} {b:Nat}:∀ (xs:List FV) (cs:List Value) (o:Nat),cB Fz w xs cs → (∀ i u,cs[i]? = some u → w.cell? ⟨b,o + i,none⟩ = some u) → eu Fz w b o xs
 | [],_,_,_,_=>by simp only [eu]
 | x :: xs,[],_,h,_=>h.elim
 | x :: xs,c :: cs,o,h,hc=>by
  simp only [eu]
  exact ⟨⟨c,hc 0 c rfl,h.1⟩,BL xs cs (o + 1) h.2 fun i u hi=>by rw [show o + 1 + i = o + (i + 1) from by omega];exact hc (i + 1) u hi⟩
theorem zC {Fz:Nat → Prop} {w:World} {sz b:Nat} {α:Type} {f:α → List FV} (hf:∀ a,(f a).length = sz):∀ (l:List α) (o:Nat),(∀ i y,l[i]? = some y → eu Fz w b (o + i * sz) (f y)) → dn Fz w sz b o (l.map f)
 | [],_,_=>by simp only [ajn,dn]
 | y :: l,o,h=>by
  simp only [ajk,dn]
  refine ⟨hf y,by simpa using h 0 y rfl,zC hf l (o + sz) fun i z hz=>?_⟩
  rw [show o + sz + i * sz = o + (i + 1) * sz from by rw [akE];omega]
  exact h (i + 1) z hz
theorem Ld (a:Addr) (x y:Nat):(a.add x).add y = a.add (x + y):=by
 unfold Addr.add
 by_cases hx:x = 0
 ·subst hx;simp
 ·by_cases hy:y = 0
  ·subst hy;simp [hx]
  ·simp [hx,hy,Nat.add_assoc]
theorem zD {w:World} {a:Addr} {u:Value} (h:w.cell? a = some u):a = ⟨a.block,a.off,none⟩ ∧ a.block < w.heap.size:=by
 unfold World.cell? at h
 split at h
 ·rename_i c _ _ hb
  split at h
  ·cases h
  ·rename_i hs
   obtain ⟨b,o,s⟩:=a
   cases s with
   | none=>exact ⟨rfl,by have:=(ake.mp hb).1;exact this⟩
   | some s=>simp at hs
 ·cases h
theorem BM {α:Type} {f:α → List FV} {T e:TypeId} {G:α → Prop} (sz:Nat) (h:P.underlying T = some (.slice e)) (hc:P.cellsOf e = sz) (h0:0 < sz) (hf:∀ a,(f a).length = sz) (hby:decide (1 ≤ P.bytesOf e) = true) (hd:Ih P e f G) :
  Ih P T (fun l:List α=>[FV.sl (l.map f)]) (fun l=>l.length ≤ 140737488351232 ∧ ∀ x ∈ l,G x):=by
 intro H enc w spare held fuel cs x hx hz
 rcases DataW.trod_slice h hx with ⟨rfl,rfl⟩ | ⟨a,len,cap,elems,rest,n,_,rfl,rfl,hb,hl,hm,hlen,hel,_,_⟩
 ·refine ⟨[],⟨?_,trivial⟩,by simp⟩
  simp only [eY]
  exact ⟨none,0,rfl,ajd _,by simp,.inl rfl⟩
 ·have hw:∀ m ∈ (elems.length + rest.length) * P.bytesOf e :: (DataW.weightsAll P e (elems.map (·.1)) ++ DataW.weightsAll P e (rest.map (·.1))),m ≤ reachBytes:=by
   intro m hm'
   refine hz m ?_
   simp only [DataW.weights,h,ajb]
   exact hm'
  obtain ⟨ys,hyl,hys⟩:=uK (α:=α) (Q:=fun i y=>∃ c,w.cells? 0 (a.add (i * P.cellsOf e)) (P.cellsOf e) = some c ∧ cB (fun k=>k < w.heap.size) w (f y) c ∧ G y) len (fun i hi=>by
   have h1:=hel i hi
   rw [ajo (by omega),Option.bind_eq_some_iff] at h1
   obtain ⟨c,hc1,hc2⟩:=h1
   obtain ⟨y,hy,hg⟩:=hd enc w spare held n c _ hc2 (fun m hm'=>by
    refine hw m (ajY _ (ajE.mpr (.inl ?_)))
    exact oG (i:=i) (d:=(elems[i]'(by omega)).1) (by rw [ajf,ajo (by omega)];rfl) m hm')
   exact ⟨y,c,hc1,hy,hg⟩)
  have hlen1:(elems.length + rest.length) * P.bytesOf e ≤ reachBytes:=hw _ (by simp)
  have hlm:cap ≤ 9223372036854775807:=by unfold maxLen at hm;omega
  refine ⟨ys,⟨?_,trivial⟩,?_,?_⟩
  ·simp only [eY,ajb]
   refine ⟨some a,cap,by rw [hyl],by omega,by omega,?_⟩
   cases hy0:ys with
   | nil=>exact .inl rfl
   | cons y0 ys0 =>
    right
    obtain ⟨c0,k0,_,_⟩:=hys 0 y0 (by rw [hy0];rfl)
    rw [hc] at k0
    obtain ⟨_,kl,kc⟩:=World.cells?_some k0
    have k1:=kc 0 h0
    rw [ajo (by omega)] at k1
    obtain ⟨ea,eb⟩:=zD k1
    have ea0:(a.add (0 * sz)).add 0 = a:=by simp [Addr.add]
    rw [ea0] at ea eb
    refine ⟨a.block,a.off,sz,ajC some ea,eb,?_⟩
    rw [← hy0]
    refine zC hf ys a.off fun i y hi=>?_
    obtain ⟨c,hc1,hk,_⟩:=hys i y hi
    rw [hc] at hc1
    obtain ⟨_,hcl,hcc⟩:=World.cells?_some hc1
    refine BL _ c _ hk fun j u hj=>?_
    have hj':j < sz:=by have:=(aj1.1 hj).1;omega
    have:=hcc j hj'
    rw [Ld,hj] at this
    obtain ⟨e1,_⟩:=zD this
    rw [e1] at this
    have e2:a.add (i * sz + j) = ⟨a.block,a.off + i * sz + j,none⟩:=by
     rw [ea];unfold Addr.add;split
     ·rename_i hz;congr 1;simp only;omega
     ·congr 1;simp only;omega
    rw [e2] at this
    exact this
  ·rw [hyl,← hlen]
   have h1:elems.length * P.bytesOf e ≤ (elems.length + rest.length) * P.bytesOf e:=akF _ (by omega)
   have h2:reachBytes = 140737488351232:=rfl
   have h3:elems.length * 1 ≤ elems.length * P.bytesOf e:=Nat.mul_le_mul_left _ (ajw hby)
   omega
  ·intro y hy
   obtain ⟨i,hi,rfl⟩:=List.mem_iff_getElem.1 hy
   obtain ⟨_,_,_,hg⟩:=hys i _ (ajo hi)
   exact hg
def TA (P:Program) {α:Type} (sz:Nat) (f:α → List FV) (fs:List (TypeId × Nat)) (off:Nat) (G:α → Prop):Prop :=
 ∀ {H:Type} (enc:TypeId × Value → H) (w:World) (spare:Nat → Bool) (held:Bool) (n:Nat) (cs:List Value) (xs:List (DataW H × List MemPlace)),
  (∀ (i:Nat) (f:TypeId × Nat),fs[i]? = some f → DataW.trod enc P w 0 spare held n f.1 ((cs.drop f.2).take (P.cellsOf f.1)) = xs[i]?) → xs.length = fs.length →
  (∀ (i:Nat) (x:DataW H × List MemPlace) (f:TypeId × Nat),xs[i]? = some x → fs[i]? = some f → ∀ m ∈ x.1.weights P f.1,m ≤ reachBytes) → cs.length = off + sz → ∃ a,cB (fun k=>k < w.heap.size) w (f a) (cs.drop off) ∧ G a
theorem qQ {α:Type} {sz:Nat} {f:α → List FV} {t:TypeId} {off:Nat} {G:α → Prop} (hd:Ih P t f G) (hc:P.cellsOf t = sz):TA P sz f [(t,off)] off G:=by
 intro H enc w spare held n cs xs hf hl hw hn
 match xs,hl with
 | [y],_ =>
  have h1:=hf 0 _ rfl
  have h2:(cs.drop off).take (P.cellsOf t) = cs.drop off:=akL (by rw [ajA];omega)
  rw [h2] at h1
  exact hd enc w spare held n _ y h1 (hw 0 y _ rfl rfl)
theorem BN {Fz:Nat → Prop} {w:World}:∀ {xs ys:List FV} {cs ds:List Value},cB Fz w xs cs → cB Fz w ys ds → cB Fz w (xs ++ ys) (cs ++ ds)
 | [],_,[],_,_,h=>h
 | [],_,_ :: _,_,h,_=>h.elim
 | _ :: _,_,[],_,h,_=>h.elim
 | x :: xs,ys,c :: cs,ds,h,k=>⟨h.1,BN h.2 k⟩
theorem jr {α β:Type} {sz sz':Nat} {f:α → List FV} {g:β → List FV} {t:TypeId} {fs:List (TypeId × Nat)} {off:Nat} {G:α → Prop} {G':β → Prop} (hd:Ih P t f G) (hc:P.cellsOf t = sz)
  (hr:TA P sz' g fs (off + sz) G'):TA P (sz + sz') (fun p:α × β=>f p.1 ++ g p.2) ((t,off) :: fs) off (fun p=>G p.1 ∧ G' p.2):=by
 intro H enc w spare held n cs xs hf hl hw hn
 match xs,hl with
 | y :: ys,hl =>
  have h1:=hf 0 _ rfl
  obtain ⟨a,ha,ga⟩:=hd enc w spare held n _ y h1 (hw 0 y _ rfl rfl)
  obtain ⟨b,hb,gb⟩:=hr enc w spare held n cs ys (fun i f hi=>hf (i + 1) f hi) (by simpa using hl) (fun i x f hx hfi=>hw (i + 1) x f hx hfi) (by omega)
  refine ⟨(a,b),?_,ga,gb⟩
  have e:cs.drop off = (cs.drop off).take (P.cellsOf t) ++ cs.drop (off + sz):=by rw [← List.drop_drop,hc,akV]
  rw [e]
  exact BN ha hb
theorem pq {α:Type} {sz:Nat} {f:α → List FV} {T:TypeId} {fs:Array Field} {G:α → Prop} (h:P.underlying T = some (.struct fs)) (hc:P.cellsOf T = sz)
  (hd:TA P sz f (fs.toList.map fun f=>(f.type,f.offset)) 0 G):Ih P T f G:=by
 intro H enc w spare held fuel cs x hx hz
 obtain ⟨xs,n,_,rfl,hl,hlen,hf⟩:=DataW.trod_struct h hx
 have hd':=hd enc w spare held n cs xs ?_ (by rw [ajb,Array.length_toList];exact hlen) ?_ (by rw [ajD,← hc];exact hl)
 ·obtain ⟨a,ha,ga⟩:=hd'
  exact ⟨a,by simpa using ha,ga⟩
 ·intro i f hi
  rw [ajf,akI] at hi
  obtain ⟨f',hf',rfl⟩:=hi
  exact hf i f' (by rw [← akm];exact hf')
 ·intro i x f hxi hfi m hm
  refine hz m ?_
  simp only [DataW.weights,h]
  refine DataW.weights_mem_each (j:=i) (t:=f.1) (d:=x.1) ?_ ?_ m hm
  ·rw [ajf] at hfi ⊢
   rw [akI] at hfi ⊢
   obtain ⟨f',hf',rfl⟩:=hfi
   exact ⟨f',hf',rfl⟩
  ·rw [ajf,hxi];rfl
theorem uL {α β:Type} {T:TypeId} {f:α → List FV} {f':β → List FV} {G:α → Prop} {G':β → Prop} (g:α → β) (hg:∀ a,f' (g a) = f a) (hG:∀ a,G a → G' (g a)) (hd:Ih P T f G):Ih P T f' G':=by
 intro H enc w spare held fuel cs x hx hz
 obtain ⟨a,ha,ga⟩:=hd enc w spare held fuel cs x hx hz
 exact ⟨g a,by rw [hg];exact ha,hG a ga⟩
theorem zF {w:World} {r:Reach} {base:Nat} {t:TypeId} {fs:Array Field} {v:Value} (ht:P.underlying t = some (.struct fs)) (h:Value.okWide P w r base t v):∃ cs,v = .agg cs:=by
 simp only [Value.okWide,ht] at h
 obtain ⟨cs,h1,_⟩:=h
 exact ⟨cs,h1⟩
theorem Ga {Fz:Nat → Prop} {w:World}:∀ {xs:List FV} {cs:List Value},cB Fz w xs cs → kS Fz w (xs.map .f) cs []
 | [],[],_=>rfl
 | [],_ :: _,h=>h.elim
 | _ :: _,[],h=>h.elim
 | x :: xs,c :: cs,h=>⟨[],[],⟨h.1,rfl⟩,Ga h.2,rfl⟩
theorem Py {Fz:Nat → Prop} {w:World} {xs:List FV} {cs:Array Value} (h:cB Fz w xs cs.toList):oM Fz w (.agg (xs.map .f)) (.agg cs) []:=⟨cs,rfl,Ga h⟩
theorem Pz {Fz:Nat → Prop} {w:World} {x:FV} {v:Value} (h:eY Fz w x v):oM Fz w (.one (.f x)) v []:=⟨h,rfl⟩
theorem zG {Fz:Nat → Prop} {w:World} {x:AV} {v:Value} {xs:List AV} {vs:List Value} (h:oM Fz w x v []) (k:fD Fz w xs vs []):fD Fz w (x :: xs) (v :: vs) []:=⟨[],[],h,k,rfl⟩
theorem Le {Fz:Nat → Prop} {w:World}:fD Fz w [] [] []:=rfl
end
end
section
open Go
attribute [go_sem ↓] Gz MQ uU GA GD
attribute [go_sem] gQ
attribute [go_sem ↓] Qy MR VU
section
variable {α β:Type} {k:α → Prop} {u:Tok k}
@[go_sem ↓] theorem ae0 {c:Prop} [Decidable c] {a b:Option α}:W k u (if c then a else b) ↔ (c → W k u a) ∧ (¬ c → W k u b):=Z6
end
def Ke : CV → Option (Nat × Nat)
 | .one (.ptr k o)=>some (k,o)
 | _=>none
def qV : CV → Option ByteArray
 | .one (.f (.str s))=>some s
 | _=>none
def MU : CV → Option (List PL)
 | .agg l=>some l
 | _=>none
def VW : PV → Option (List CV)
 | .uM l=>some l
 | _=>none
@[go_sem] theorem Z8 {l:List CV}:VW (.uM l) = some l:=rfl
def fav (off:Nat):CV → Option CV
 | .one (.ptr key o)=>some (.one (.ptr key (o + off)))
 | .one (.fp cs)=>some (.one (.fp (cs.drop off)))
 | .one (.rp key z i o)=>some (.one (.rp key z i (o + off)))
 | _=>none
@[go_sem] theorem acD {off k o:Nat}:fav off (.one (.ptr k o)) = some (.one (.ptr k (o + off))):=rfl
@[go_sem] theorem ae1 {off:Nat} {cs:List FV}:fav off (.one (.fp cs)) = some (.one (.fp (cs.drop off))):=rfl
@[go_sem] theorem ae2 {off k z i o:Nat}:fav off (.one (.rp k z i o)) = some (.one (.rp k z i (o + off))):=rfl
def VX : CV → Option Bool
 | .one .bY=>some true
 | .one (.f (.sl (_ :: _)))=>some false
 | _=>none
@[go_sem] theorem ae3 : VX (.one .bY) = some true:=rfl
@[go_sem] theorem ae4 {r:List FV} {l:List (List FV)}:VX (.one (.f (.sl (r :: l)))) = some false:=rfl
section
variable {α : Type}
@[go_sem] theorem get_nil {i:Nat}:get ([]:List (Nat × α)) i = none:=rfl
@[go_sem] theorem Z9 {k:Nat} {v:α} {l:List (Nat × α)} {i:Nat}:get ((k,v) :: l) i = if k = i then some v else get l i:=rfl
@[go_sem] theorem acE {i:Nat}:rem ([]:List (Nat × α)) i = []:=rfl
@[go_sem] theorem aac {k:Nat} {v:α} {l:List (Nat × α)} {i:Nat}:rem ((k,v) :: l) i = if k = i then rem l i else (k,v) :: rem l i:=rfl
@[go_sem] theorem acF {i:Nat} {v:α}:put ([]:List (Nat × α)) i v = [(i,v)]:=rfl
@[go_sem] theorem aad {k:Nat} {w:α} {l:List (Nat × α)} {i:Nat} {v:α}:put ((k,w) :: l) i v = if k = i then (i,v) :: rem l i else (k,w) :: put l i v:=rfl
def MV (k:Nat) (r:List (Nat × α)):Option α → List (Nat × α)
 | some v=>(k,v) :: r
 | none=>r
@[go_sem] theorem VY {k:Nat} {v:α} {r:List (Nat × α)}:MV k r (some v) = (k,v) :: r:=rfl
@[go_sem] theorem VZ {k:Nat} {r:List (Nat × α)}:MV k r none = r:=rfl
@[go_sem] theorem aae {l:List (Nat × α)}:pick [] l = []:=rfl
@[go_sem] theorem Yn {k:Nat} {ks:List Nat} {l:List (Nat × α)}:pick (k :: ks) l = MV k (pick ks l) (get l k):=by
 unfold pick
 rw [List.filterMap_cons]
 cases get l k <;> rfl
end
section
variable {Γ : Env} {F d:Nat} {q:Bool} {σ:St}
section
variable {k : Out × St → Prop} {u:Tok k}
@[go_sem ↓] theorem ae5 : W k u (ev Γ F .skip σ) ↔ k (.jg,σ):=by simp only [ev];exact gQ
@[go_sem ↓] theorem agX {is:List G} {ks:List Nat}:W k u (ev Γ F (.reg is ks) σ) ↔ W (fun s=>W k ⟨⟩ (some (.jg,⟨pick ks s.tm,s.ob⟩))) ⟨⟩ (wI Γ false is σ):=by simp only [ev,dQ,bU,bC]
@[go_sem ↓] theorem agY {pre:List (G × List Nat)} {lY:List Nat} {jR rest:List G} {ks:List Nat}:W k u (ev Γ F (.sD pre lY jR rest ks) σ) ↔ W (fun s=>W k ⟨⟩ (some (.jg,⟨pick ks s.tm,s.ob⟩))) ⟨⟩ (Yi Γ pre lY jR rest σ):=by simp only [ev,dQ,bU,bC]
@[go_sem ↓] theorem aaf {gs:List G} {ks mF:List Nat} {r:St}:kV Γ gs ks mF σ r [] ↔ True:=aje
@[go_sem ↓] theorem Yo {gs:List G} {ks mF:List Nat} {r:St} {o:List Nat} {os:List (List Nat)}:kV Γ gs ks mF σ r (o :: os) ↔ W (fun s=>W (fun t=>t = r) ⟨⟩ (some (⟨pick ks s.tm,pick mF s.ob⟩:St))) ⟨⟩ (wI Γ false (o.map fun i=>gs.getD i default) σ) ∧ kV Γ gs ks mF σ r os:=by
 conv=>lhs;unfold kV
 simp only [dQ,V,ajl,exists_eq_left']
@[go_sem ↓] theorem aag {gs:List G} {o:List Nat} {os:List (List Nat)} {ks mF:List Nat}:W k u (ev Γ F (.any gs (o :: os) ks mF) σ) ↔ W (fun s=>W (fun r=>kV Γ gs ks mF σ r os ∧ W k ⟨⟩ (some (.jg,r))) ⟨⟩ (some (⟨pick ks s.tm,pick mF s.ob⟩:St))) ⟨⟩ (wI Γ false (o.map fun i=>gs.getD i default) σ):=by
 simp only [ev,evO,dQ,aQ,bM,bC]
@[go_sem ↓] theorem agZ {a b:CC}:W k u (ev Γ F (.seq a b) σ) ↔ W (fun p=>match p.1 with
  | .jg=>W k ⟨⟩ (ev Γ F b p.2)
  | o=>k (o,p.2)) ⟨⟩ (ev Γ F a σ):=by
 simp only [ev,dQ,aQ]
 refine cZ fun p=>?_
 obtain ⟨o,s⟩:=p
 cases o <;> first | rfl | exact bC
@[go_sem ↓] theorem ae6 {c:dM} {a b:CC}:W k u (ev Γ F (.cond c a b) σ) ↔ W (fun v=>W (fun t=>Br t (fun _=>W k ⟨⟩ (ev Γ F a σ)) (fun _=>W k ⟨⟩ (ev Γ F b σ)) ⟨⟩) ⟨⟩ (bool? v)) ⟨⟩ (val σ c):=by
 simp only [ev,dQ,aQ]
 refine cZ fun v=>cZ fun t=>?_
 cases t <;> simp [Br,dQ]
@[go_sem ↓] theorem acG {id:Nat} {c:CC}:W k u (ev Γ F (.block id c) σ) ↔ W (fun p=>match p.1 with
  | .ext i=>if i = id then k (.jg,p.2) else k (.ext i,p.2)
  | o=>k (o,p.2)) ⟨⟩ (ev Γ F c σ):=by
 simp only [ev,dQ,bU]
 refine cZ fun p=>?_
 obtain ⟨o,s⟩:=p
 cases o with
 | ext i=>by_cases hi:i = id <;> simp [hi]
 | _=>exact aje
@[go_sem ↓] theorem kY {keep BO:List Nat} {rws:List (Nat × Nat)} {c:CC}:W k u (ev Γ F (.loop keep BO rws c) σ) ↔ W k u (iter (ev Γ F c) (res keep BO rws) F σ):=by simp only [ev]
@[go_sem ↓] theorem ae7 {id:Nat}:W k u (ev Γ F (.exit id) σ) ↔ k (.ext id,σ):=by simp only [ev];exact gQ
@[go_sem ↓] theorem ag0 : W k u (ev Γ F .ret σ) ↔ k (.ret,σ):=by simp only [ev];exact gQ
end
section
variable {k : St → Prop} {u:Tok k}
@[go_sem ↓] theorem Yp : W k u (wI Γ q [] σ) ↔ k σ:=gQ
@[go_sem ↓] theorem V3 {g:G} {l:List G}:W k u (wI Γ q (g :: l) σ) ↔ W (fun s=>W k ⟨⟩ (wI Γ q l s)) ⟨⟩ (PE Γ q σ g):=by
 show W k u ((PE Γ q σ g).bind (wI Γ q l)) ↔ _
 rw [Gz]
@[go_sem ↓] theorem ag1 {g:G}:W k u (PE Γ q σ g) ↔ W (fun p=>W k ⟨⟩ (some (qU p.2 g.dst p.1))) ⟨⟩ (mH Γ q σ g):=by simp only [PE,dQ,bU,bC]
def V4 (f:Nat → Option (PV × St)):List Nat → Prop
 | []=>True
 | j :: l=>W (fun _=>True) ⟨⟩ (f j) ∧ V4 f l
theorem IW {f:Nat → Option (PV × St)}:∀ {l:List Nat},l.all (fun j=>(f j).isSome) = true ↔ V4 f l
 | []=>by simp [V4]
 | j :: l=>by
  rw [List.all_cons,ajg,IW (l:=l)]
  refine and_congr_left fun _=>?_
  cases h:f j with
  | none=>simp [uU]
  | some y=>simp [gQ]
@[go_sem ↓] theorem acH {f:Nat → Option (PV × St)}:V4 f [] ↔ True:=aje
@[go_sem ↓] theorem aah {f:Nat → Option (PV × St)} {j:Nat} {l:List Nat}:V4 f (j :: l) ↔ W (fun _=>True) ⟨⟩ (f j) ∧ V4 f l:=aje
def wkv : Option CV → List Nat
 | some (.one (.ptr k _))=>[k]
 | _=>[]
@[go_sem] theorem acI {k o:Nat}:wkv (some (.one (.ptr k o))) = [k]:=rfl
@[go_sem] theorem acJ {tm:List (Nat × PV)} {dst:Option Nat} {gd:Option (Option Nat × Bool)} {n:Nat} {x y:dM}:sO tm ⟨dst,gd,.store n x y⟩ = wkv (val ⟨tm,[]⟩ x):=by
 show (match val ⟨tm,[]⟩ x with | some (.one (.ptr k _))=>[k] | _=>[]) = _
 cases val ⟨tm,[]⟩ x with
 | none=>rfl
 | some v=>cases v with
  | one y=>cases y <;> rfl
  | agg _=>rfl
@[go_sem ↓] theorem ag2 {pre:List (G × List Nat)} {lY:List Nat} {jR rest:List G}:W k u (Yi Γ pre lY jR rest σ) ↔ pre.all (fun g=>!gN g.1.i || fresh σ (dA (g.1.dst.getD 999))) = true ∧ W (fun s=>W (fun tm=>V4 (fun j=>mH Γ true ⟨tm,σ.ob.filter (fun p=>!(jR.flatMap (sO tm)).contains p.1)⟩ (pre.getD j default).1) lY ∧ W (fun ob=>W (fun s=>W k ⟨⟩ (wI Γ false rest s)) ⟨⟩ (some ⟨tm,ob⟩)) ⟨⟩ (LD Γ tm jR s.ob)) ⟨⟩ (some (pick (s.tm.map (·.1)) s.tm))) ⟨⟩ (P7 Γ σ.ob pre σ):=by
 simp only [Yi,dQ,aQ,bM,bC,← IW]
@[go_sem ↓] theorem Yq {rA:List (Nat × Ob)}:W k u (P7 Γ rA [] σ) ↔ k σ:=gQ
@[go_sem ↓] theorem V5 {rA:List (Nat × Ob)} {g:G} {nk:List Nat} {l:List (G × List Nat)}:W k u (P7 Γ rA ((g,nk) :: l) σ) ↔ W (fun p=>nk.any (fun k=>rz k p.1 || (gN g.i && (p.2.ob.take 1).any (fun r=>r.1 == k || mG k r.2))) = false ∧ W (fun s=>W k ⟨⟩ (P7 Γ rA l s)) ⟨⟩ (some ⟨sN g.dst σ.tm p.1,if gN g.i then p.2.ob.take 1 ++ σ.ob else σ.ob⟩)) ⟨⟩ (mH Γ true ⟨σ.tm,rA⟩ g):=by
 conv=>lhs;unfold P7
 simp only [dQ,aQ,dw,bC,aj5]
end
section
variable {k : List (Nat × Ob) → Prop} {u:Tok k} {tm:List (Nat × PV)} {ob:List (Nat × Ob)}
@[go_sem ↓] theorem Yr : W k u (LD Γ tm [] ob) ↔ k ob:=gQ
@[go_sem ↓] theorem V6 {n:Nat} {x y:dM} {dst:Option Nat} {gd:Option (Option Nat × Bool)} {l:List G}:W k u (LD Γ tm (⟨dst,gd,.store n x y⟩ :: l) ob) ↔ W (fun v=>W (fun _=>W (fun p=>W k ⟨⟩ (LD Γ tm l p.2.ob)) ⟨⟩ (bZ Γ true ⟨tm,ob⟩ 999 (.store n x y))) ⟨⟩ (Ke v)) ⟨⟩ (val ⟨tm,ob⟩ x):=by
 conv=>lhs;unfold LD
 simp only
 cases hv:val ⟨tm,ob⟩ x with
 | none=>simp only [uU]
 | some v =>
  rw [gQ]
  cases v with
  | one y=>cases y <;> simp only [Ke,dQ,jC,bC,aQ]
  | agg xs=>simp only [Ke,uU]
end
section
variable {i : Nat}
def vl : Option PV → Option CV
 | some (.c x)=>some x
 | _=>none
@[go_sem] theorem acK {x:CV}:vl (some (.c x)) = some x:=rfl
@[go_sem] theorem aai : val σ (.t i) = vl (get σ.tm i):=by simp only [val];cases get σ.tm i with | none=>rfl | some v=>cases v <;> rfl
@[go_sem] theorem ag3 {x:CV}:val σ (.k x) = some x:=rfl
@[go_sem] theorem ae8 : sM σ (.t i) = get σ.tm i:=rfl
@[go_sem] theorem ae9 {x:CV}:sM σ (.k x) = some (.c x):=rfl
@[go_sem] theorem aaj {k:IntKind} {n:Int}:int? (.one (.f (.int k n))) = some (k,n):=rfl
@[go_sem] theorem V7 {b:Bool}:bool? (.one (.f (.bool b))) = some b:=rfl
@[go_sem] theorem aak {k o:Nat}:Ke (.one (.ptr k o)) = some (k,o):=rfl
@[go_sem] theorem aal {s:ByteArray}:qV (.one (.f (.str s))) = some s:=rfl
@[go_sem] theorem aam {l:List PL}:MU (.agg l) = some l:=rfl
@[go_sem] theorem cells_one {x:PL}:cells (.one x) = [x]:=rfl
@[go_sem] theorem Yt {xs:List PL}:cells (.agg xs) = xs:=rfl
def oc : Option Ob → Option (List PL)
 | some (.eT xs)=>some xs
 | _=>none
def MW : Option Ob → Option (Nat × List (List FV))
 | some (.row sz rows)=>some (sz,rows)
 | _=>none
def om : Option Ob → Option (KS × List (KV × FC))
 | some (.map sh ents)=>some (sh,ents)
 | _=>none
@[go_sem] theorem afa {xs:List PL}:oc (some (.eT xs)) = some xs:=rfl
@[go_sem] theorem acL {sz:Nat} {rows:List (List FV)}:MW (some (.row sz rows)) = some (sz,rows):=rfl
@[go_sem] theorem afb {sh:KS} {ents:List (KV × FC)}:om (some (.map sh ents)) = some (sh,ents):=rfl
def gb (want:Bool):Option PV → Option Bool
 | some (.c (.one (.f (.bool b))))=>some (b == want)
 | some (.c (.one .und))=>some false
 | _=>none
@[go_sem] theorem acM {b:Bool}:gb true (some (.c (.one (.f (.bool b))))) = some b:=by cases b <;> rfl
@[go_sem] theorem aan {b:Bool}:gb false (some (.c (.one (.f (.bool b))))) = some (!b):=by cases b <;> rfl
@[go_sem] theorem afc {w:Bool}:gb w (some (.c (.one .und))) = some false:=rfl
@[go_sem] theorem Yu {v:PV}:qU σ (some i) v = ⟨put σ.tm i v,σ.ob⟩:=rfl
@[go_sem] theorem Yv {v:PV}:qU σ none v = σ:=rfl
@[go_sem] theorem Yw {tm:List (Nat × PV)} {v:PV}:sN (some i) tm v = put tm i v:=rfl
@[go_sem] theorem Yx {tm:List (Nat × PV)} {v:PV}:sN none tm v = tm:=rfl
end
section
variable {α : Type} {n off:Nat} {x:α} {xs ys:List α}
@[go_sem] theorem aao : seg 0 0 xs = some []:=by simp [seg]
@[go_sem] theorem aap : seg (n + 1) 0 (x :: xs) = (seg n 0 xs).map (x :: ·):=by
 unfold seg
 simp only [ajD,List.length_cons,Nat.add_le_add_iff_right,aj9,List.take_succ_cons]
 split <;> rfl
@[go_sem] theorem aaq : seg n (off + 1) (x :: xs) = seg n off xs:=by
 unfold seg
 simp only [List.length_cons,List.drop_succ_cons]
 by_cases h:off + n ≤ xs.length
 ·rw [ai8 h,ai8 (by omega)]
 ·rw [ai9 h,ai9 (by omega)]
@[go_sem] theorem acN : lay 0 ([]:List α) xs = some xs:=by simp [lay]
@[go_sem] theorem acO {y:α}:lay 0 (y :: ys) (x :: xs) = (lay 0 ys xs).map (y :: ·):=by
 unfold lay
 simp only [ajD,List.length_cons,Nat.add_le_add_iff_right,List.take_zero,List.drop_succ_cons,List.nil_append,List.cons_append]
 split <;> rfl
@[go_sem] theorem aar : lay (off + 1) ys (x :: xs) = (lay off ys xs).map (x :: ·):=by
 unfold lay
 simp only [List.length_cons,List.take_succ_cons]
 rw [show off + 1 + ys.length = off + ys.length + 1 from by omega]
 by_cases h:off + ys.length ≤ xs.length
 ·rw [ai8 h,ai8 (by omega)];rfl
 ·rw [ai9 h,ai9 (by omega)];rfl
end
@[go_sem] theorem afd {xs:List PL}:mk true xs = some (.agg xs):=rfl
@[go_sem] theorem mk_one {x:PL}:mk false [x] = some (.one x):=rfl
def pI (σ:St) (key:Nat):Option (List PL):=oc (get σ.ob key)
def iM (σ:St) (key:Nat):Option (Nat × List (List FV)):=MW (get σ.ob key)
def oN (σ:St) (key:Nat):Option (KS × List (KV × FC)):=om (get σ.ob key)
attribute [go_sem] pI iM oN Option.map_some Option.map_none Option.bind_some Option.bind_none
def kL (σ:St) (n:Nat):CV → Option (List PL)
 | .one (.ptr key off)=>(pI σ key).bind (seg n off)
 | .one (.fp cs)=>(seg n 0 cs).map (·.map .f)
 | .one (.rp key z i off)=>(iM σ key).bind fun p=>if p.1 ≠ z then none else p.2[i]?.bind fun r=>(seg n off r).map (·.map .f)
 | _=>none
@[go_sem ↓] theorem TN {n key off:Nat}:kL σ n (.one (.ptr key off)) = (pI σ key).bind (seg n off):=rfl
@[go_sem] theorem V8 {n:Nat} {cs:List FV}:kL σ n (.one (.fp cs)) = (seg n 0 cs).map (·.map .f):=rfl
section
variable {k : List PL → Prop} {u:Tok k}
@[go_sem ↓] theorem TP {n key off:Nat}:W k u (kL σ n (.one (.ptr key off))) ↔ W (fun xs=>W k ⟨⟩ (seg n off xs)) ⟨⟩ (pI σ key):=Gz
@[go_sem ↓] theorem V9 {n:Nat} {cs:List FV}:W k u (kL σ n (.one (.fp cs))) ↔ W (fun l=>k (l.map .f)) ⟨⟩ (seg n 0 cs):=MQ
@[go_sem ↓] theorem Wh {n key z i off:Nat}:W k u (kL σ n (.one (.rp key z i off))) ↔ W (fun p=>p.1 = z ∧ W (fun r=>W (fun l=>k (l.map .f)) ⟨⟩ (seg n off r)) ⟨⟩ (p.2[i]?)) ⟨⟩ (iM σ key):=by
 simp only [kL,dQ,aQ,bU,dw,ne_eq,ajQ]
end
section
variable {k : PV × St → Prop} {u:Tok k} {x y c:dM}
@[go_sem ↓] theorem afe {dst:Option Nat} {i:I}:W k u (mH Γ q σ ⟨dst,none,i⟩) ↔ W k u (bZ Γ q σ (dst.getD 999) i):=aje
@[go_sem ↓] theorem Yy {dst:Option Nat} {s:Nat} {want:Bool} {i:I}:W k u (mH Γ q σ ⟨dst,some (some s,want),i⟩) ↔ W (fun w=>Br w (fun _=>W k ⟨⟩ (bZ Γ q σ (dst.getD 999) i)) (fun _=>k (.c (.one .und),σ)) ⟨⟩) ⟨⟩ (gb want (get σ.tm s)):=by
 have h:zO σ (some (some s,want)) = gb want (get σ.tm s):=by
  simp only [zO]
  cases get σ.tm s with
  | none=>rfl
  | some v =>
   cases v with
   | uM l=>rfl
   | c x =>
    cases x with
    | agg l=>rfl
    | one p =>
     cases p with
     | f z=>cases z <;> rfl
     | _=>rfl
 simp only [mH,dQ,aQ,h]
 refine cZ fun t=>?_
 cases t <;> simp [bC,Br,dQ]
@[go_sem ↓] theorem aiL : W k u (bZ Γ q σ d (.mv x)) ↔ W (fun v=>k (v,σ)) ⟨⟩ (sM σ x):=by simp only [bZ];exact MQ
@[go_sem ↓] theorem aff : W k u (bZ Γ q σ d (.pick c x y)) ↔ W (fun v=>W (fun t=>Br t (fun _=>W (fun z=>k (.c z,σ)) ⟨⟩ (val σ x)) (fun _=>W (fun z=>k (.c z,σ)) ⟨⟩ (val σ y)) ⟨⟩) ⟨⟩ (bool? v)) ⟨⟩ (val σ c):=by
 simp only [bZ,dQ,aQ,bU]
 refine cZ fun v=>cZ fun t=>?_
 cases t <;> simp [Br,dQ]
@[go_sem ↓] theorem acP {e:TypeId} {z:List PL}:W k u (bZ Γ q σ d (.alloc e z)) ↔ z.any (d9 (dA d)) = false ∧ W (fun s=>k (.c (.one (.ptr (dA d) 0)),s)) ⟨⟩ (new σ (dA d) (.eT z)):=by
 simp only [bZ,dQ,dw,gP,bU,aj5]
@[go_sem ↓] theorem ag4 {e:TypeId}:W k u (bZ Γ q σ d (.box e x)) ↔ W (fun v=>((cells v).any pO || (cells v).any (d9 (dA d))) = false ∧ W (fun s=>k (.c (.one (.ptr (dA d) 0)),s)) ⟨⟩ (new σ (dA d) (.eT (cells v)))) ⟨⟩ (val σ x):=by
 simp only [bZ,dQ,aQ,dw,gP,bU,aj5]
@[go_sem ↓] theorem acQ {z:List PL} {ps:List (Nat × Nat × dM)}:W k u (bZ Γ q σ d (.build z ps)) ↔ W (fun l=>W (fun z=>k (.c (.agg z),σ)) ⟨⟩ (fill z l)) ⟨⟩ (vals σ ps):=by
 simp only [bZ,dQ,aQ,bU]
@[go_sem ↓] theorem ag5 {e:TypeId} {sz len:Nat} {z:List PL} {ps:List (Nat × Nat × dM)}:W k u (bZ Γ q σ d (.zH e sz len z ps)) ↔ W (fun l=>W (fun z=>(q && z.any gD) = false ∧ W (fun p=>W (fun s=>k (.c (.one (.own (dA d) len)),s)) ⟨⟩ (new p.2 (dA d) (.row sz (rowsOf sz len p.1)))) ⟨⟩ (kJ σ z)) ⟨⟩ (fill z l)) ⟨⟩ (vals σ ps):=by
 simp only [bZ,dQ,aQ,dw,gP,bU,aj5]
@[go_sem ↓] theorem acR {x:PL}:W k u (D5 (.c (.one x)) σ) ↔ W (fun p=>k (.c (.one (.f p.1)),p.2)) ⟨⟩ (vN σ x):=by simp only [D5,dQ,bU]
@[go_sem ↓] theorem ag6 {e:TypeId} {sz len:Nat} {z:List PL} {ps:List (Nat × Nat × dM)}:W k u (bZ Γ q σ d (.PD e sz len z ps)) ↔ W (fun l=>W (fun z=>(q && z.any gD) = false ∧ W (fun p=>W (fun s=>W k ⟨⟩ (D5 (.c (.one (.own (dA d) len))) s)) ⟨⟩ (new p.2 (dA d) (.row sz (rowsOf sz len p.1)))) ⟨⟩ (kJ σ z)) ⟨⟩ (fill z l)) ⟨⟩ (vals σ ps):=by
 simp only [bZ,dQ,aQ,dw,gP,bU,aj5]
@[go_sem ↓] theorem afg {n:Nat} {agg:Bool}:W k u (bZ Γ q σ d (.load n agg x)) ↔ W (fun v=>W (fun l=>W (fun z=>k (.c z,σ)) ⟨⟩ (mk agg l)) ⟨⟩ (kL σ n v)) ⟨⟩ (val σ x):=by
 have h:bZ Γ q σ d (.load n agg x) = (val σ x).bind fun v=>(kL σ n v).bind fun l=>(mk agg l).map fun z=>(.c z,σ):=by
  simp only [bZ]
  congr 1
  funext v
  cases v with
  | agg l=>rfl
  | one p =>
   cases p with
   | ptr key off=>simp only [kL,pI];cases get σ.ob key with | none=>rfl | some o=>cases o <;> rfl
   | fp cs=>simp only [kL];cases seg n 0 cs <;> rfl
   | rp key z i off =>
    simp only [kL,iM]
    cases get σ.ob key with
    | none=>rfl
    | some o =>
     cases o with
     | row sz rows =>
      simp only [MW,Option.bind_some]
      split
      ·rfl
      ·cases rows[i]? with
       | none=>rfl
       | some r=>simp only [Option.bind_some];cases seg n off r <;> rfl
     | _=>rfl
   | _=>rfl
 rw [h]
 simp only [dQ,aQ,bU]
def ED (q:Bool) (σ:St) (ys:List PL):CV → Option St
 | .one (.ptr key off)=>(pI σ key).bind fun xs=>(lay off ys xs).map fun l=>jA σ key (.eT l)
 | .one (.rp key z i off)=>if q && ys.any gD then none else (kJ σ ys).bind fun p=>(iM p.2 key).bind fun o=>if o.1 ≠ z then none else o.2[i]?.bind fun r=>(lay off p.1 r).map fun l=>jA p.2 key (.row o.1 (o.2.set i l))
 | _=>none
@[go_sem ↓] theorem acS {n:Nat}:W k u (bZ Γ q σ d (.store n x y)) ↔ W (fun v=>W (fun z=>((cells z).length = n ∧ (cells z).any pO = false) ∧ W (fun s=>k (.c (.one .und),s)) ⟨⟩ (ED q σ (cells z) v)) ⟨⟩ (val σ y)) ⟨⟩ (val σ x):=by
 have h:bZ Γ q σ d (.store n x y) = (val σ x).bind fun v=>(val σ y).bind fun z=>if (cells z).length = n ∧ (cells z).any pO = false then (ED q σ (cells z) v).map fun s=>(.c (.one .und),s) else none:=by
  simp only [bZ]
  congr 1
  funext v
  congr 1
  funext z
  split
  ·cases v with
   | agg l=>rfl
   | one p =>
    cases p with
    | ptr key off =>
     simp only [ED,pI]
     cases get σ.ob key with
     | none=>rfl
     | some o=>cases o <;> first | rfl | (simp only [oc,Option.bind_some,Option.map_map];rfl)
    | rp key zz i off =>
     simp only [ED,iM]
     split
     ·rfl
     ·cases kJ σ (cells z) with
      | none=>rfl
      | some p =>
       simp only [Option.bind_some]
       cases get p.2.ob key with
       | none=>rfl
       | some o =>
        cases o with
        | row sz rows =>
         simp only [MW,Option.bind_some]
         split
         ·rfl
         ·cases rows[i]? with
          | none=>rfl
          | some r=>simp only [Option.bind_some,Option.map_map];rfl
        | _=>rfl
    | _=>rfl
  ·rfl
 rw [h]
 simp only [dQ,aQ,bM,bU]
end
section
variable {k : St → Prop} {u:Tok k}
@[go_sem ↓] theorem Wi {ys:List PL} {key off:Nat}:W k u (ED q σ ys (.one (.ptr key off))) ↔ W (fun xs=>W (fun l=>k (jA σ key (.eT l))) ⟨⟩ (lay off ys xs)) ⟨⟩ (pI σ key):=by
 simp only [ED,dQ,aQ,bU]
@[go_sem ↓] theorem Yz {ys:List PL} {key z i off:Nat}:W k u (ED q σ ys (.one (.rp key z i off))) ↔ (q && ys.any gD) = false ∧ W (fun p=>W (fun o=>o.1 = z ∧ W (fun r=>W (fun l=>k (jA p.2 key (.row o.1 (o.2.set i l)))) ⟨⟩ (lay off p.1 r)) ⟨⟩ (o.2[i]?)) ⟨⟩ (iM p.2 key)) ⟨⟩ (kJ σ ys):=by
 simp only [ED,dQ,dw,aQ,bU,ne_eq,ajQ,aj5]
end
end
end
section
open Go
section
variable {Γ : Env} {F d:Nat} {q:Bool} {σ:St} {k:PV × St → Prop} {u:Tok k} {x y z:dM}
def Qz : CV → Option CV
 | .one (.ptr k o)=>some (.one (.ptr k o))
 | .one (.fp cs)=>some (.one (.fp cs))
 | .one (.rp k z i o)=>some (.one (.rp k z i o))
 | _=>none
@[go_sem] theorem aas {k o:Nat}:Qz (.one (.ptr k o)) = some (.one (.ptr k o)):=rfl
@[go_sem] theorem acT {cs:List FV}:Qz (.one (.fp cs)) = some (.one (.fp cs)):=rfl
@[go_sem] theorem acU {k z i o:Nat}:Qz (.one (.rp k z i o)) = some (.one (.rp k z i o)):=rfl
@[go_sem ↓] theorem afh : W k u (bZ Γ q σ d (.gZ x)) ↔ W (fun v=>W (fun w=>k (.c w,σ)) ⟨⟩ (Qz v)) ⟨⟩ (val σ x):=by
 simp only [bZ,dQ,aQ]
 refine cZ fun v=>?_
 cases v with
 | agg l=>exact bX
 | one p=>cases p <;> first | exact bX | exact lT aje
def isn : CV → Option Bool
 | .one .iU=>some true
 | .one (.ptr _ _)=>some false
 | .one (.fp _)=>some false
 | .one (.rp _ _ _ _)=>some false
 | _=>none
@[go_sem] theorem acV : isn (.one .iU) = some true:=rfl
@[go_sem] theorem acW {k o:Nat}:isn (.one (.ptr k o)) = some false:=rfl
@[go_sem] theorem afi {cs:List FV}:isn (.one (.fp cs)) = some false:=rfl
@[go_sem] theorem afj {k z i o:Nat}:isn (.one (.rp k z i o)) = some false:=rfl
@[go_sem ↓] theorem afk {neg:Bool}:W k u (bZ Γ q σ d (.xq neg x)) ↔ W (fun v=>W (fun b=>k (.c (.one (.f (.bool (if neg then !b else b)))),σ)) ⟨⟩ (isn v)) ⟨⟩ (val σ x):=by
 simp only [bZ,dQ,aQ]
 refine cZ fun v=>?_
 cases v with
 | agg l=>exact bX
 | one p=>cases p <;> first | exact bX | (cases neg <;> exact lT aje)
@[go_sem ↓] theorem aiM {off:Nat}:W k u (bZ Γ q σ d (.fa off x)) ↔ W (fun v=>W (fun w=>k (.c w,σ)) ⟨⟩ (fav off v)) ⟨⟩ (val σ x):=by
 simp only [bZ,dQ,aQ]
 refine cZ fun v=>?_
 cases v with
 | agg l=>exact bX
 | one p=>cases p <;> first | exact bX | exact lT aje
@[go_sem ↓] theorem aiN {o:Ar}:W k u (bZ Γ q σ d (.ar o x y)) ↔ W (fun a=>W (fun b=>W (fun a=>W (fun b=>a.1 = b.1 ∧ W (fun n=>k (.c (.one (.f (.int a.1 n))),σ)) ⟨⟩ (Lf o a.1 a.2 b.2)) ⟨⟩ (int? b)) ⟨⟩ (int? a)) ⟨⟩ (val σ y)) ⟨⟩ (val σ x):=by
 simp only [bZ,dQ,aQ,bM,one,bC]
@[go_sem ↓] theorem ag7 {o:Yc}:W k u (bZ Γ q σ d (.cmp o x y)) ↔ W (fun a=>W (fun b=>W (fun a=>W (fun b=>a.1 = b.1 ∧ k (.c (.one (.f (.bool (xD o a.2 b.2)))),σ)) ⟨⟩ (int? b)) ⟨⟩ (int? a)) ⟨⟩ (val σ y)) ⟨⟩ (val σ x):=by
 simp only [bZ,dQ,aQ,bM,one,bC]
@[go_sem] theorem acX {k:IntKind} {a b:Int}:Lf .add k a b = some (k.wrap (a + b)):=rfl
@[go_sem] theorem acY {k:IntKind} {a b:Int}:Lf .sub k a b = some (k.wrap (a - b)):=rfl
@[go_sem] theorem acZ {k:IntKind} {a b:Int}:Lf .mul k a b = some (k.wrap (a * b)):=rfl
section
variable {k : Int → Prop} {u:Tok k} {kk:IntKind} {a b:Int}
@[go_sem ↓] theorem ag8 : W k u (Lf .quo kk a b) ↔ ¬ b = 0 ∧ k (kk.wrap (a.tdiv b)):=by simp only [Lf,dQ,dw,bC]
@[go_sem ↓] theorem ag9 : W k u (Lf .rem kk a b) ↔ ¬ b = 0 ∧ k (a.tmod b):=by simp only [Lf,dQ,dw,bC]
end
section
variable {a b:Int}
@[go_sem] theorem ac0 : xD .eq a b = decide (a = b):=rfl
@[go_sem] theorem ac1 : xD .ne a b = !decide (a = b):=rfl
@[go_sem] theorem ac2 : xD .lt a b = decide (a < b):=rfl
@[go_sem] theorem ac3 : xD .le a b = decide (a ≤ b):=rfl
@[go_sem] theorem ac4 : xD .gt a b = decide (b < a):=rfl
@[go_sem] theorem ac5 : xD .ge a b = decide (b ≤ a):=rfl
end
@[go_sem ↓] theorem aha {sh:KS} {neg:Bool}:W k u (bZ Γ q σ d (.ru sh neg x y)) ↔ W (fun a=>W (fun b=>W (fun a=>W (fun b=>(a.ks = sh ∧ b.ks = sh) ∧ k (.c (.one (.f (.bool (if neg then !decide (a = b) else decide (a = b))))),σ)) ⟨⟩ (keyOf b)) ⟨⟩ (keyOf a)) ⟨⟩ (val σ y)) ⟨⟩ (val σ x):=by
 simp only [bZ,dQ,aQ,bM,one,bC]
@[go_sem ↓] theorem ahb : W k u (bZ Γ q σ d (.cat x y)) ↔ W (fun a=>W (fun b=>W (fun a=>W (fun b=>a.size + b.size ≤ 9223372036854775807 ∧ k (.c (.one (.f (.str (a ++ b)))),σ)) ⟨⟩ (qV b)) ⟨⟩ (qV a)) ⟨⟩ (val σ y)) ⟨⟩ (val σ x):=by
 simp only [bZ,dQ,aQ]
 refine cZ fun v=>cZ fun w=>?_
 have no:V k none ↔ False:=jC
 have nb:∀ {g:ByteArray → Prop},V g none ↔ False:=jC
 have nn:∀ {x:Option ByteArray},V (fun _:ByteArray=>False) x ↔ False:=by intro x;cases x <;> simp [V]
 cases v with
 | agg l=>simp only [qV,no,nb]
 | one p =>
  cases p with
  | f a =>
   cases a with
   | str s =>
    cases w with
    | agg l=>simp only [qV,no,nb,bC]
    | one p =>
     cases p with
     | f b =>
      cases b with
      | str t=>simp only [qV,bC,bM,one]
      | _=>simp only [qV,no,nb,bC]
     | _=>simp only [qV,no,nb,bC]
   | _=>simp only [qV,no,nb]
  | _=>simp only [qV,no,nb]
@[go_sem ↓] theorem aiO : W k u (bZ Γ q σ d (.no x)) ↔ W (fun v=>W (fun b=>k (.c (.one (.f (.bool (!b)))),σ)) ⟨⟩ (bool? v)) ⟨⟩ (val σ x):=by
 simp only [bZ,dQ,aQ,one,bC]
@[go_sem ↓] theorem aiP {kk:IntKind}:W k u (bZ Γ q σ d (.ci kk x)) ↔ W (fun v=>W (fun a=>k (.c (.one (.f (.int kk (kk.wrap a.2)))),σ)) ⟨⟩ (int? v)) ⟨⟩ (val σ x):=by
 simp only [bZ,dQ,aQ,one,bC]
@[go_sem ↓] theorem ahc : W k u (bZ Γ q σ d (.nA x)) ↔ W (fun v=>W (fun s=>k (.c (.one (.f (.str s))),σ)) ⟨⟩ (qV v)) ⟨⟩ (val σ x):=by
 simp only [bZ,dQ,aQ]
 refine cZ fun v=>?_
 cases v with
 | agg l=>exact bX
 | one p=>cases p with
  | f a=>cases a <;> first | exact bX | exact lT aje
  | _=>exact bX
@[go_sem ↓] theorem ac6 {sh:KS}:W k u (bZ Γ q σ d (.pK sh)) ↔ W (fun s=>k (.c (.one (.mp (dA d))),s)) ⟨⟩ (new σ (dA d) (.map sh [])):=by
 simp only [bZ,gP,dQ,bU]
@[go_sem ↓] theorem aiQ : W k u (bZ Γ q σ d (.mn x y)) ↔ W (fun a=>W (fun b=>W (fun a=>W (fun b=>a.1 = b.1 ∧ k (.c (.one (.f (.int a.1 (if b.2 < a.2 then b.2 else a.2)))),σ)) ⟨⟩ (int? b)) ⟨⟩ (int? a)) ⟨⟩ (val σ y)) ⟨⟩ (val σ x):=by
 simp only [bZ,dQ,aQ,bM,one,bC]
@[go_sem ↓] theorem aiR : W k u (bZ Γ q σ d (.mx x y)) ↔ W (fun a=>W (fun b=>W (fun a=>W (fun b=>a.1 = b.1 ∧ k (.c (.one (.f (.int a.1 (if a.2 < b.2 then b.2 else a.2)))),σ)) ⟨⟩ (int? b)) ⟨⟩ (int? a)) ⟨⟩ (val σ y)) ⟨⟩ (val σ x):=by
 simp only [bZ,dQ,aQ,bM,one,bC]
@[go_sem ↓] theorem ahd {o:BinOp}:W k u (bZ Γ q σ d (.bit o x y)) ↔ W (fun a=>W (fun b=>W (fun a=>W (fun b=>a.1 = b.1 ∧ k (.c (.one (.f (.int a.1 (Go.bits o a.1 a.2 b.2)))),σ)) ⟨⟩ (int? b)) ⟨⟩ (int? a)) ⟨⟩ (val σ y)) ⟨⟩ (val σ x):=by
 simp only [bZ,dQ,aQ,bM,one,bC]
@[go_sem ↓] theorem ahe {l:Bool}:W k u (bZ Γ q σ d (.Vd l x y)) ↔ W (fun a=>W (fun b=>W (fun a=>W (fun b=>0 ≤ b.2 ∧ k (.c (.one (.f (.int a.1 (if l then a.1.wrap (a.2 * 2 ^ (min b.2.toNat a.1.bits)) else a.2.fdiv (2 ^ (min b.2.toNat a.1.bits)))))),σ)) ⟨⟩ (int? b)) ⟨⟩ (int? a)) ⟨⟩ (val σ y)) ⟨⟩ (val σ x):=by
 simp only [bZ,dQ,aQ,bM,one,bC]
@[go_sem ↓] theorem afl {lo hi:Option dM}:W k u (bZ Γ q σ d (.JO x lo hi)) ↔ W (fun v=>W (fun s=>W (fun p=>k (.c (.one (.f (.str (s.extract p.1 p.2)))),σ)) ⟨⟩ (rng s.size σ lo hi)) ⟨⟩ (qV v)) ⟨⟩ (val σ x):=by
 simp only [bZ,dQ,aQ]
 refine cZ fun v=>?_
 cases v with
 | agg l=>exact bX
 | one p=>cases p with
  | f a =>
   cases a with
   | str s=>simp only [qV,bC,aQ,one]
   | _=>exact bX
  | _=>exact bX
section
variable {k : Nat × Nat → Prop} {u:Tok k} {len:Nat} {lo hi:Option dM}
@[go_sem ↓] theorem ahf : W k u (rng len σ lo hi) ↔ W (fun h=>W (fun l=>k (l,h)) ⟨⟩ (bnd σ h lo 0)) ⟨⟩ (bnd σ len hi len):=by
 simp only [rng,dQ,aQ,bU]
end
section
variable {k : Nat → Prop} {u:Tok k} {len dd:Nat}
@[go_sem ↓] theorem Wj : W k u (bnd σ len none dd) ↔ k dd:=gQ
@[go_sem ↓] theorem Wm : W k u (bnd σ len (some x) dd) ↔ W (fun v=>W (fun p=>(0 ≤ p.2 ∧ p.2 ≤ (len:Int)) ∧ k p.2.toNat) ⟨⟩ (int? v)) ⟨⟩ (val σ x):=by
 simp only [bnd,dQ,aQ,bM,bC]
end
def EF (q:Bool) (σ:St) (sz:Nat) (lo hi:Option dM):CV → Option (PV × St)
 | .one (.f (.sl rows))=>if rows.all (fun r=>r.length == sz) = false then none else (rng rows.length σ lo hi).bind fun p=>one (.sl ((rows.drop p.1).take (p.2 - p.1))) σ
 | .one .bY=>(rng 0 σ lo hi).bind fun p=>one (.sl []) σ
 | .one (.own key _)=>(iM σ key).bind fun o=>if o.1 ≠ sz then none else (rng o.2.length σ lo hi).bind fun p=>if q then none else (zI σ key).bind fun s=>one (.sl ((o.2.drop p.1).take (p.2 - p.1))) s
 | _=>none
@[go_sem ↓] theorem ahg {sz:Nat} {lo hi:Option dM}:W k u (bZ Γ q σ d (.cut sz x lo hi)) ↔ W (fun v=>W k ⟨⟩ (EF q σ sz lo hi v)) ⟨⟩ (val σ x):=by
 simp only [bZ,dQ,aQ]
 refine cZ fun v=>?_
 cases v with
 | agg l=>exact aje
 | one p=>cases p with
  | f a=>cases a <;> exact aje
  | own key n=>simp only [EF,iM];cases get σ.ob key with | none=>exact aje | some o=>cases o <;> exact aje
  | _=>exact aje
@[go_sem ↓] theorem aat {sz:Nat} {lo hi:Option dM} {rows:List (List FV)}:W k u (EF q σ sz lo hi (.one (.f (.sl rows)))) ↔ rows.all (fun r=>r.length == sz) = true ∧ W (fun p=>k (.c (.one (.f (.sl ((rows.drop p.1).take (p.2 - p.1))))),σ)) ⟨⟩ (rng rows.length σ lo hi):=by
 simp only [EF,dQ,aQ,dw,one,bC,Bool.not_eq_false]
@[go_sem ↓] theorem aau {sz:Nat} {lo hi:Option dM}:W k u (EF q σ sz lo hi (.one .bY)) ↔ W (fun p=>k (.c (.one (.f (.sl []))),σ)) ⟨⟩ (rng 0 σ lo hi):=by
 simp only [EF,dQ,aQ,one,bC]
@[go_sem ↓] theorem aav {sz key n:Nat} {lo hi:Option dM}:W k u (EF q σ sz lo hi (.one (.own key n))) ↔ W (fun o=>o.1 = sz ∧ W (fun p=>q = false ∧ W (fun s=>k (.c (.one (.f (.sl ((o.2.drop p.1).take (p.2 - p.1))))),s)) ⟨⟩ (zI σ key)) ⟨⟩ (rng o.2.length σ lo hi)) ⟨⟩ (iM σ key):=by
 simp only [EF,dQ,aQ,dw,one,bC,ne_eq,ajQ,aj5]
@[go_sem ↓] theorem ahh {off n:Nat} {agg:Bool}:W k u (bZ Γ q σ d (.Yd off n agg x)) ↔ W (fun v=>W (fun l=>W (fun l=>W (fun z=>k (.c z,σ)) ⟨⟩ (mk agg l)) ⟨⟩ (seg n off l)) ⟨⟩ (MU v)) ⟨⟩ (val σ x):=by
 simp only [bZ,dQ,aQ]
 refine cZ fun v=>?_
 cases v with
 | agg l=>simp only [MU,bC,aQ,bU]
 | one p=>exact bX
def Wn (σ:St) (sz:Nat) (i:Int):CV → Option PL
 | .one (.f (.sl rows))=>rows[i.toNat]?.bind fun r=>if r.length = sz then some (.fp r) else none
 | .one (.own key n)=>(iM σ key).bind fun o=>if o.1 = sz ∧ i < n ∧ n = o.2.length then some (.rp key sz i.toNat 0) else none
 | _=>none
@[go_sem ↓] theorem aiS {sz:Nat}:W k u (bZ Γ q σ d (.ia sz x y)) ↔ W (fun v=>W (fun j=>W (fun p=>0 ≤ p.2 ∧ W (fun l=>k (.c (.one l),σ)) ⟨⟩ (Wn σ sz p.2 v)) ⟨⟩ (int? j)) ⟨⟩ (val σ y)) ⟨⟩ (val σ x):=by
 simp only [bZ,dQ,aQ,bM]
 refine cZ fun v=>cZ fun j=>cZ fun p=>akp aje ?_
 cases v with
 | agg l=>exact bX
 | one a =>
  cases a with
  | f a =>
   cases a with
   | sl rows=>simp only [Wn,aQ,bM,bC]
   | _=>exact bX
  | own key n =>
   simp only [Wn,iM]
   cases get σ.ob key with
   | none=>exact bX
   | some o =>
    cases o with
    | row sz' rows=>simp only [MW,Option.bind_some,bM,bC]
    | _=>exact bX
  | _=>exact bX
section
variable {k : PL → Prop} {u:Tok k} {sz:Nat} {i:Int}
@[go_sem ↓] theorem ac7 {rows:List (List FV)}:W k u (Wn σ sz i (.one (.f (.sl rows)))) ↔ W (fun r=>r.length = sz ∧ k (.fp r)) ⟨⟩ (rows[i.toNat]?):=by
 simp only [Wn,dQ,aQ,bM,bC]
@[go_sem ↓] theorem ac8 {key n:Nat}:W k u (Wn σ sz i (.one (.own key n))) ↔ W (fun o=>(o.1 = sz ∧ i < n ∧ n = o.2.length) ∧ k (.rp key sz i.toNat 0)) ⟨⟩ (iM σ key):=by
 simp only [Wn,dQ,aQ,bM,bC]
end
@[go_sem ↓] theorem ahi {sz len:Nat} {agg:Bool}:W k u (bZ Γ q σ d (.idx sz len agg x y)) ↔ W (fun v=>W (fun j=>W (fun p=>(0 ≤ p.2 ∧ p.2 < (len:Int)) ∧ W (fun l=>W (fun l=>W (fun z=>k (.c z,σ)) ⟨⟩ (mk agg l)) ⟨⟩ (seg sz (p.2.toNat * sz) l)) ⟨⟩ (MU v)) ⟨⟩ (int? j)) ⟨⟩ (val σ y)) ⟨⟩ (val σ x):=by
 simp only [bZ,dQ,aQ,bM]
 refine cZ fun v=>cZ fun j=>cZ fun p=>akp aje ?_
 cases v with
 | agg l=>simp only [MU,bC,aQ,bU]
 | one p=>exact bX
@[go_sem ↓] theorem ahj : W k u (bZ Γ q σ d (.chr x y)) ↔ W (fun v=>W (fun j=>W (fun p=>W (fun s=>0 ≤ p.2 ∧ W (fun b=>k (.c (.one (.f (.int .u8 b.toNat))),σ)) ⟨⟩ (s.data[p.2.toNat]?)) ⟨⟩ (qV v)) ⟨⟩ (int? j)) ⟨⟩ (val σ y)) ⟨⟩ (val σ x):=by
 simp only [bZ,dQ,aQ]
 refine cZ fun v=>cZ fun j=>cZ fun p=>?_
 cases v with
 | agg l=>exact bX
 | one p=>cases p with
  | f a =>
   cases a with
   | str s=>simp only [qV,bC,bM,aQ,one]
   | _=>exact bX
  | _=>exact bX
@[go_sem ↓] theorem ahk {i:Nat}:W k u (bZ Γ q σ d (.ext x i)) ↔ W (fun v=>W (fun l=>W (fun w=>k (.c w,σ)) ⟨⟩ (l[i]?)) ⟨⟩ (VW v)) ⟨⟩ (sM σ x):=by
 simp only [bZ,dQ]
 cases sM σ x with
 | none=>exact bX
 | some v =>
  rw [bC]
  cases v with
  | c y=>exact bX
  | uM l=>simp only [VW,bC,bU]
@[go_sem ↓] theorem afm : W k u (bZ Γ q σ d (.xw x)) ↔ W (fun v=>W (fun s=>k (.c (.one (.f (.int .i64 s.size))),σ)) ⟨⟩ (qV v)) ⟨⟩ (val σ x):=by
 simp only [bZ,dQ,aQ]
 refine cZ fun v=>?_
 cases v with
 | agg l=>exact bX
 | one p=>cases p with
  | f a=>cases a <;> first | exact bX | exact lT aje
  | _=>exact bX
def QA (σ:St):CV → Option Nat
 | .one .fA=>some 0
 | .one (.mp key)=>(oN σ key).map fun o=>o.2.length
 | _=>none
@[go_sem] theorem aaw : QA σ (.one .fA) = some 0:=rfl
@[go_sem] theorem ac9 {key:Nat}:QA σ (.one (.mp key)) = (oN σ key).map fun o=>o.2.length:=rfl
def QB : CV → Option Nat
 | .one (.f (.sl rows))=>some rows.length
 | .one .bY=>some 0
 | .one (.own _ n)=>some n
 | _=>none
@[go_sem] theorem afn {rows:List (List FV)}:QB (.one (.f (.sl rows))) = some rows.length:=rfl
@[go_sem] theorem afo : QB (.one .bY) = some 0:=rfl
@[go_sem] theorem afp {k n:Nat}:QB (.one (.own k n)) = some n:=rfl
@[go_sem ↓] theorem afq : W k u (bZ Γ q σ d (.iB x)) ↔ W (fun v=>W (fun n:Nat=>k (.c (.one (.f (.int .i64 (n:Int)))),σ)) ⟨⟩ (QB v)) ⟨⟩ (val σ x):=by
 simp only [bZ,dQ,aQ]
 refine cZ fun v=>?_
 cases v with
 | agg l=>exact bX
 | one p=>cases p with
  | f a=>cases a <;> first | exact bX | exact lT aje
  | _=>first | exact bX | exact lT aje
@[go_sem ↓] theorem afr {neg:Bool}:W k u (bZ Γ q σ d (.zL neg x)) ↔ W (fun v=>W (fun b=>k (.c (.one (.f (.bool (if neg then !b else b)))),σ)) ⟨⟩ (VX v)) ⟨⟩ (val σ x):=by
 simp only [bZ,dQ,aQ]
 refine cZ fun v=>?_
 cases v with
 | agg l=>exact bX
 | one p=>cases p with
  | f a =>
   cases a with
   | sl rows=>cases rows <;> first | exact bX | (cases neg <;> exact lT aje)
   | _=>exact bX
  | bY=>cases neg <;> exact lT aje
  | _=>exact bX
end
end
section
open Go
section
variable {Γ : Env} {F d:Nat} {q:Bool} {σ:St} {k:PV × St → Prop} {u:Tok k} {x y z:dM}
def MX (σ:St) (sh:KS):CV → Option (Option (Nat × List (KV × FC)))
 | .one .fA=>some none
 | .one (.mp key)=>(oN σ key).bind fun o=>if o.1 = sh then some (some (key,o.2)) else none
 | _=>none
@[go_sem] theorem aax {sh:KS}:MX σ sh (.one .fA) = some none:=rfl
section
variable {k : Option (Nat × List (KV × FC)) → Prop} {u:Tok k}
@[go_sem ↓] theorem afs {sh:KS} {key:Nat}:W k u (MX σ sh (.one (.mp key))) ↔ W (fun o=>o.1 = sh ∧ k (some (key,o.2))) ⟨⟩ (oN σ key):=by
 simp only [MX,dQ,aQ,bM,bC]
end
def sP (m:Option (Nat × List (KV × FC))) (a:KV):Option FC:=m.bind fun m=>sH m.2 a
def cnt (m:Option (Nat × List (KV × FC))):Nat:=match m with
 | none=>0
 | some m=>m.2.length
@[go_sem] theorem aay {a:KV}:sP none a = none:=rfl
@[go_sem] theorem aaz {key:Nat} {l:List (KV × FC)} {a:KV}:sP (some (key,l)) a = sH l a:=rfl
@[go_sem] theorem aaA : cnt none = 0:=rfl
@[go_sem] theorem aaB {key:Nat} {l:List (KV × FC)}:cnt (some (key,l)) = l.length:=rfl
def lkv (z:FC) (ok:Bool) (r:Option FC):PV:=if ok then .uM [xC (r.getD z),.one (.f (.bool r.isSome))] else .c (xC (r.getD z))
@[go_sem] theorem aft {z:FC} {r:Option FC}:lkv z true r = .uM [xC (r.getD z),.one (.f (.bool r.isSome))]:=rfl
@[go_sem] theorem afu {z:FC} {r:Option FC}:lkv z false r = .c (xC (r.getD z)):=rfl
@[go_sem] theorem aaC {x:FV}:xC (.one x) = .one (.f x):=rfl
@[go_sem] theorem aaD {xs:List FV}:xC (.agg xs) = .agg (xs.map .f):=rfl
@[go_sem ↓] theorem afv {sh:KS} {z:FC} {ok:Bool}:W k u (bZ Γ q σ d (.look sh z ok x y)) ↔ W (fun v=>W (fun w=>W (fun a=>a.ks = sh ∧ W (fun m=>k (lkv z ok (sP m a),σ)) ⟨⟩ (MX σ sh v)) ⟨⟩ (keyOf w)) ⟨⟩ (val σ y)) ⟨⟩ (val σ x):=by
 simp only [bZ,dQ,aQ,dw,bU,ne_eq,ajQ]
 refine cZ fun v=>cZ fun w=>cZ fun a=>akp aje ?_
 cases v with
 | agg l=>exact bX
 | one p =>
  cases p with
  | fA=>exact lT aje
  | mp key =>
   simp only [MX,oN]
   cases get σ.ob key with
   | none=>exact bX
   | some o =>
    cases o with
    | map sh' ents =>
     simp only [om,Option.bind_some]
     by_cases hs:sh' = sh
     ·rw [ai8 hs,ai8 hs];exact lT (by cases ok <;> exact aje)
     ·rw [ai9 hs,ai9 hs];exact bX
    | _=>exact bX
  | _=>exact bX
@[go_sem ↓] theorem afw : W k u (bZ Γ q σ d (.JQ x)) ↔ W (fun v=>W (fun n:Nat=>k (.c (.one (.f (.int .i64 (n:Int)))),σ)) ⟨⟩ (QA σ v)) ⟨⟩ (val σ x):=by
 simp only [bZ,dQ,aQ]
 refine cZ fun v=>?_
 cases v with
 | agg l=>exact bX
 | one p =>
  cases p with
  | fA=>exact lT aje
  | mp key =>
   simp only [QA,oN]
   cases get σ.ob key with
   | none=>exact bX
   | some o=>cases o <;> first | exact bX | exact lT aje
  | _=>exact bX
def upv (σ:St) (sh:KS) (a:KV) (p:FC × St):CV → Option St
 | .one (.mp key)=>(oN p.2 key).bind fun o=>if o.1 = sh then some (jA p.2 key (.map sh (xB o.2 a p.1))) else none
 | _=>none
@[go_sem ↓] theorem afx {sh:KS}:W k u (bZ Γ q σ d (.xu sh x y z)) ↔ W (fun v=>W (fun w=>W (fun a=>a.ks = sh ∧ W (fun w=>(q && (cells w).any gD) = false ∧ W (fun p=>W (fun s=>k (.c (.one .und),s)) ⟨⟩ (upv σ sh a p v)) ⟨⟩ (Yg σ w)) ⟨⟩ (val σ z)) ⟨⟩ (keyOf w)) ⟨⟩ (val σ y)) ⟨⟩ (val σ x):=by
 simp only [bZ,dQ,aQ,dw,ne_eq,ajQ,aj5]
 refine cZ fun v=>cZ fun w=>cZ fun a=>akp aje (cZ fun w=>akp aje (cZ fun p=>?_))
 cases v with
 | agg l=>exact bX
 | one b =>
  cases b with
  | mp key =>
   simp only [upv,oN]
   cases get p.2.ob key with
   | none=>exact bX
   | some o =>
    cases o with
    | map sh' ents =>
     simp only [om,Option.bind_some]
     split
     ·exact lT aje
     ·exact bX
    | _=>exact bX
  | _=>exact bX
section
variable {k : St → Prop} {u:Tok k} {sh:KS} {a:KV} {key:Nat}
@[go_sem ↓] theorem ahl {p:FC × St}:W k u (upv σ sh a p (.one (.mp key))) ↔ W (fun o=>o.1 = sh ∧ k (jA p.2 key (.map sh (xB o.2 a p.1)))) ⟨⟩ (oN p.2 key):=by
 simp only [upv,dQ,aQ,bM,bC]
end
def dlv (σ:St) (sh:KS) (a:KV):CV → Option St
 | .one .fA=>some σ
 | .one (.mp key)=>(oN σ key).bind fun o=>if o.1 = sh then some (jA σ key (.map sh (BP o.2 a))) else none
 | _=>none
@[go_sem] theorem ada {sh:KS} {a:KV}:dlv σ sh a (.one .fA) = some σ:=rfl
section
variable {k : St → Prop} {u:Tok k} {sh:KS} {a:KV} {key:Nat}
@[go_sem ↓] theorem ahm : W k u (dlv σ sh a (.one (.mp key))) ↔ W (fun o=>o.1 = sh ∧ k (jA σ key (.map sh (BP o.2 a)))) ⟨⟩ (oN σ key):=by
 simp only [dlv,dQ,aQ,bM,bC]
end
@[go_sem ↓] theorem ahn {sh:KS}:W k u (bZ Γ q σ d (.del sh x y)) ↔ W (fun v=>W (fun w=>W (fun a=>a.ks = sh ∧ W (fun s=>k (.uM [],s)) ⟨⟩ (dlv σ sh a v)) ⟨⟩ (keyOf w)) ⟨⟩ (val σ y)) ⟨⟩ (val σ x):=by
 simp only [bZ,dQ,aQ,dw,ne_eq,ajQ]
 refine cZ fun v=>cZ fun w=>cZ fun a=>akp aje ?_
 cases v with
 | agg l=>exact bX
 | one b =>
  cases b with
  | fA=>exact lT aje
  | mp key =>
   simp only [dlv,oN]
   cases get σ.ob key with
   | none=>exact bX
   | some o =>
    cases o with
    | map sh' ents =>
     simp only [om,Option.bind_some]
     split
     ·exact lT aje
     ·exact bX
    | _=>exact bX
  | _=>exact bX
def YA (σ:St):CV → Option (List (List FV))
 | .one .bY=>some []
 | .one (.f (.sl rows))=>some rows
 | .one (.own key _)=>(iM σ key).map (·.2)
 | _=>none
@[go_sem] theorem aho : YA σ (.one .bY) = some []:=rfl
@[go_sem] theorem ahp {rows:List (List FV)}:YA σ (.one (.f (.sl rows))) = some rows:=rfl
@[go_sem] theorem ahq {key n:Nat}:YA σ (.one (.own key n)) = (iM σ key).map (·.2):=rfl
def YB (q:Bool) (σ:St) (d sz bytes:Nat) (w:CV) (EG:List (List FV)):CV → Option (PV × St)
 | .one .bY=>if q = false ∧ EG.length * bytes ≤ 140737488355328 ∧ EG.all (fun r=>r.length == sz) then (new σ (dA d) (.row sz EG)).map fun s=>(.c (.one (.own (dA d) EG.length)),s) else none
 | .one (.own key n)=>(iM σ key).bind fun o=>if q = false ∧ (o.2.length + EG.length) * bytes ≤ 140737488355328 ∧ o.1 = sz ∧ n = o.2.length ∧ vM key w = false ∧ key % 2 = 0 ∧ EG.all (fun r=>r.length == sz) then
   some (.c (.one (.own key (o.2.length + EG.length))),jA (sub σ key .any) key (.row sz (o.2 ++ EG))) else none
 | _=>none
@[go_sem ↓] theorem ahr {e:TypeId} {sz bytes:Nat}:W k u (bZ Γ q σ d (.app e sz bytes x y)) ↔ W (fun v=>W (fun w=>W (fun l=>W k ⟨⟩ (YB q σ d sz bytes w l v)) ⟨⟩ (YA σ w)) ⟨⟩ (val σ y)) ⟨⟩ (val σ x):=by
 simp only [bZ,dQ,aQ]
 refine cZ fun v=>cZ fun w=>?_
 have e:qx σ w = YA σ w:=by
  cases w with
  | agg l=>rfl
  | one p=>cases p with
   | f a=>cases a <;> rfl
   | own key n=>simp only [qx,YA,iM];cases get σ.ob key with | none=>rfl | some o=>cases o <;> rfl
   | _=>rfl
 rw [e]
 refine cZ fun l=>?_
 cases v with
 | agg l=>exact bX
 | one p =>
  cases p with
  | bY=>exact aje
  | own key n =>
   simp only [YB,iM]
   cases get σ.ob key with
   | none=>exact bX
   | some o=>cases o <;> exact aje
  | _=>exact bX
@[go_sem ↓] theorem adb {sz bytes:Nat} {w:CV} {l:List (List FV)}:W k u (YB q σ d sz bytes w l (.one .bY)) ↔ (q = false ∧ l.length * bytes ≤ 140737488355328 ∧ l.all (fun r=>r.length == sz) = true) ∧ W (fun s=>k (.c (.one (.own (dA d) l.length)),s)) ⟨⟩ (new σ (dA d) (.row sz l)):=by
 simp only [YB,dQ,bM,bU]
@[go_sem ↓] theorem ade {sz bytes key n:Nat} {w:CV} {l:List (List FV)}:W k u (YB q σ d sz bytes w l (.one (.own key n))) ↔ W (fun o=>(q = false ∧ (o.2.length + l.length) * bytes ≤ 140737488355328 ∧ o.1 = sz ∧ n = o.2.length ∧ vM key w = false ∧ key % 2 = 0 ∧ l.all (fun r=>r.length == sz) = true) ∧ k (.c (.one (.own key (o.2.length + l.length))),jA (sub σ key .any) key (.row sz (o.2 ++ l)))) ⟨⟩ (iM σ key):=by
 simp only [YB,dQ,aQ,bM,bC]
def cov (σ:St) (sz:Nat) (i:Int):CV → Option (PV × St)
 | .one (.own key n)=>(iM σ key).bind fun o=>if o.1 = sz ∧ key % 2 = 0 ∧ 0 ≤ i ∧ i ≤ o.2.length then some (.c (.one (.own key i.toNat)),jA (sub σ key .any) key (.row sz (o.2.take i.toNat))) else none
 | _=>none
@[go_sem ↓] theorem afy {sz:Nat}:W k u (bZ Γ q σ d (.DZ sz x y)) ↔ q = false ∧ W (fun v=>W (fun j=>W (fun p=>W k ⟨⟩ (cov σ sz p.2 v)) ⟨⟩ (int? j)) ⟨⟩ (val σ y)) ⟨⟩ (val σ x):=by
 simp only [bZ,dQ,aQ,dw,aj5]
 refine akp aje (cZ fun v=>cZ fun j=>cZ fun p=>?_)
 cases v with
 | agg l=>exact bX
 | one b =>
  cases b with
  | own key n =>
   simp only [cov,iM]
   cases get σ.ob key with
   | none=>exact bX
   | some o=>cases o <;> exact aje
  | _=>exact bX
@[go_sem ↓] theorem ahs {sz key n:Nat} {i:Int}:W k u (cov σ sz i (.one (.own key n))) ↔ W (fun o=>(o.1 = sz ∧ key % 2 = 0 ∧ 0 ≤ i ∧ i ≤ (o.2.length:Int)) ∧ k (.c (.one (.own key i.toNat)),jA (sub σ key .any) key (.row sz (o.2.take i.toNat)))) ⟨⟩ (iM σ key):=by
 simp only [cov,dQ,aQ,bM,bC]
def cvv (σ:St) (sz:Nat) (i:Int):CV → Option PL
 | .one (.own key n)=>(iM σ key).bind fun o=>if o.1 = sz ∧ 0 ≤ i ∧ i ≤ o.2.length then some (.vw key sz o.2.length i.toNat) else none
 | _=>none
@[go_sem ↓] theorem afz {sz:Nat}:W k u (bZ Γ q σ d (.cutV sz x y)) ↔ W (fun v=>W (fun j=>W (fun p=>W (fun l=>k (.c (.one l),σ)) ⟨⟩ (cvv σ sz p.2 v)) ⟨⟩ (int? j)) ⟨⟩ (val σ y)) ⟨⟩ (val σ x):=by
 simp only [bZ,dQ,aQ]
 refine cZ fun v=>cZ fun j=>cZ fun p=>?_
 cases v with
 | agg l=>exact bX
 | one b =>
  cases b with
  | own key n =>
   simp only [cvv,iM]
   cases get σ.ob key with
   | none=>exact bX
   | some o =>
    cases o with
    | row sz' rows=>simp only [MW,Option.bind_some,bM,bC]
    | _=>exact bX
  | _=>exact bX
section
variable {k : PL → Prop} {u:Tok k}
@[go_sem ↓] theorem aht {sz key n:Nat} {i:Int}:W k u (cvv σ sz i (.one (.own key n))) ↔ W (fun o=>(o.1 = sz ∧ 0 ≤ i ∧ i ≤ (o.2.length:Int)) ∧ k (.vw key sz o.2.length i.toNat)) ⟨⟩ (iM σ key):=by
 simp only [cvv,dQ,aQ,bM,bC]
end
def vw? : CV → Option (Nat × Nat × Nat × Nat)
 | .one (.vw key z n lo)=>some (key,z,n,lo)
 | _=>none
@[go_sem] theorem afA {a b c e:Nat}:vw? (.one (.vw a b c e)) = some (a,b,c,e):=rfl
@[go_sem ↓] theorem ahu {sz:Nat} {zs:List FV}:W k u (bZ Γ q σ d (.TB sz zs x)) ↔ W (fun v=>W (fun p=>W (fun o=>(o.1 = sz ∧ p.2.1 = sz ∧ zs.length = sz ∧ p.2.2.1 = o.2.length ∧ p.2.2.2 ≤ p.2.2.1) ∧ k (.uM [],jA σ p.1 (.row sz (o.2.take p.2.2.2 ++ List.replicate (p.2.2.1 - p.2.2.2) zs)))) ⟨⟩ (iM σ p.1)) ⟨⟩ (vw? v)) ⟨⟩ (val σ x):=by
 simp only [bZ,dQ,aQ]
 refine cZ fun v=>?_
 cases v with
 | agg l=>exact bX
 | one b =>
  cases b with
  | vw key z n lo =>
   simp only [vw?,bC,iM]
   cases get σ.ob key with
   | none=>exact bX
   | some o =>
    cases o with
    | row sz' rows=>simp only [MW,bM,bC]
    | _=>exact bX
  | _=>exact bX
def TQ (σ:St):CV → Option (List (List FV))
 | .one (.f (.sl rows))=>some rows
 | .one .bY=>some []
 | .one (.own key _)=>(iM σ key).bind fun o=>if o.1 = 1 then some o.2 else none
 | _=>none
@[go_sem] theorem ahv {rows:List (List FV)}:TQ σ (.one (.f (.sl rows))) = some rows:=rfl
@[go_sem] theorem ahw : TQ σ (.one .bY) = some []:=rfl
@[go_sem] theorem TR : bytesOf [] = some ⟨#[]⟩:=rfl
@[go_sem] theorem QC {n:Int} {l:List (List FV)}:bytesOf ([.int .u8 n] :: l) = (bytesOf l).map fun s=>⟨#[UInt8.ofNat n.toNat] ++ s.data⟩:=rfl
section
variable {k : List (List FV) → Prop} {u:Tok k}
@[go_sem ↓] theorem ahx {key n:Nat}:W k u (TQ σ (.one (.own key n))) ↔ W (fun o=>o.1 = 1 ∧ k o.2) ⟨⟩ (iM σ key):=by
 simp only [TQ,dQ,aQ,bM,bC]
end
@[go_sem ↓] theorem ahy : W k u (bZ Γ q σ d (.Ye x)) ↔ W (fun v=>W (fun l=>W (fun s=>k (.c (.one (.f (.str s))),σ)) ⟨⟩ (bytesOf l)) ⟨⟩ (TQ σ v)) ⟨⟩ (val σ x):=by
 simp only [bZ,dQ,aQ]
 refine cZ fun v=>?_
 cases v with
 | agg l=>exact bX
 | one b =>
  cases b with
  | f a =>
   cases a with
   | sl rows=>simp only [TQ,aQ,bC,one]
   | _=>exact bX
  | bY=>simp only [TQ,bC,bytesOf,one]
  | own key n =>
   simp only [TQ,iM]
   cases get σ.ob key with
   | none=>exact bX
   | some o =>
    cases o with
    | row sz' rows=>simp only [MW,Option.bind_some,bM,aQ,bC,one]
    | _=>exact bX
  | _=>exact bX
@[go_sem ↓] theorem ahz {f:FuncId} {xs:List dM}:W k u (bZ Γ q σ d (.PX f xs)) ↔ W (fun l=>W (fun p=>k (.c (.one (.fn f p.1)),p.2)) ⟨⟩ (lZ q σ l)) ⟨⟩ (jw σ xs):=by
 simp only [bZ,dQ,aQ,bU]
@[go_sem ↓] theorem afB {f:FuncId} {xs:List dM}:W k u (bZ Γ q σ d (.zK f xs)) ↔ W (fun l=>W (fun dS=>W (fun r=>W (fun p=>W (fun s=>k (.c (.one (.own (dA d) p.2.length)),s)) ⟨⟩ (new σ (dA d) (.row p.1 p.2))) ⟨⟩ (Vg r.1)) ⟨⟩ (Γ f dS)) ⟨⟩ (LA l)) ⟨⟩ (jw σ xs):=by
 simp only [bZ,sK,dQ,aQ,bU]
attribute [go_sem] avT P6 avC LA
@[go_sem] theorem aaE {sz:Nat} {rows:List (List FV)}:Vg [.one (.own sz rows)] = some (sz,rows):=rfl
@[go_sem ↓] theorem adf {gv:Bool} {f:FuncId} {xs:List dM}:W k u (bZ Γ q σ d (.call gv f xs)) ↔ W (fun l=>W k ⟨⟩ (kU Γ gv q σ d f l)) ⟨⟩ (jw σ xs):=by
 simp only [bZ,dQ,aQ]
def fn? : CV → Option (FuncId × List (List FV))
 | .one (.fn f caps)=>some (f,caps)
 | _=>none
@[go_sem] theorem afC {f:FuncId} {caps:List (List FV)}:fn? (.one (.fn f caps)) = some (f,caps):=rfl
@[go_sem ↓] theorem ahA {xs:List dM}:W k u (bZ Γ q σ d (.dyn x xs)) ↔ W (fun v=>W (fun p=>W (fun l=>W k ⟨⟩ (kU Γ false q σ d p.1 (l ++ p.2.map fun c=>.one (.fp c)))) ⟨⟩ (jw σ xs)) ⟨⟩ (fn? v)) ⟨⟩ (val σ x):=by
 simp only [bZ,dQ,aQ]
 refine cZ fun v=>?_
 cases v with
 | agg l=>exact bX
 | one b =>
  cases b with
  | fn f caps=>simp only [fn?,bC,aQ]
  | _=>exact bX
def GH (gv:Bool) (args:List CV) (p:List AV × St) (r:List AV × List AV):Option St:=if (!gv && ((r.1.any wH || !p.1.all fJ) && args.any (fun x=>(cells x).any gD))) = true then sJ p.2 args else some p.2
def GI (d:Nat) (σ:St) (args:List CV) (p:List AV × St) (r:List AV × List AV) (s:St):Option St:=if p.1.all fJ = true then some s else zN σ (args.flatMap cells) (dA d + 10000) s args r.2
@[go_sem ↓] theorem aaF {gv:Bool} {f:FuncId} {args:List CV}:W k u (kU Γ gv q σ d f args) ↔ W (fun p=>W (fun r0=>W (fun r=>((q && !(p.1.all fJ && r.1.all fJ)) = false ∧ (q && ((r.1.any wH || !p.1.all fJ) && args.any (fun x=>(cells x).any gD))) = false) ∧
  W (fun s=>W (fun s=>W (fun v=>k (JW v.1,v.2)) ⟨⟩ (xG (dA d) 0 [] s r.1)) ⟨⟩ (GI d σ args p r s)) ⟨⟩ (GH gv args p r)) ⟨⟩ (some (Vf q r0))) ⟨⟩ (Γ f p.1)) ⟨⟩ (sI gv σ args):=by
 simp only [kU,dQ,aQ,dw,bU,bC,GH,GI,aj5,and_assoc]
@[go_sem] theorem afD {r:List AV × List AV}:Vf false r = r:=rfl
@[go_sem] theorem adg {r:List AV × List AV}:Vf true r = (r.1.map P5,r.2):=rfl
@[go_sem] theorem adh {sz:Nat} {rows:List (List FV)}:P5 (.one (.own sz rows)) = .one (.f (.sl rows)):=rfl
@[go_sem] theorem ahB {x:FV}:P5 (.one (.f x)) = .one (.f x):=rfl
@[go_sem] theorem adi {xs:List TV}:P5 (.agg xs) = .agg xs:=rfl
@[go_sem] theorem adj {xs:List CL}:P5 (.one (.ptr xs)) = .one (.ptr xs):=rfl
end
section
variable {Γ : Env} {F:Nat} {k:List AV × List AV → Prop} {u:Tok k} {cf:CF} {dS:List AV}
@[go_sem ↓] theorem ahC : W k u (JX Γ F cf dS) ↔ dS.length = cf.np ∧ W (fun e=>W (fun p=>(∀ id,p.1 ≠ .ext id) ∧ W (fun b=>W (fun l=>W (fun r=>k (r.1,b.1)) ⟨⟩ (mI cf.ro b.2 l)) ⟨⟩ (slots b.2 cf.res)) ⟨⟩ (j6 p.2 e.1 dS)) ⟨⟩ (ev Γ F cf.body e.2)) ⟨⟩ (enter cf.bo 0 [] ⟨[],[]⟩ dS):=by
 simp only [JX,dQ,dw,aQ,ne_eq,ajQ]
 refine akp aje (cZ fun e=>cZ fun p=>?_)
 obtain ⟨o,s⟩:=p
 cases o with
 | ext id=>simp [jC]
 | _=>simp [aQ,bU]
@[go_sem] theorem adk : (∀ id,Out.jg ≠ .ext id) ↔ True:=by simp
@[go_sem] theorem adl : (∀ id,Out.ret ≠ .ext id) ↔ True:=by simp
@[go_sem] theorem adn {i:Nat}:(∀ id,Out.ext i ≠ .ext id) ↔ False:=by simp
end
end
end Go.Proofs.YtfokaoeinpnagaaGreat.Ev

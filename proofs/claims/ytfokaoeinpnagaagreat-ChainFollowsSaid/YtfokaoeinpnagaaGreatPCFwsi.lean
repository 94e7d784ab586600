/- A part of the proof of ChainFollows: cut, joined and given short names by a program of this session (wip/tools/pack.py); Lean checks it. No condition. -/
import Derived.Test.YtfokaoeinpnagaaGreatPCFwsg
import Derived.Test.YtfokaoeinpnagaaGreatPCFwsh
import Derived.Deep.RegionHeld3
import Derived.WalkSpells
import Derived.Test.YtfokaoeinpnagaaGreatPCFwsd
set_option linter.unusedSectionVars false
set_option linter.unusedSimpArgs false
set_option linter.unusedVariables false
set_option maxHeartbeats 16000000
set_option maxRecDepth 100000
namespace Go.Proofs.YtfokaoeinpnagaaGreat.ZQ
section
open Go.RowKit Go.Proofs.YtfokaoeinpnagaaGreatW.bI Go.Proofs.YtfokaoeinpnagaaGreatW.eF Go.Proofs.YtfokaoeinpnagaaGreatW.fK
attribute [local go_sem] j4 j5 lS lT ji jk j6 kg
def dD.agg (a b c:Int):Value:=.agg #[.int .i64 a,.int .i64 b,.int .i64 c]
def dD.tab : List (Int × Value):=[(1,dD.agg 4 0 0),(28,dD.agg 16 0 0),(2,dD.agg 0 1 0),(5,dD.agg 0 1 0),(12,dD.agg 0 1 0),(6,dD.agg 0 2 20),(15,dD.agg 2 1 0),(33,dD.agg 6 1 0)]
theorem dD.calls (w:World):Calls Tryz.prog 129 #[] w fun e w'=>∃ g,e = .returned (.map (some g)) ∧ Mi.In w.heap.size w w' g dD.tab:=by
 have hmm:=@run_makeMap Tryz.prog
 have hi:=aj.mk (Mi.In.made (w:=w))
 generalize hg:w.heap.size = g at hi
 have hg':=aj.mk hg
 go_enter Tryz.func129,Tryz.ntmps129
 go_wp2_with (first | (refine Mi.G5 207 _ _ _ rfl ?_;refine Mi.ady _ rfl _ _ _ 207 rfl 3 205 Tryz.underlying207 Tryz.underlying3 _ _ rfl (aj.out (by assumption)) _ _ rfl rfl rfl ?_;clear hi;intro w1 hi))
 go_ret
 exact ⟨g,rfl,hi.out⟩
def dw.l0 : Nat → ByteArray → Int → Int → Int → Int → Int → Int → Int → ByteArray → ByteArray → List ByteArray → Option (ByteArray × ByteArray × List ByteArray × Bool)
 | 0,_,_,_,_,_,_,_,_,_,_,_=>none
 | k + 1,x0,x1,x2,x37,x38,Um,Un,KU,KW,Uo,EC=>if x38 < x37 then ((bL.f k x0 x1).bind fun KX=>(if KX.2.2 = 0 then (if KX.2.1 > x2 then (some ((⟨#[]⟩:ByteArray),(⟨#[]⟩:ByteArray),([]:List ByteArray),false)) else (if EC.length < 8796093022208 then (dw.l0 k x0 KX.2.1 x2 x37 (wrap64 (x38 + 1)) Um Un KU KW Uo (EC ++ [KX.1])) else (none))) else (some ((⟨#[]⟩:ByteArray),(⟨#[]⟩:ByteArray),([]:List ByteArray),false)))) else (if 0 ≤ x1 then (if x1 ≤ x2 then (if x2 ≤ (x0.size:Int) then (some (KW,x0.extract (x1:Int).toNat (x2:Int).toNat,EC,(((x0.extract (x1:Int).toNat (x2:Int).toNat).size:Int) == KU))) else (none)) else (none)) else (none))
def dw.f (k:Nat) (a0:ByteArray) (a1:Int) (a2:Int) (fM:Int) (jF:Int) (lq:Int):Option (ByteArray × ByteArray × List ByteArray × Bool):=if (fM ≤ (wrap64 (a2 - a1))) then (if 0 ≤ a1 then (if a1 ≤ (wrap64 (a1 + fM)) then (if (wrap64 (a1 + fM)) ≤ (a0.size:Int) then (dw.l0 k a0 (wrap64 (a1 + fM)) a2 jF 0 fM jF lq (a0.extract (a1:Int).toNat ((wrap64 (a1 + fM)):Int).toNat) (⟨#[]⟩:ByteArray) ([]:List ByteArray)) else (none)) else (none)) else (none)) else (some ((⟨#[]⟩:ByteArray),(⟨#[]⟩:ByteArray),([]:List ByteArray),false))
def dw.T15 : Bool × List (List Nat × List Nat):=(true,[([],[]),([],[]),([1],[1]),([2],[2]),([],[]),([4],[4]),([3,5],[3,5]),([0,0],[0]),([6,7,0,1,2,3,4,5,6,7],[6])])
def dw.B15 : List Nat:=[0,0,2,6,0,16,62,1,255]
theorem dw.adz : oI .any (opsOf Tryz.f130 15) = dw.T15:=by kernel_rfl
theorem dw.Zf : sQ dw.T15.2 dw.B15 = true:=by kernel_rfl
theorem dw.calls (k:Nat) (a0:ByteArray) (a1:Int) (a2:Int) (fM:Int) (jF:Int) (lq:Int) (r1:ByteArray) (r2:ByteArray) (r3:List ByteArray) (r4:Bool) (w:World) (h:dw.f k a0 a1 a2 fM jF lq = some (r1,r2,r3,r4)) :
  Calls Tryz.prog 130 #[.string a0,.int .i64 a1,.int .i64 a2,.agg #[.int .i64 fM,.int .i64 jF,.int .i64 lq]] w fun e w'=>∃ v2_:Value,e = .returned (.tuple #[.agg #[.string r1,.string r2,v2_],.bool r4]) ∧ Kd.R Kd.string 9 w' w.heap.size (fun _=>True) v2_ r3 ∧ Below w.heap.size w w':=by
 have aj9:=Tryz.underlying205
 have adA:=Tryz.underlying191
 have HB:=aj.mk (Below.refl w.heap.size w)
 have H:(if (fM ≤ (wrap64 (a2 - a1))) then (if 0 ≤ a1 then (if a1 ≤ (wrap64 (a1 + fM)) then (if (wrap64 (a1 + fM)) ≤ (a0.size:Int) then (dw.l0 k a0 (wrap64 (a1 + fM)) a2 jF 0 fM jF lq (a0.extract (a1:Int).toNat ((wrap64 (a1 + fM)):Int).toNat) (⟨#[]⟩:ByteArray) ([]:List ByteArray)) else (none)) else (none)) else (none)) else (some ((⟨#[]⟩:ByteArray),(⟨#[]⟩:ByteArray),([]:List ByteArray),false))) = some (r1,r2,r3,r4):=h
 clear h
 by_cases c5:(fM ≤ (wrap64 (a2 - a1)))
 ·rw [alx c5] at H
  have rO:decide (fM ≤ (wrap64 (a2 - a1))) = true:=alz c5
  (try (have xA:decide (fM ≤ ((a2 - a1))) = true:=by have h_:decide (fM ≤ (wrap64 (a2 - a1))) = true:=alz c5;rw [B.iC (by omega) (by omega)] at h_;exact h_))
  clear c5
  by_cases c6:0 ≤ a1
  ·rw [alx c6] at H
   have BJ:=alH c6
   have Qr:decide (0 ≤ a1) = true:=alz c6
   clear c6
   by_cases c7:a1 ≤ (wrap64 (a1 + fM))
   ·rw [alx c7] at H
    have wu:=alH c7
    have ME:decide (a1 ≤ (wrap64 (a1 + fM))) = true:=alz c7
    by_cases c8:(wrap64 (a1 + fM)) ≤ (a0.size:Int)
    ·rw [alx c8] at H
     have uE:=alH c8
     have uF:decide ((wrap64 (a1 + fM)) ≤ (a0.size:Int)) = true:=alz c8
     have H':=aj.mk H
     clear H
     go_enter Tryz.func130,Tryz.ntmps130
     go_wp2_with (first | ((with_reducible refine j3 (N:=7) rfl ?_);refine jh ?hg (N:=7) ?hd (cs:=#[.int .i64 fM,.int .i64 jF,.int .i64 lq]) (t:=205) ?hr ?_;(case hd=>rfl);(case hg=>rfl);(case hr=>first | (go_simp;done) | (go_simp;rfl));intro gP hg w9 kQ hb;have fJ:=aj.mk (bP (by repeat first | exact HB.out | apply ak | apply ah | apply au) hb);have jr:=aj.mk (kQ);have l6:=aj.mk ((by rw [hg];exact (cB (by repeat first | exact HB.out | apply ak | apply ah | apply au)):w.heap.size ≤ gP));have ni:=aj.mk ((by rw [hg];exact (cB (by repeat first | exact HB.out | apply ak | apply ah | apply au)):w.heap.size ≤ gP));clear HB;have HB:=fJ;have d9:=jr;have adB:=l6;have jN:=ni;clear fJ jr l6 ni;clear hb kQ hg) | ((with_reducible refine j3 (N:=8) rfl ?_);refine jh ?hg (N:=8) ?hd (cs:=#[.string (⟨#[]⟩:ByteArray),.string (⟨#[]⟩:ByteArray),.slice none 0 0]) (t:=191) ?hr ?_;(case hd=>rfl);(case hg=>rfl);(case hr=>first | (go_simp;done) | (go_simp;rfl));intro dX hg w10 kQ hb;have fJ:=aj.mk (eO (g:=gP) (o:=.cells #[.int .i64 fM,.int .i64 jF,.int .i64 lq] 205 (0,0)) (by (with_reducible repeat (first | refine aG ?_ _ | refine aK ?_ | refine aA ?_ _));exact d9.out) hb);have jr:=aj.mk (bP (by repeat (first | (with_reducible first | exact HB.out | apply ak | apply ah | apply au | refine aT ?_ jN.out) | exact HB.out)) hb);have l6:=aj.mk (kQ);have ni:=aj.mk ((by rw [hg];exact (cB (by repeat (first | (with_reducible first | exact HB.out | apply ak | apply ah | apply au | refine aT ?_ jN.out) | exact HB.out))):w.heap.size ≤ dX));have qQ:=aj.mk ((by rw [hg];exact (cB (by repeat (first | (with_reducible first | exact HB.out | apply ak | apply ah | apply au | refine aT ?_ jN.out) | exact HB.out))):w.heap.size ≤ dX));have QJ:=aj.mk ((by rw [hg];exact Nat.ne_of_lt (kH (g:=gP) (o:=.cells #[.int .i64 fM,.int .i64 jF,.int .i64 lq] 205 (0,0)) (by (with_reducible repeat (first | refine aG ?_ _ | refine aK ?_ | refine aA ?_ _));exact d9.out)):gP ≠ dX));have QK:=aj.mk ((by rw [hg];exact Nat.ne_of_gt (kH (g:=gP) (o:=.cells #[.int .i64 fM,.int .i64 jF,.int .i64 lq] 205 (0,0)) (by (with_reducible repeat (first | refine aG ?_ _ | refine aK ?_ | refine aA ?_ _));exact d9.out)):dX ≠ gP));clear d9;clear HB;have d9:=fJ;have HB:=jr;have dU:=l6;have adC:=ni;have lY:=qQ;have gH:=QJ;have lF:=QK;clear fJ jr l6 ni qQ QJ QK;clear hb kQ hg) | ((with_reducible refine j3 (N:=10) rfl ?_);refine jh ?hg (N:=10) ?hd (cs:=#[.string (⟨#[]⟩:ByteArray),.string (⟨#[]⟩:ByteArray),.slice none 0 0]) (t:=191) ?hr ?_;(case hd=>rfl);(case hg=>rfl);(case hr=>first | (go_simp;done) | (go_simp;rfl));intro gG hg Zg kQ hb;have fJ:=aj.mk (eO (g:=gP) (o:=.cells #[.int .i64 fM,.int .i64 jF,.int .i64 lq] 205 (0,0)) (by (with_reducible repeat (first | refine aG ?_ _ | refine aK ?_ | refine aA ?_ _));exact d9.out) hb);have jr:=aj.mk (eO (g:=dX) (o:=.cells #[.string (⟨#[]⟩:ByteArray),.string (⟨#[]⟩:ByteArray),.slice none 0 0] 191 (0,0)) (by (with_reducible repeat (first | refine aG ?_ _ | refine aK ?_ | refine aA ?_ _));exact dU.out) hb);have l6:=aj.mk (bP (by repeat (first | (with_reducible first | exact HB.out | apply ak | apply ah | apply au | refine aT ?_ jN.out | refine aT ?_ lY.out) | exact HB.out)) hb);have ni:=aj.mk (kQ);have qQ:=aj.mk ((by rw [hg];exact (cB (by repeat (first | (with_reducible first | exact HB.out | apply ak | apply ah | apply au | refine aT ?_ jN.out | refine aT ?_ lY.out) | exact HB.out))):w.heap.size ≤ gG));have QJ:=aj.mk ((by rw [hg];exact (cB (by repeat (first | (with_reducible first | exact HB.out | apply ak | apply ah | apply au | refine aT ?_ jN.out | refine aT ?_ lY.out) | exact HB.out))):w.heap.size ≤ gG));have QK:=aj.mk ((by rw [hg];exact Nat.ne_of_lt (kH (g:=gP) (o:=.cells #[.int .i64 fM,.int .i64 jF,.int .i64 lq] 205 (0,0)) (by (with_reducible repeat (first | refine aG ?_ _ | refine aK ?_ | refine aA ?_ _));exact d9.out)):gP ≠ gG));have n7_:=aj.mk ((by rw [hg];exact Nat.ne_of_gt (kH (g:=gP) (o:=.cells #[.int .i64 fM,.int .i64 jF,.int .i64 lq] 205 (0,0)) (by (with_reducible repeat (first | refine aG ?_ _ | refine aK ?_ | refine aA ?_ _));exact d9.out)):gG ≠ gP));have n8_:=aj.mk ((by rw [hg];exact Nat.ne_of_lt (kH (g:=dX) (o:=.cells #[.string (⟨#[]⟩:ByteArray),.string (⟨#[]⟩:ByteArray),.slice none 0 0] 191 (0,0)) (by (with_reducible repeat (first | refine aG ?_ _ | refine aK ?_ | refine aA ?_ _));exact dU.out)):dX ≠ gG));have n9_:=aj.mk ((by rw [hg];exact Nat.ne_of_gt (kH (g:=dX) (o:=.cells #[.string (⟨#[]⟩:ByteArray),.string (⟨#[]⟩:ByteArray),.slice none 0 0] 191 (0,0)) (by (with_reducible repeat (first | refine aG ?_ _ | refine aK ?_ | refine aA ?_ _));exact dU.out)):gG ≠ dX));clear d9;clear dU;clear HB;have d9:=fJ;have dU:=jr;have HB:=l6;have eZ:=ni;have adD:=qQ;have pX:=QJ;have lG:=QK;have pY:=n7_;have iO:=n8_;have fZ:=n9_;clear fJ jr l6 ni qQ QJ QK n7_ n8_ n9_;clear hb kQ hg;have akb:=gH.out;have akc:=lF.out;have akd:=lG.out;have ake:=pY.out;have Uq:Zg.cell? ⟨gP,0,none⟩ = some (.int .i64 fM):=(aX d9.out 0).trans rfl;have Ur:Zg.cell? ⟨gP,1,none⟩ = some (.int .i64 jF):=(aX d9.out 1).trans rfl;have Us:Zg.cell? ⟨gP,2,none⟩ = some (.int .i64 lq):=(aX d9.out 2).trans rfl;have Ut:=aJ d9.out 0;have Uu:=aJ d9.out 1;have Uv:=aJ d9.out 2;have akf:=fZ.out;have akg:=iO.out;have Uw:Zg.cell? ⟨gG,0,none⟩ = some (.string (⟨#[]⟩:ByteArray)):=(aX eZ.out 0).trans rfl;have Ux:Zg.cell? ⟨gG,1,none⟩ = some (.string (⟨#[]⟩:ByteArray)):=(aX eZ.out 1).trans rfl;have Uy:Zg.cell? ⟨gG,2,none⟩ = some (.slice none 0 0):=(aX eZ.out 2).trans rfl;have Uz:=aJ eZ.out 0;have UA:=aJ eZ.out 1;have UC:=aJ eZ.out 2))
     go_loopg [1,38] k (fun kq v1 v38 w'=>∃ (eU:Int) (wB:Int) (iF:ByteArray) (gI:ByteArray) (iV:List ByteArray) (jG:Value),v1 = .int .i64 eU ∧ v38 = .int .i64 wB ∧ aj (dw.l0 kq a0 eU a2 jF wB fM jF lq (a0.extract (a1:Int).toNat ((wrap64 (a1 + fM)):Int).toNat) (⟨#[]⟩:ByteArray) iV = some (r1,r2,r3,r4)) ∧ aj (kq ≤ k) ∧ aj (Kd.R Kd.string 9 w' w.heap.size (fun _=>True) jG iV) ∧ aj (w'.heap[gP]? = some (.cells #[.int .i64 fM,.int .i64 jF,.int .i64 lq] 205 (0,0))) ∧ aj (w'.heap[dX]? = some (.cells #[.string iF,.string gI,(.slice none 0 0)] 191 (0,0))) ∧ aj (w'.heap[gG]? = some (.cells #[.string (a0.extract (a1:Int).toNat ((wrap64 (a1 + fM)):Int).toNat),.string (⟨#[]⟩:ByteArray),jG] 191 (0,0))) ∧ aj (Below w.heap.size w w'))
     case atStart=>exact ⟨(wrap64 (a1 + fM)),(0),((⟨#[]⟩:ByteArray)),((⟨#[]⟩:ByteArray)),(([]:List ByteArray)),(.slice none 0 0),(by first | rfl | (simp;done) | (simp [*];done) | (simp [B.aY];done) | (simp [B.aZ];done)),(by first | rfl | (simp;done) | (simp [*];done) | (simp [B.aY];done) | (simp [B.aZ];done)),H',⟨alC _⟩,⟨by first | exact Kd.kF _ _ _ _ _ | exact Kd.mM _ _ _ _ _ | exact Kd.mO _ _ _ _ _ | exact Kd.mJ _ _ _ _ _ | exact Kd.mK _ _ _ _ _⟩,⟨by (with_reducible repeat (first | refine aG ?_ _ | refine aK ?_ | refine aA ?_ _));refine qy ?_ lG.out _;(with_reducible repeat (first | refine aG ?_ _ | refine aK ?_ | refine aA ?_ _));exact d9.out⟩,⟨by (with_reducible repeat (first | refine aG ?_ _ | refine aK ?_ | refine aA ?_ _));refine qy ?_ iO.out _;(with_reducible repeat (first | refine aG ?_ _ | refine aK ?_ | refine aA ?_ _));exact dU.out⟩,⟨by (with_reducible repeat (first | refine aG ?_ _ | refine aK ?_ | refine aA ?_ _));refine cO (cs:=#[.string (⟨#[]⟩:ByteArray),.string (⟨#[]⟩:ByteArray),.slice none 0 0]) ?_ 0 _ rfl;(with_reducible repeat (first | refine aG ?_ _ | refine aK ?_ | refine aA ?_ _));exact eZ.out⟩,⟨by repeat (first | (with_reducible first | exact HB.out | apply ak | apply ah | apply au | refine aT ?_ jN.out | refine aT ?_ lY.out | refine aT ?_ pX.out) | exact HB.out)⟩⟩
     case round =>
      clear H'
      try clear c1
      try clear p2
      try clear c5
      try clear rO
      try clear xA
      try clear c6
      try clear BJ
      try clear Qr
      try clear p6
      try clear c7
      try clear wu
      try clear ME
      try clear c8
      try clear uE
      try clear uF
      try clear c12
      try clear c13
      try clear c15
      try clear Uq
      try clear Ur
      try clear Us
      try clear Uw
      try clear Ux
      try clear Uy
      try clear Ut
      try clear Uu
      try clear Uv
      try clear Uz
      try clear UA
      try clear UC
      obtain ⟨eU,wB,iF,gI,iV,jG,rfl,rfl,HA,vV,eP,d9,dU,eZ,HB⟩:=hrel
      cases gk with
      | zero=>exact absurd HA.out (by simp [dw.l0])
      | succ k1 =>
       have H:=HA.out
       clear HA
       simp only [dw.l0] at H
       by_cases c17:wB < jF
       ·rw [alx c17] at H
        have WI:decide (wB < jF) = true:=alz c17
        clear c17
        replace H:=zbm H
        obtain ⟨⟨Jq,BL,t127⟩,QF,H⟩:=H
        replace H:(if t127 = 0 then (if BL > a2 then (some ((⟨#[]⟩:ByteArray),(⟨#[]⟩:ByteArray),([]:List ByteArray),false)) else (if iV.length < 8796093022208 then (dw.l0 k1 a0 BL a2 jF (wrap64 (wB + 1)) fM jF lq (a0.extract (a1:Int).toNat ((wrap64 (a1 + fM)):Int).toNat) (⟨#[]⟩:ByteArray) (iV ++ [Jq])) else (none))) else (some ((⟨#[]⟩:ByteArray),(⟨#[]⟩:ByteArray),([]:List ByteArray),false))) = some (r1,r2,r3,r4):=H
        have Zd:=aj.mk QF
        clear QF
        by_cases c19:t127 = 0
        ·rw [alx c19] at H
         have adE:(t127 == 0) = true:=alW.mpr c19
         have adF:(t127 != 0) = false:=ami.mpr c19
         clear c19
         by_cases c20:BL > a2
         ·rw [alx c20] at H
          have QG:decide (a2 < BL) = true:=alz c20
          clear c20
          simp only [alI,alK] at H
          obtain ⟨rfl,rfl,rfl,rfl⟩:=H
          go_wp2_with (first | ((with_reducible refine aQ (f:=146) rfl ?_);refine bW (some 43) rfl rfl Tryz.func146 (by kernel_rfl) rfl #[.string a0,.int .i64 eU] rfl (by (try simp only [alJ,alD,alE]) <;> rfl) ?_;(with_reducible refine (bL.calls k1 a0 eU Jq BL t127 _ Zd.out).mono ?_);rintro e w21 ⟨rfl,hb⟩;refine ⟨_,rfl,?_⟩;have fJ:=aj.mk (Kd.kU (by (with_reducible repeat (first | apply Kd.fH | apply Kd.gB | apply Kd.gL));exact eP.out) hb);have jr:=aj.mk (eO (g:=gP) (o:=.cells #[.int .i64 fM,.int .i64 jF,.int .i64 lq] 205 (0,0)) (by (with_reducible repeat (first | refine aG ?_ _ | refine aK ?_ | refine aA ?_ _));exact d9.out) hb);have l6:=aj.mk (eO (g:=dX) (o:=.cells #[.string iF,.string gI,.slice none 0 0] 191 (0,0)) (by (with_reducible repeat (first | refine aG ?_ _ | refine aK ?_ | refine aA ?_ _));exact dU.out) hb);have ni:=aj.mk (eO (g:=gG) (o:=.cells #[.string (a0.extract (a1:Int).toNat ((wrap64 (a1 + fM)):Int).toNat),.string (⟨#[]⟩:ByteArray),jG] 191 (0,0)) (by (with_reducible repeat (first | refine aG ?_ _ | refine aK ?_ | refine aA ?_ _));exact eZ.out) hb);have qQ:=aj.mk (bP (by repeat (first | (with_reducible first | exact HB.out | apply ak | apply ah | apply au | refine aT ?_ jN.out | refine aT ?_ lY.out | refine aT ?_ pX.out) | exact HB.out)) hb);clear eP;clear d9;clear dU;clear eZ;clear HB;have eP:=fJ;have d9:=jr;have dU:=l6;have eZ:=ni;have HB:=qQ;clear fJ jr l6 ni qQ;(try clear hb);(try clear hb2);(try clear hk);(try clear hi);have akh:=lF.out;have aki:=gH.out;have akj:=iO.out;have akk:=fZ.out;have afv:w21.cell? ⟨dX,0,none⟩ = some (.string iF):=(aX dU.out 0).trans rfl;have afw:w21.cell? ⟨dX,1,none⟩ = some (.string gI):=(aX dU.out 1).trans rfl;have afx:w21.cell? ⟨dX,2,none⟩ = some (.slice none 0 0):=(aX dU.out 2).trans rfl;have afy:=aJ dU.out 0;have afz:=aJ dU.out 1;have afA:=aJ dU.out 2))
          refine bodyPost_ret (lg rfl _ _ dX 191 #[.string (⟨#[]⟩:ByteArray),.string (⟨#[]⟩:ByteArray),.slice none 0 0] (0,0) _ rfl (by (with_reducible repeat (first | refine aG ?_ _ | refine aK ?_ | refine aA ?_ _));refine cO (cs:=#[.string (⟨#[]⟩:ByteArray),.string (⟨#[]⟩:ByteArray),.slice none 0 0]) ?_ 2 _ rfl;(with_reducible repeat (first | refine aG ?_ _ | refine aK ?_ | refine aA ?_ _));refine cO (cs:=#[.string (⟨#[]⟩:ByteArray),.string gI,.slice none 0 0]) ?_ 1 _ rfl;(with_reducible repeat (first | refine aG ?_ _ | refine aK ?_ | refine aA ?_ _));refine cO (cs:=#[.string iF,.string gI,.slice none 0 0]) ?_ 0 _ rfl;(with_reducible repeat (first | refine aG ?_ _ | refine aK ?_ | refine aA ?_ _));exact dU.out) Tryz.underlying191 rfl (by kernel_rfl)) rfl ?_
          exact ⟨_,by first | rfl | (simp [aM,aN] <;> rfl) | (simp [*,aM,aN] <;> rfl),by first | exact Kd.kF _ _ _ _ _ | exact Kd.mM _ _ _ _ _ | exact Kd.mO _ _ _ _ _ | exact Kd.mJ _ _ _ _ _ | exact Kd.mK _ _ _ _ _,by repeat (first | (with_reducible first | exact HB.out | apply ak | apply ah | apply au | refine aT ?_ jN.out | refine aT ?_ lY.out | refine aT ?_ pX.out) | exact HB.out)⟩
         ·rw [aly c20] at H
          have QG:decide (a2 < BL) = false:=alB c20
          clear c20
          by_cases c25:iV.length < 8796093022208
          ·rw [alx c25] at H
           have adG:=aj.mk c25
           clear c25
           obtain ⟨UD,hy128⟩:∃ y_:List ByteArray,y_ = (iV ++ [Jq]):=⟨_,rfl⟩
           replace H:(dw.l0 k1 a0 BL a2 jF (wrap64 (wB + 1)) fM jF lq (a0.extract (a1:Int).toNat ((wrap64 (a1 + fM)):Int).toNat) (⟨#[]⟩:ByteArray) UD) = some (r1,r2,r3,r4):=by first | (rw [hy128];with_reducible exact H) | (have Jj:=(Option.bind_some _ _).symm.trans H;rw [hy128];with_reducible exact Jj) | (have Jj:=(Option.bind_some _ _).symm.trans H;with_reducible exact Jj) | with_reducible exact H | (rw [hy128];exact H) | exact H
           have adH:=aj.mk hy128
           clear hy128
           have H':=aj.mk H
           clear H
           go_wp2_with (first | ((with_reducible refine aQ (f:=146) rfl ?_);refine bW (some 43) rfl rfl Tryz.func146 (by kernel_rfl) rfl #[.string a0,.int .i64 eU] rfl (by (try simp only [alJ,alD,alE]) <;> rfl) ?_;(with_reducible refine (bL.calls k1 a0 eU Jq BL t127 _ Zd.out).mono ?_);rintro e w26 ⟨rfl,hb⟩;refine ⟨_,rfl,?_⟩;have fJ:=aj.mk (Kd.kU (by (with_reducible repeat (first | apply Kd.fH | apply Kd.gB | apply Kd.gL));exact eP.out) hb);have jr:=aj.mk (eO (g:=gP) (o:=.cells #[.int .i64 fM,.int .i64 jF,.int .i64 lq] 205 (0,0)) (by (with_reducible repeat (first | refine aG ?_ _ | refine aK ?_ | refine aA ?_ _));exact d9.out) hb);have l6:=aj.mk (eO (g:=dX) (o:=.cells #[.string iF,.string gI,.slice none 0 0] 191 (0,0)) (by (with_reducible repeat (first | refine aG ?_ _ | refine aK ?_ | refine aA ?_ _));exact dU.out) hb);have ni:=aj.mk (eO (g:=gG) (o:=.cells #[.string (a0.extract (a1:Int).toNat ((wrap64 (a1 + fM)):Int).toNat),.string (⟨#[]⟩:ByteArray),jG] 191 (0,0)) (by (with_reducible repeat (first | refine aG ?_ _ | refine aK ?_ | refine aA ?_ _));exact eZ.out) hb);have qQ:=aj.mk (bP (by repeat (first | (with_reducible first | exact HB.out | apply ak | apply ah | apply au | refine aT ?_ jN.out | refine aT ?_ lY.out | refine aT ?_ pX.out) | exact HB.out)) hb);clear eP;clear d9;clear dU;clear eZ;clear HB;have eP:=fJ;have d9:=jr;have dU:=l6;have eZ:=ni;have HB:=qQ;clear fJ jr l6 ni qQ;(try clear hb);(try clear hb2);(try clear hk);(try clear hi);have akl:=pY.out;have akm:=lG.out;have akn:=fZ.out;have ako:=iO.out;have afB:w26.cell? ⟨gG,0,none⟩ = some (.string (a0.extract (a1:Int).toNat ((wrap64 (a1 + fM)):Int).toNat)):=(aX eZ.out 0).trans rfl;have afC:w26.cell? ⟨gG,1,none⟩ = some (.string (⟨#[]⟩:ByteArray)):=(aX eZ.out 1).trans rfl;have afD:w26.cell? ⟨gG,2,none⟩ = some (jG):=(aX eZ.out 2).trans rfl;have afE:=aJ eZ.out 0;have afF:=aJ eZ.out 1;have afG:=aJ eZ.out 2) | ((with_reducible refine qA (b:=.append) (xs:=#[.tmp 56,.tmp 58]) rfl ?_);at_builtin;refine Kd.Ad Kd.string (w0:=w) w.heap.size rfl (.tmp 56) (.tmp 58) 40 9 (.string ⟨#[]⟩) 16 rfl Tryz.underlying40 KJ rfl (by decide) (by omega) jG iV Jq [.string Jq] (fun _=>True) (fun _=>False) rfl rfl ?aP (fun _ hk=>hk.elim) ?aF ?aO ?aB ?aS ?aL ?_;(case aP=>exact rfl);(case aB=>exact (by repeat (first | (with_reducible first | exact HB.out | apply ak | apply ah | apply au | refine aT ?_ jN.out | refine aT ?_ lY.out | refine aT ?_ pX.out) | exact HB.out)));(case aF=>exact (fun _ _=>trivial));(case aO=>exact (by (with_reducible repeat (first | apply Kd.fH | apply Kd.gB | apply Kd.gL));exact eP.out));(case aS=>exact (cB (by repeat (first | (with_reducible first | exact HB.out | apply ak | apply ah | apply au | refine aT ?_ jN.out | refine aT ?_ lY.out | refine aT ?_ pX.out) | exact HB.out))));(case aL=>have:=adG.out;omega);intro ali w30 ho hb hg hat;rw [← adH.out] at ho;have fJ:=aj.mk (sH (g:=gP) (o:=.cells #[.int .i64 fM,.int .i64 jF,.int .i64 lq] 205 (0,0)) (by (with_reducible repeat (first | refine aG ?_ _ | refine aK ?_ | refine aA ?_ _));exact d9.out) hg (Kd.Ua eP.out d9.out (by decide)));have jr:=aj.mk (sH (g:=dX) (o:=.cells #[.string iF,.string gI,.slice none 0 0] 191 (0,0)) (by (with_reducible repeat (first | refine aG ?_ _ | refine aK ?_ | refine aA ?_ _));exact dU.out) hg (Kd.Ua eP.out dU.out (by decide)));have l6:=aj.mk (sH (g:=gG) (o:=.cells #[.string (a0.extract (a1:Int).toNat ((wrap64 (a1 + fM)):Int).toNat),.string (⟨#[]⟩:ByteArray),jG] 191 (0,0)) (by (with_reducible repeat (first | refine aG ?_ _ | refine aK ?_ | refine aA ?_ _));exact eZ.out) hg (Kd.Ua eP.out eZ.out (by decide)));have ni:=aj.mk (hb);have qQ:=aj.mk (ho);clear d9;clear dU;clear eZ;clear HB;clear eP;have d9:=fJ;have dU:=jr;have eZ:=l6;have HB:=ni;have WJ:=qQ;clear fJ jr l6 ni qQ;clear ho hb hg hat;obtain ⟨adI,adJ,aiN⟩:=Kd.vP WJ.out;subst aiN;have UE:w30.cell? ⟨gG,0,none⟩ = some (.string (a0.extract (a1:Int).toNat ((wrap64 (a1 + fM)):Int).toNat)):=(aX eZ.out 0).trans rfl;have UF:w30.cell? ⟨gG,1,none⟩ = some (.string (⟨#[]⟩:ByteArray)):=(aX eZ.out 1).trans rfl;have UG:w30.cell? ⟨gG,2,none⟩ = some (jG):=(aX eZ.out 2).trans rfl;have UH:=aJ eZ.out 0;have UJ:=aJ eZ.out 1;have UK:=aJ eZ.out 2))
           go_roundg k1
           case measure=>have:=vV.out;omega
           case rel=>exact ⟨(BL),(wrap64 (wB + 1)),(iF),(gI),(UD),(.slice adI UD.length adJ),(by first | rfl | (simp;done) | (simp [*];done) | (simp [B.aY];done) | (simp [B.aZ];done)),(by first | rfl | (simp;done) | (simp [*];done) | (simp [B.aY];done) | (simp [B.aZ];done)),H',⟨by have:=vV.out;omega⟩,⟨by (with_reducible repeat (first | apply Kd.fH | apply Kd.gB | apply Kd.gL));exact Kd.qz (Kd.qI (p:=⟨gG,2,none⟩) (Kd.sJ WJ.out eZ.out (by decide)) (fun _ hk=>hk.2) (.slice adI UD.length adJ)) (fun _ hk=>trivial)⟩,⟨by (with_reducible repeat (first | refine aG ?_ _ | refine aK ?_ | refine aA ?_ _));refine qy ?_ lG.out _;(with_reducible repeat (first | refine aG ?_ _ | refine aK ?_ | refine aA ?_ _));exact d9.out⟩,⟨by (with_reducible repeat (first | refine aG ?_ _ | refine aK ?_ | refine aA ?_ _));refine qy ?_ iO.out _;(with_reducible repeat (first | refine aG ?_ _ | refine aK ?_ | refine aA ?_ _));exact dU.out⟩,⟨by (with_reducible repeat (first | refine aG ?_ _ | refine aK ?_ | refine aA ?_ _));refine cO (cs:=#[.string (a0.extract (a1:Int).toNat ((wrap64 (a1 + fM)):Int).toNat),.string (⟨#[]⟩:ByteArray),jG]) ?_ 2 _ rfl;(with_reducible repeat (first | refine aG ?_ _ | refine aK ?_ | refine aA ?_ _));exact eZ.out⟩,⟨by repeat (first | (with_reducible first | exact HB.out | apply ak | apply ah | apply au | refine aT ?_ jN.out | refine aT ?_ lY.out | refine aT ?_ pX.out) | exact HB.out)⟩⟩
          ·rw [aly c25] at H
           exact absurd H (by simp)
        ·rw [aly c19] at H
         have adE:(t127 == 0) = false:=amd.mpr c19
         have adF:(t127 != 0) = true:=amf.mpr c19
         simp only [alI,alK] at H
         obtain ⟨rfl,rfl,rfl,rfl⟩:=H
         go_wp2_with (first | ((with_reducible refine aQ (f:=146) rfl ?_);refine bW (some 43) rfl rfl Tryz.func146 (by kernel_rfl) rfl #[.string a0,.int .i64 eU] rfl (by (try simp only [alJ,alD,alE]) <;> rfl) ?_;(with_reducible refine (bL.calls k1 a0 eU Jq BL t127 _ Zd.out).mono ?_);rintro e w33 ⟨rfl,hb⟩;refine ⟨_,rfl,?_⟩;have fJ:=aj.mk (Kd.kU (by (with_reducible repeat (first | apply Kd.fH | apply Kd.gB | apply Kd.gL));exact eP.out) hb);have jr:=aj.mk (eO (g:=gP) (o:=.cells #[.int .i64 fM,.int .i64 jF,.int .i64 lq] 205 (0,0)) (by (with_reducible repeat (first | refine aG ?_ _ | refine aK ?_ | refine aA ?_ _));exact d9.out) hb);have l6:=aj.mk (eO (g:=dX) (o:=.cells #[.string iF,.string gI,.slice none 0 0] 191 (0,0)) (by (with_reducible repeat (first | refine aG ?_ _ | refine aK ?_ | refine aA ?_ _));exact dU.out) hb);have ni:=aj.mk (eO (g:=gG) (o:=.cells #[.string (a0.extract (a1:Int).toNat ((wrap64 (a1 + fM)):Int).toNat),.string (⟨#[]⟩:ByteArray),jG] 191 (0,0)) (by (with_reducible repeat (first | refine aG ?_ _ | refine aK ?_ | refine aA ?_ _));exact eZ.out) hb);have qQ:=aj.mk (bP (by repeat (first | (with_reducible first | exact HB.out | apply ak | apply ah | apply au | refine aT ?_ jN.out | refine aT ?_ lY.out | refine aT ?_ pX.out) | exact HB.out)) hb);clear eP;clear d9;clear dU;clear eZ;clear HB;have eP:=fJ;have d9:=jr;have dU:=l6;have eZ:=ni;have HB:=qQ;clear fJ jr l6 ni qQ;(try clear hb);(try clear hb2);(try clear hk);(try clear hi);have akp:=lF.out;have akq:=gH.out;have akr:=iO.out;have aks:=fZ.out;have afH:w33.cell? ⟨dX,0,none⟩ = some (.string iF):=(aX dU.out 0).trans rfl;have afI:w33.cell? ⟨dX,1,none⟩ = some (.string gI):=(aX dU.out 1).trans rfl;have afJ:w33.cell? ⟨dX,2,none⟩ = some (.slice none 0 0):=(aX dU.out 2).trans rfl;have afK:=aJ dU.out 0;have afL:=aJ dU.out 1;have afM:=aJ dU.out 2))
         refine bodyPost_ret (lg rfl _ _ dX 191 #[.string (⟨#[]⟩:ByteArray),.string (⟨#[]⟩:ByteArray),.slice none 0 0] (0,0) _ rfl (by (with_reducible repeat (first | refine aG ?_ _ | refine aK ?_ | refine aA ?_ _));refine cO (cs:=#[.string (⟨#[]⟩:ByteArray),.string (⟨#[]⟩:ByteArray),.slice none 0 0]) ?_ 2 _ rfl;(with_reducible repeat (first | refine aG ?_ _ | refine aK ?_ | refine aA ?_ _));refine cO (cs:=#[.string (⟨#[]⟩:ByteArray),.string gI,.slice none 0 0]) ?_ 1 _ rfl;(with_reducible repeat (first | refine aG ?_ _ | refine aK ?_ | refine aA ?_ _));refine cO (cs:=#[.string iF,.string gI,.slice none 0 0]) ?_ 0 _ rfl;(with_reducible repeat (first | refine aG ?_ _ | refine aK ?_ | refine aA ?_ _));exact dU.out) Tryz.underlying191 rfl (by kernel_rfl)) rfl ?_
         exact ⟨_,by first | rfl | (simp [aM,aN] <;> rfl) | (simp [*,aM,aN] <;> rfl),by first | exact Kd.kF _ _ _ _ _ | exact Kd.mM _ _ _ _ _ | exact Kd.mO _ _ _ _ _ | exact Kd.mJ _ _ _ _ _ | exact Kd.mK _ _ _ _ _,by repeat (first | (with_reducible first | exact HB.out | apply ak | apply ah | apply au | refine aT ?_ jN.out | refine aT ?_ lY.out | refine aT ?_ pX.out) | exact HB.out)⟩
       ·rw [aly c17] at H
        have WI:decide (wB < jF) = false:=alB c17
        clear c17
        by_cases c37:0 ≤ eU
        ·rw [alx c37] at H
         have akt:=alH c37
         have aku:decide (0 ≤ eU) = true:=alz c37
         clear c37
         by_cases FT:eU ≤ a2
         ·rw [alx FT] at H
          have WK:=alH FT
          have akv:decide (eU ≤ a2) = true:=alz FT
          clear FT
          by_cases Rm:a2 ≤ (a0.size:Int)
          ·rw [alx Rm] at H
           have akw:=alH Rm
           have akx:decide (a2 ≤ (a0.size:Int)) = true:=alz Rm
           clear Rm
           simp only [alI,alK] at H
           obtain ⟨rfl,rfl,rfl,rfl⟩:=H
           have aky:=pY.out
           have akz:=lG.out
           have akA:=fZ.out
           have akB:=iO.out
           have UL:wr.cell? ⟨gG,0,none⟩ = some (.string (a0.extract (a1:Int).toNat ((wrap64 (a1 + fM)):Int).toNat)):=(aX eZ.out 0).trans rfl
           have UM:wr.cell? ⟨gG,1,none⟩ = some (.string (⟨#[]⟩:ByteArray)):=(aX eZ.out 1).trans rfl
           have UN:wr.cell? ⟨gG,2,none⟩ = some (jG):=(aX eZ.out 2).trans rfl
           have UO:=aJ eZ.out 0
           have UQ:=aJ eZ.out 1
           have UR:=aJ eZ.out 2
           try go_wp2
           have fJ:aj (Kd.R Kd.string 9 (wr.setCell ⟨gG,1,none⟩ (.string (a0.extract (eU:Int).toNat (a2:Int).toNat))) w.heap.size (fun _=>True) jG iV):=⟨by (with_reducible repeat (first | apply Kd.fH | apply Kd.gB | apply Kd.gL));exact Kd.qz (Kd.qI (p:=⟨gG,1,none⟩) (Kd.sJ eP.out eZ.out (by decide)) (fun _ hk=>hk.2) (.string (a0.extract (eU:Int).toNat (a2:Int).toNat))) (fun _ hk=>trivial)⟩
           have jr:aj ((wr.setCell ⟨gG,1,none⟩ (.string (a0.extract (eU:Int).toNat (a2:Int).toNat))).heap[gP]? = some (.cells #[.int .i64 fM,.int .i64 jF,.int .i64 lq] 205 (0,0))):=⟨by (with_reducible repeat (first | refine aG ?_ _ | refine aK ?_ | refine aA ?_ _));refine qy ?_ lG.out _;(with_reducible repeat (first | refine aG ?_ _ | refine aK ?_ | refine aA ?_ _));exact d9.out⟩
           have l6:aj ((wr.setCell ⟨gG,1,none⟩ (.string (a0.extract (eU:Int).toNat (a2:Int).toNat))).heap[dX]? = some (.cells #[.string iF,.string gI,.slice none 0 0] 191 (0,0))):=⟨by (with_reducible repeat (first | refine aG ?_ _ | refine aK ?_ | refine aA ?_ _));refine qy ?_ iO.out _;(with_reducible repeat (first | refine aG ?_ _ | refine aK ?_ | refine aA ?_ _));exact dU.out⟩
           have ni:aj ((wr.setCell ⟨gG,1,none⟩ (.string (a0.extract (eU:Int).toNat (a2:Int).toNat))).heap[gG]? = some (.cells #[.string (a0.extract (a1:Int).toNat ((wrap64 (a1 + fM)):Int).toNat),.string (a0.extract (eU:Int).toNat (a2:Int).toNat),jG] 191 (0,0))):=⟨by (with_reducible repeat (first | refine aG ?_ _ | refine aK ?_ | refine aA ?_ _));refine cO (cs:=#[.string (a0.extract (a1:Int).toNat ((wrap64 (a1 + fM)):Int).toNat),.string (⟨#[]⟩:ByteArray),jG]) ?_ 1 _ rfl;(with_reducible repeat (first | refine aG ?_ _ | refine aK ?_ | refine aA ?_ _));exact eZ.out⟩
           have qQ:aj (Below w.heap.size w (wr.setCell ⟨gG,1,none⟩ (.string (a0.extract (eU:Int).toNat (a2:Int).toNat)))):=⟨by repeat (first | (with_reducible first | exact HB.out | apply ak | apply ah | apply au | refine aT ?_ jN.out | refine aT ?_ lY.out | refine aT ?_ pX.out) | exact HB.out)⟩
           (try clear eP)
           (try clear d9)
           (try clear dU)
           (try clear eZ)
           (try clear HB)
           generalize (wr.setCell ⟨gG,1,none⟩ (.string (a0.extract (eU:Int).toNat (a2:Int).toNat))) = w43 at fJ jr l6 ni qQ ⊢
           have eP:=fJ
           have d9:=jr
           have dU:=l6
           have eZ:=ni
           have HB:=qQ
           clear fJ jr l6 ni qQ
           have fJ:=aj.mk (Kd.gL eP.out)
           have jr:=aj.mk (aK d9.out)
           have l6:=aj.mk (aK dU.out)
           have ni:=aj.mk (aK eZ.out)
           have qQ:=aj.mk (au HB.out)
           clear eP
           clear d9
           clear dU
           clear eZ
           clear HB
           have eP:=fJ
           have d9:=jr
           have dU:=l6
           have eZ:=ni
           have HB:=qQ
           clear fJ jr l6 ni qQ
           obtain ⟨Zh,Zi,adK⟩:=Kd.vP eP.out
           (first | subst adK | (injection adK with f1_ f2_ f3_;have f4_:=f1_.symm;have f5_:=f3_.symm;clear f1_ f2_ f3_;subst f4_;subst f5_))
           refine Qf (n:=9) (S:=fun w'=>w'.cell? ⟨gG,0,none⟩ = some (.string (a0.extract (a1:Int).toNat ((wrap64 (a1 + fM)):Int).toNat)) ∧ w'.cell? ⟨gG,1,none⟩ = some (.string (a0.extract (eU:Int).toNat (a2:Int).toNat)) ∧ w'.cell? ⟨gG,2,none⟩ = some (.slice Zh iV.length Zi) ∧ w'.cell? ⟨gP,0,none⟩ = some (.int .i64 fM) ∧ w'.cell? ⟨gP,1,none⟩ = some (.int .i64 jF) ∧ w'.cell? ⟨gP,2,none⟩ = some (.int .i64 lq)) (ds:=[]) #[false,false,false,false,false,false,false,false,false] (by kernel_rfl) rfl rfl ⟨(aX eZ.out 0).trans rfl,(aX eZ.out 1).trans rfl,(aX eZ.out 2).trans rfl,(aX d9.out 0).trans rfl,(aX d9.out 1).trans rfl,(aX d9.out 2).trans rfl⟩ (fun hHeld=>?_);refine CK dw.adz dw.Zf (fun yM HW_=>?_)
           generalize w43.drew = w44 at eP d9 dU eZ HB hHeld ⊢
           refine nA (i:=1) (N:=some 69) (v:=?_) (a':=?_) #[false,true,false,false,false,false,false,false,false] rfl rfl (kI yM.out (by kernel_rfl)) (fun _ _ _ h=>h) (Or.inl ⟨by rfl,?_⟩) ?_ ?_
           rotate_left
           ·intro w'
            go_simp
            with_reducible rfl
           rotate_left
           ·simp only [Act.put,ame,List.set_cons_zero,List.set_cons_succ,iN,iZ]
            rfl
           refine nA (i:=4) (N:=some 72) (v:=?_) (a':=?_) #[false,true,false,false,true,false,false,false,false] rfl rfl (kI yM.out (by kernel_rfl)) (fun _ _ _ h=>h) (Or.inl ⟨by rfl,?_⟩) ?_ ?_
           rotate_left
           ·intro w'
            go_simp
            with_reducible rfl
           rotate_left
           ·simp only [Act.put,ame,List.set_cons_zero,List.set_cons_succ,iN,iZ]
            rfl
           refine Gz (i:=0) (N:=some 68) (v:=?_) (a':=?_) #[true,true,false,false,true,false,false,false,false] rfl rfl (Au yM.out HW_.out (by kernel_rfl)) (fun _ _ _ h=>h) (Or.inl ⟨by rfl,?_⟩) hHeld ?_ ?_
           rotate_left
           ·rintro w' ⟨s0,s1,s2,s3,s4,s5⟩
            go_simp
            with_reducible rfl
           rotate_left
           ·simp only [Act.put,ame,List.set_cons_zero,List.set_cons_succ,iN,iZ]
            rfl
           refine Gz (i:=2) (N:=some 70) (v:=?_) (a':=?_) #[true,true,true,false,true,false,false,false,false] rfl rfl (Au yM.out HW_.out (by kernel_rfl)) (fun _ _ _ h=>h) (Or.inl ⟨by rfl,?_⟩) hHeld ?_ ?_
           rotate_left
           ·rintro w' ⟨s0,s1,s2,s3,s4,s5⟩
            go_simp
            with_reducible rfl
           rotate_left
           ·simp only [Act.put,ame,List.set_cons_zero,List.set_cons_succ,iN,iZ]
            rfl
           refine nA (i:=3) (N:=some 71) (v:=?_) (a':=?_) #[true,true,true,true,true,false,false,false,false] rfl rfl (kI yM.out (by kernel_rfl)) (fun _ _ _ h=>h) (Or.inl ⟨by rfl,?_⟩) ?_ ?_
           rotate_left
           ·intro w'
            go_simp
            with_reducible rfl
           rotate_left
           ·simp only [Act.put,ame,List.set_cons_zero,List.set_cons_succ,iN,iZ]
            rfl
           refine Gz (i:=5) (N:=some 73) (v:=?_) (a':=?_) #[true,true,true,true,true,true,false,false,false] rfl rfl (Au yM.out HW_.out (by kernel_rfl)) (fun _ _ _ h=>h) (Or.inl ⟨by rfl,?_⟩) hHeld ?_ ?_
           rotate_left
           ·rintro w' ⟨s0,s1,s2,s3,s4,s5⟩
            go_simp
            with_reducible rfl
           rotate_left
           ·simp only [Act.put,ame,List.set_cons_zero,List.set_cons_succ,iN,iZ]
            rfl
           refine nA (i:=6) (N:=some 74) (v:=?_) (a':=?_) #[true,true,true,true,true,true,true,false,false] rfl rfl (kI yM.out (by kernel_rfl)) (fun _ _ _ h=>h) (Or.inl ⟨by rfl,?_⟩) ?_ ?_
           rotate_left
           ·intro w'
            go_simp
            with_reducible rfl
           rotate_left
           ·simp only [Act.put,ame,List.set_cons_zero,List.set_cons_succ,iN,iZ]
            rfl
           refine Y2 (i:=7) (N:=none) #[true,true,true,true,true,true,true,true,false] rfl rfl (Ji yM.out (by kernel_rfl)) (by decide) (fun K hK=>?_)
           have alj:w44.cell? ⟨dX,0,none⟩ = some (.string iF):=(aX dU.out 0).trans rfl
           have akC:=aJ dU.out 0
           have afN:=gH.out
           have afO:=fZ.out
           have afP:=lF.out
           have afQ:=iO.out
           have alk:w44.cell? ⟨dX,1,none⟩ = some (.string gI):=(aX dU.out 1).trans rfl
           have akD:=aJ dU.out 1
           have afR:=gH.out
           have afS:=fZ.out
           have afT:=lF.out
           have afU:=iO.out
           have alm:w44.cell? ⟨dX,2,none⟩ = some (.slice none 0 0):=(aX dU.out 2).trans rfl
           have akE:=aJ dU.out 2
           have afV:=gH.out
           have afW:=fZ.out
           have afX:=lF.out
           have afY:=iO.out
           refine acS (w1:=?_) (by rfl) rfl ?_ ?_
           rotate_left
           ·go_simp
            rfl
           refine hK.out _ _ ⟨((cell_far (p:=⟨dX,_,none⟩) fZ.out _).trans (((cell_far (p:=⟨dX,_,none⟩) fZ.out _).trans (((cell_far (p:=⟨dX,_,none⟩) fZ.out _).trans (hHeld.1)))))),((cell_far (p:=⟨dX,_,none⟩) fZ.out _).trans (((cell_far (p:=⟨dX,_,none⟩) fZ.out _).trans (((cell_far (p:=⟨dX,_,none⟩) fZ.out _).trans (hHeld.2.1)))))),((cell_far (p:=⟨dX,_,none⟩) fZ.out _).trans (((cell_far (p:=⟨dX,_,none⟩) fZ.out _).trans (((cell_far (p:=⟨dX,_,none⟩) fZ.out _).trans (hHeld.2.2.1)))))),((cell_far (p:=⟨dX,_,none⟩) gH.out _).trans (((cell_far (p:=⟨dX,_,none⟩) gH.out _).trans (((cell_far (p:=⟨dX,_,none⟩) gH.out _).trans (hHeld.2.2.2.1)))))),((cell_far (p:=⟨dX,_,none⟩) gH.out _).trans (((cell_far (p:=⟨dX,_,none⟩) gH.out _).trans (((cell_far (p:=⟨dX,_,none⟩) gH.out _).trans (hHeld.2.2.2.2.1)))))),((cell_far (p:=⟨dX,_,none⟩) gH.out _).trans (((cell_far (p:=⟨dX,_,none⟩) gH.out _).trans (((cell_far (p:=⟨dX,_,none⟩) gH.out _).trans (hHeld.2.2.2.2.2))))))⟩ (fun hHeld=>?_)
           clear hK K
           refine nA (i:=8) (N:=some 9) (v:=?_) (a':=?_) #[true,true,true,true,true,true,true,true,true] rfl rfl (kI yM.out (by kernel_rfl)) (fun _ _ _ h=>h) (Or.inl ⟨by rfl,?_⟩) ?_ ?_
           rotate_left
           ·intro w'
            go_simp
            with_reducible rfl
           rotate_left
           ·simp only [Act.put,ame,List.set_cons_zero,List.set_cons_succ,iN,iZ]
            rfl
           refine Ww (KH yM.out (by kernel_rfl)) ?_
           try go_wp2
           refine bodyPost_ret (lg rfl _ _ dX 191 #[.string (a0.extract (a1:Int).toNat ((wrap64 (a1 + fM)):Int).toNat),.string (a0.extract (eU:Int).toNat (a2:Int).toNat),.slice Zh iV.length Zi] (0,0) _ rfl (by (with_reducible repeat (first | refine aG ?_ _ | refine aK ?_ | refine aA ?_ _));refine cO (cs:=#[.string (a0.extract (a1:Int).toNat ((wrap64 (a1 + fM)):Int).toNat),.string (a0.extract (eU:Int).toNat (a2:Int).toNat),.slice none 0 0]) ?_ 2 _ rfl;(with_reducible repeat (first | refine aG ?_ _ | refine aK ?_ | refine aA ?_ _));refine cO (cs:=#[.string (a0.extract (a1:Int).toNat ((wrap64 (a1 + fM)):Int).toNat),.string gI,.slice none 0 0]) ?_ 1 _ rfl;(with_reducible repeat (first | refine aG ?_ _ | refine aK ?_ | refine aA ?_ _));refine cO (cs:=#[.string iF,.string gI,.slice none 0 0]) ?_ 0 _ rfl;(with_reducible repeat (first | refine aG ?_ _ | refine aK ?_ | refine aA ?_ _));exact dU.out) Tryz.underlying191 rfl (by kernel_rfl)) rfl ?_
           exact ⟨_,by first | rfl | (simp [aM,aN] <;> rfl) | (simp [*,aM,aN] <;> rfl),by (with_reducible repeat (first | apply Kd.fH | apply Kd.gB | apply Kd.gL));exact Kd.qz (Kd.qI (p:=⟨dX,2,none⟩) (Kd.qI (p:=⟨dX,1,none⟩) (Kd.qI (p:=⟨dX,0,none⟩) (Kd.sJ eP.out dU.out (by decide)) (fun _ hk=>hk.2) (.string (a0.extract (a1:Int).toNat ((wrap64 (a1 + fM)):Int).toNat))) (fun _ hk=>hk.2) (.string (a0.extract (eU:Int).toNat (a2:Int).toNat))) (fun _ hk=>hk.2) (.slice Zh iV.length Zi)) (fun _ hk=>trivial),by repeat (first | (with_reducible first | exact HB.out | apply ak | apply ah | apply au | refine aT ?_ jN.out | refine aT ?_ lY.out | refine aT ?_ pX.out) | exact HB.out)⟩
          ·rw [aly Rm] at H
           exact absurd H (by simp)
         ·rw [aly FT] at H
          exact absurd H (by simp)
        ·rw [aly c37] at H
         exact absurd H (by simp)
    ·rw [aly c8] at H
     exact absurd H (by simp)
   ·rw [aly c7] at H
    exact absurd H (by simp)
  ·rw [aly c6] at H
   exact absurd H (by simp)
 ·rw [aly c5] at H
  have rO:decide (fM ≤ (wrap64 (a2 - a1))) = false:=alB c5
  (try (have xA:decide (fM ≤ ((a2 - a1))) = false:=by have h_:decide (fM ≤ (wrap64 (a2 - a1))) = false:=alB c5;rw [B.iC (by omega) (by omega)] at h_;exact h_))
  clear c5
  simp only [alI,alK] at H
  obtain ⟨rfl,rfl,rfl,rfl⟩:=H
  go_enter Tryz.func130,Tryz.ntmps130
  go_wp2_with (first | ((with_reducible refine j3 (N:=7) rfl ?_);refine jh ?hg (N:=7) ?hd (cs:=#[.int .i64 fM,.int .i64 jF,.int .i64 lq]) (t:=205) ?hr ?_;(case hd=>rfl);(case hg=>rfl);(case hr=>first | (go_simp;done) | (go_simp;rfl));intro gP hg w49 kQ hb;have fJ:=aj.mk (bP (by repeat first | exact HB.out | apply ak | apply ah | apply au) hb);have jr:=aj.mk (kQ);have l6:=aj.mk ((by rw [hg];exact (cB (by repeat first | exact HB.out | apply ak | apply ah | apply au)):w.heap.size ≤ gP));have ni:=aj.mk ((by rw [hg];exact (cB (by repeat first | exact HB.out | apply ak | apply ah | apply au)):w.heap.size ≤ gP));clear HB;have HB:=fJ;have d9:=jr;have adB:=l6;have jN:=ni;clear fJ jr l6 ni;clear hb kQ hg) | ((with_reducible refine j3 (N:=8) rfl ?_);refine jh ?hg (N:=8) ?hd (cs:=#[.string (⟨#[]⟩:ByteArray),.string (⟨#[]⟩:ByteArray),.slice none 0 0]) (t:=191) ?hr ?_;(case hd=>rfl);(case hg=>rfl);(case hr=>first | (go_simp;done) | (go_simp;rfl));intro dX hg w50 kQ hb;have fJ:=aj.mk (eO (g:=gP) (o:=.cells #[.int .i64 fM,.int .i64 jF,.int .i64 lq] 205 (0,0)) (by (with_reducible repeat (first | refine aG ?_ _ | refine aK ?_ | refine aA ?_ _));exact d9.out) hb);have jr:=aj.mk (bP (by repeat (first | (with_reducible first | exact HB.out | apply ak | apply ah | apply au | refine aT ?_ jN.out) | exact HB.out)) hb);have l6:=aj.mk (kQ);have ni:=aj.mk ((by rw [hg];exact (cB (by repeat (first | (with_reducible first | exact HB.out | apply ak | apply ah | apply au | refine aT ?_ jN.out) | exact HB.out))):w.heap.size ≤ dX));have qQ:=aj.mk ((by rw [hg];exact (cB (by repeat (first | (with_reducible first | exact HB.out | apply ak | apply ah | apply au | refine aT ?_ jN.out) | exact HB.out))):w.heap.size ≤ dX));have QJ:=aj.mk ((by rw [hg];exact Nat.ne_of_lt (kH (g:=gP) (o:=.cells #[.int .i64 fM,.int .i64 jF,.int .i64 lq] 205 (0,0)) (by (with_reducible repeat (first | refine aG ?_ _ | refine aK ?_ | refine aA ?_ _));exact d9.out)):gP ≠ dX));have QK:=aj.mk ((by rw [hg];exact Nat.ne_of_gt (kH (g:=gP) (o:=.cells #[.int .i64 fM,.int .i64 jF,.int .i64 lq] 205 (0,0)) (by (with_reducible repeat (first | refine aG ?_ _ | refine aK ?_ | refine aA ?_ _));exact d9.out)):dX ≠ gP));clear d9;clear HB;have d9:=fJ;have HB:=jr;have dU:=l6;have adC:=ni;have lY:=qQ;have gH:=QJ;have lF:=QK;clear fJ jr l6 ni qQ QJ QK;clear hb kQ hg) | ((with_reducible refine j3 (N:=10) rfl ?_);refine jh ?hg (N:=10) ?hd (cs:=#[.string (⟨#[]⟩:ByteArray),.string (⟨#[]⟩:ByteArray),.slice none 0 0]) (t:=191) ?hr ?_;(case hd=>rfl);(case hg=>rfl);(case hr=>first | (go_simp;done) | (go_simp;rfl));intro gG hg w51 kQ hb;have fJ:=aj.mk (eO (g:=gP) (o:=.cells #[.int .i64 fM,.int .i64 jF,.int .i64 lq] 205 (0,0)) (by (with_reducible repeat (first | refine aG ?_ _ | refine aK ?_ | refine aA ?_ _));exact d9.out) hb);have jr:=aj.mk (eO (g:=dX) (o:=.cells #[.string (⟨#[]⟩:ByteArray),.string (⟨#[]⟩:ByteArray),.slice none 0 0] 191 (0,0)) (by (with_reducible repeat (first | refine aG ?_ _ | refine aK ?_ | refine aA ?_ _));exact dU.out) hb);have l6:=aj.mk (bP (by repeat (first | (with_reducible first | exact HB.out | apply ak | apply ah | apply au | refine aT ?_ jN.out | refine aT ?_ lY.out) | exact HB.out)) hb);have ni:=aj.mk (kQ);have qQ:=aj.mk ((by rw [hg];exact (cB (by repeat (first | (with_reducible first | exact HB.out | apply ak | apply ah | apply au | refine aT ?_ jN.out | refine aT ?_ lY.out) | exact HB.out))):w.heap.size ≤ gG));have QJ:=aj.mk ((by rw [hg];exact (cB (by repeat (first | (with_reducible first | exact HB.out | apply ak | apply ah | apply au | refine aT ?_ jN.out | refine aT ?_ lY.out) | exact HB.out))):w.heap.size ≤ gG));have QK:=aj.mk ((by rw [hg];exact Nat.ne_of_lt (kH (g:=gP) (o:=.cells #[.int .i64 fM,.int .i64 jF,.int .i64 lq] 205 (0,0)) (by (with_reducible repeat (first | refine aG ?_ _ | refine aK ?_ | refine aA ?_ _));exact d9.out)):gP ≠ gG));have n7_:=aj.mk ((by rw [hg];exact Nat.ne_of_gt (kH (g:=gP) (o:=.cells #[.int .i64 fM,.int .i64 jF,.int .i64 lq] 205 (0,0)) (by (with_reducible repeat (first | refine aG ?_ _ | refine aK ?_ | refine aA ?_ _));exact d9.out)):gG ≠ gP));have n8_:=aj.mk ((by rw [hg];exact Nat.ne_of_lt (kH (g:=dX) (o:=.cells #[.string (⟨#[]⟩:ByteArray),.string (⟨#[]⟩:ByteArray),.slice none 0 0] 191 (0,0)) (by (with_reducible repeat (first | refine aG ?_ _ | refine aK ?_ | refine aA ?_ _));exact dU.out)):dX ≠ gG));have n9_:=aj.mk ((by rw [hg];exact Nat.ne_of_gt (kH (g:=dX) (o:=.cells #[.string (⟨#[]⟩:ByteArray),.string (⟨#[]⟩:ByteArray),.slice none 0 0] 191 (0,0)) (by (with_reducible repeat (first | refine aG ?_ _ | refine aK ?_ | refine aA ?_ _));exact dU.out)):gG ≠ dX));clear d9;clear dU;clear HB;have d9:=fJ;have dU:=jr;have HB:=l6;have eZ:=ni;have adD:=qQ;have pX:=QJ;have lG:=QK;have pY:=n7_;have iO:=n8_;have fZ:=n9_;clear fJ jr l6 ni qQ QJ QK n7_ n8_ n9_;clear hb kQ hg;have akF:=gH.out;have akG:=lF.out;have akH:=lG.out;have akI:=pY.out;have afZ:w51.cell? ⟨gP,0,none⟩ = some (.int .i64 fM):=(aX d9.out 0).trans rfl;have af0:w51.cell? ⟨gP,1,none⟩ = some (.int .i64 jF):=(aX d9.out 1).trans rfl;have af2:w51.cell? ⟨gP,2,none⟩ = some (.int .i64 lq):=(aX d9.out 2).trans rfl;have af3:=aJ d9.out 0;have af4:=aJ d9.out 1;have af5:=aJ d9.out 2;have akJ:=iO.out;have akK:=fZ.out;have af6:w51.cell? ⟨dX,0,none⟩ = some (.string (⟨#[]⟩:ByteArray)):=(aX dU.out 0).trans rfl;have af7:w51.cell? ⟨dX,1,none⟩ = some (.string (⟨#[]⟩:ByteArray)):=(aX dU.out 1).trans rfl;have af8:w51.cell? ⟨dX,2,none⟩ = some (.slice none 0 0):=(aX dU.out 2).trans rfl;have af9:=aJ dU.out 0;have aga:=aJ dU.out 1;have agb:=aJ dU.out 2))
  refine bodyPost_ret (lg rfl _ _ dX 191 #[.string (⟨#[]⟩:ByteArray),.string (⟨#[]⟩:ByteArray),.slice none 0 0] (0,0) _ rfl (by (with_reducible repeat (first | refine aG ?_ _ | refine aK ?_ | refine aA ?_ _));refine cO (cs:=#[.string (⟨#[]⟩:ByteArray),.string (⟨#[]⟩:ByteArray),.slice none 0 0]) ?_ 2 _ rfl;(with_reducible repeat (first | refine aG ?_ _ | refine aK ?_ | refine aA ?_ _));refine cO (cs:=#[.string (⟨#[]⟩:ByteArray),.string (⟨#[]⟩:ByteArray),.slice none 0 0]) ?_ 1 _ rfl;(with_reducible repeat (first | refine aG ?_ _ | refine aK ?_ | refine aA ?_ _));refine cO (cs:=#[.string (⟨#[]⟩:ByteArray),.string (⟨#[]⟩:ByteArray),.slice none 0 0]) ?_ 0 _ rfl;(with_reducible repeat (first | refine aG ?_ _ | refine aK ?_ | refine aA ?_ _));exact dU.out) Tryz.underlying191 rfl (by kernel_rfl)) rfl ?_
  exact ⟨_,by first | rfl | (simp [aM,aN] <;> rfl) | (simp [*,aM,aN] <;> rfl),by first | exact Kd.kF _ _ _ _ _ | exact Kd.mM _ _ _ _ _ | exact Kd.mO _ _ _ _ _ | exact Kd.mJ _ _ _ _ _ | exact Kd.mK _ _ _ _ _,by repeat (first | (with_reducible first | exact HB.out | apply ak | apply ah | apply au | refine aT ?_ jN.out | refine aT ?_ lY.out | refine aT ?_ pX.out) | exact HB.out)⟩
theorem jl.keep {a b:ByteArray} {v:Value} {l:List ByteArray} {base g:Nat} {ok:Nat → Prop} {w w1 w2:World}
  (h:(w1.cell? ⟨g,0,none⟩ = some (.string a) ∧ w1.cell? ⟨g,1,none⟩ = some (.string b) ∧ w1.cell? ⟨g,2,none⟩ = some v) ∧ aj (Below g w w1 ∧ g < w1.heap.size ∧ Kd.R Kd.string 9 w1 base ok v l)) (hb:Below w1.heap.size w1 w2) :
  (w2.cell? ⟨g,0,none⟩ = some (.string a) ∧ w2.cell? ⟨g,1,none⟩ = some (.string b) ∧ w2.cell? ⟨g,2,none⟩ = some v) ∧ aj (Below g w w2 ∧ g < w2.heap.size ∧ Kd.R Kd.string 9 w2 base ok v l):=by
 obtain ⟨⟨c0,c1,c2⟩,⟨h1,h2,h3⟩⟩:=h
 have hs:=hb.size
 exact ⟨⟨(hb.cell h2).trans c0,(hb.cell h2).trans c1,(hb.cell h2).trans c2⟩,⟨h1.trans (hb.mono (by omega)),by omega,Kd.kU h3 hb⟩⟩
theorem jl.calls (a b:ByteArray) (v:Value) (l:List ByteArray) (base:Nat) (ok:Nat → Prop) (w:World) (hr:Kd.R Kd.string 9 w base ok v l) (hl:l.length ≤ 1000000) (hz:a.size + (strings_Join.cat l).size + b.size ≤ 140737488355328) :
  Calls Tryz.prog 147 #[.agg #[.string a,.string b,v]] w fun e w'=>e = .returned (.string (a ++ strings_Join.cat l ++ b)) ∧ Below w.heap.size w w':=by
 have HB:=aj.mk (ak (Below.refl w.heap.size w) (.cells #[.string a,.string b,v] 191 (0,0)))
 have HR:=aj.mk (Kd.fH hr (.cells #[.string a,.string b,v] 191 (0,0)))
 have HC:(w.alloc (.cells #[.string a,.string b,v] 191 (0,0))).cell? ⟨w.heap.size,0,none⟩ = some (.string a) ∧ (w.alloc (.cells #[.string a,.string b,v] 191 (0,0))).cell? ⟨w.heap.size,1,none⟩ = some (.string b) ∧ (w.alloc (.cells #[.string a,.string b,v] 191 (0,0))).cell? ⟨w.heap.size,2,none⟩ = some v:=by
  refine ⟨?_,?_,?_⟩ <;> (rw [Lib.cell_of_heap (heap_alloc_new w _)];rfl)
 have HC0:=aj.mk HC
 clear HC
 have HC:=HC0
 clear HC0
 have hs:w.heap.size < (w.alloc (.cells #[.string a,.string b,v] 191 (0,0))).heap.size:=by show _ < (w.heap.push _).size;rw [amM];omega
 have HS:=aj.mk hs
 have HZ:=aj.mk hz
 have HL:=aj.mk hl
 clear hs hz hr hl
 go_enter Tryz.func147,Tryz.ntmps147
 go_wp2
 generalize w.alloc (.cells #[.string a,.string b,v] 191 (0,0)) = w1 at *
 generalize hgg:w.heap.size = g at *
 have hgg:=aj.mk hgg
 have hf1:a.size + (strings_Join.cat l).size ≤ 9223372036854775807:=by have:=HZ.out;omega
 have hf2:a.size + (strings_Join.cat l).size + b.size ≤ 9223372036854775807:=by have:=HZ.out;omega
 have c0:=HC.out.1
 have c1:=HC.out.2.1
 have c2:=HC.out.2.2
 go_region_held (fun w'=>(w'.cell? ⟨g,0,none⟩ = some (.string a) ∧ w'.cell? ⟨g,1,none⟩ = some (.string b) ∧ w'.cell? ⟨g,2,none⟩ = some v) ∧ aj (Below g w w' ∧ g < w'.heap.size ∧ Kd.R Kd.string 9 w' base ok v l)) ((first | assumption | exact jl.keep ⟨⟨c0,c1,c2⟩,⟨HB.out,HS.out,HR.out⟩⟩ (jY (Below.refl _ _)) | exact jl.keep (by assumption) (by assumption))) ((first | (go_at_call 156;refine (strings_Join.calls v l base ok _ (Kd.gL HR.out) HL.out (by have:=HZ.out;omega)).mono ?_;rintro e w' ⟨rfl,hb'⟩)))
 all_goals
  rename_i hx
  go_wp2
  go_ret
  exact ⟨rfl,hgg.out ▸ hx.2.out.1⟩
def eD.l0 : Nat → ByteArray → Option (Bool)
 | 0,_=>none
 | k + 1,x0=>if x0.toList = ([]:List UInt8) then (some true) else (if 0 < (x0.size:Int) then (if (wrap64 (1 + (wrap64 (bt x0 0)))) > (x0.size:Int) then (some false) else (if 0 ≤ (wrap64 (1 + (wrap64 (bt x0 0)))) then (if (wrap64 (1 + (wrap64 (bt x0 0)))) ≤ (x0.size:Int) then (eD.l0 k (x0.extract ((wrap64 (1 + (wrap64 (bt x0 0)))):Int).toNat x0.size)) else (none)) else (none))) else (none))
def eD.f (k:Nat) (a0:ByteArray):Option (Bool):=if a0.toList = ([]:List UInt8) then (some false) else (eD.l0 k a0)
theorem eD.calls (k:Nat) (a0:ByteArray) (r:Bool) (w:World) (h:eD.f k a0 = some r) :
  Calls Tryz.prog 152 #[.string a0] w fun e w'=>e = .returned (.bool r) ∧ bA w w':=by
 have H:(if a0.toList = ([]:List UInt8) then (some false) else (eD.l0 k a0)) = some r:=h
 clear h
 by_cases c2:a0.toList = ([]:List UInt8)
 ·rw [alx c2] at H
  have yL:(a0.toList == ([]:List UInt8)) = true:=alW.mpr c2
  have Mt:(a0.toList != ([]:List UInt8)) = false:=ami.mpr c2
  have adL:a0.toList.isEmpty = true:=List.isEmpty_iff.mpr c2
  clear c2
  obtain rfl:=al0 H
  go_enter Tryz.func152,Tryz.ntmps152
  go_wp2
  go_ret
  exact ⟨by first | rfl | (simp;done) | (simp [*];done),by repeat (first | exact bA.refl _ | apply bA.step)⟩
 ·rw [aly c2] at H
  have yL:(a0.toList == ([]:List UInt8)) = false:=amd.mpr c2
  have Mt:(a0.toList != ([]:List UInt8)) = true:=amf.mpr c2
  have adL:a0.toList.isEmpty = false:=amg.mpr (fun h_=>c2 (List.isEmpty_iff.mp h_))
  have H':=aj.mk H
  clear H
  go_enter Tryz.func152,Tryz.ntmps152
  go_wp2
  go_loopg [0] k (fun kq v0 w'=>∃ (bS:ByteArray),v0 = .string bS ∧ aj (eD.l0 kq bS = some r) ∧ aj (kq ≤ k) ∧ bA w w')
  case atStart=>exact ⟨(a0),(by first | rfl | (simp;done) | (simp [*];done) | (simp [B.aY];done) | (simp [B.aZ];done)),H',⟨alC _⟩,by repeat (first | exact bA.refl _ | apply bA.step)⟩
  case round =>
   clear H'
   try clear c1
   try clear c2
   try clear yL
   try clear Mt
   try clear adL
   try clear p2
   obtain ⟨bS,rfl,HA,vV,⟨m1,rfl⟩⟩:=hrel
   cases gk with
   | zero=>exact absurd HA.out (by simp [eD.l0])
   | succ k1 =>
    have H:=HA.out
    clear HA
    simp only [eD.l0] at H
    by_cases c3:bS.toList = ([]:List UInt8)
    ·rw [alx c3] at H
     have tJ:(bS.toList == ([]:List UInt8)) = true:=alW.mpr c3
     have Ez:(bS.toList != ([]:List UInt8)) = false:=ami.mpr c3
     have Qv:bS.toList.isEmpty = true:=List.isEmpty_iff.mpr c3
     clear c3
     obtain rfl:=al0 H
     go_wp2
     go_ret
     exact ⟨by first | rfl | (simp;done) | (simp [*];done),by repeat (first | exact bA.refl _ | apply bA.step)⟩
    ·rw [aly c3] at H
     have tJ:(bS.toList == ([]:List UInt8)) = false:=amd.mpr c3
     have Ez:(bS.toList != ([]:List UInt8)) = true:=amf.mpr c3
     have Qv:bS.toList.isEmpty = false:=amg.mpr (fun h_=>c3 (List.isEmpty_iff.mp h_))
     by_cases c4:0 < (bS.size:Int)
     ·rw [alx c4] at H
      have tH:decide (0 < (bS.size:Int)) = true:=alz c4
      have Mv:decide (0 < bS.size) = true:=alz (by omega)
      clear c4
      by_cases c6:(wrap64 (1 + (wrap64 (bt bS 0)))) > (bS.size:Int)
      ·rw [alx c6] at H
       have BJ:decide ((bS.size:Int) < (wrap64 (1 + (wrap64 (bt bS 0))))) = true:=alz c6
       (try (have Qr:decide ((bS.size:Int) < ((1 + ((bt bS 0))))) = true:=by have h_:decide ((bS.size:Int) < (wrap64 (1 + (wrap64 (bt bS 0))))) = true:=alz c6;rw [B.iC (by omega) (by omega)] at h_;rw [B.iC (by omega) (by omega)] at h_;exact h_))
       clear c6
       obtain rfl:=al0 H
       have p5:0 ≤ (0:Int):=(by omega)
       have q5:0 < bS.size:=(by have:(0:Int) < (bS.size:Int):=alQ (by first | (with_reducible assumption) | assumption);omega)
       have hx5:∀ h:0 < bS.size,((bS[0]'h).toNat:Int) = bt bS 0:=pW bS 0
       clear p5
       have qi5:(0 < (bS.size:Int)) = True:=alH (alQ (by first | (with_reducible assumption) | assumption))
       replace q5:=alH q5
       go_wp2
       go_ret
       exact ⟨by first | rfl | (simp;done) | (simp [*];done),by repeat (first | exact bA.refl _ | apply bA.step)⟩
      ·rw [aly c6] at H
       have BJ:decide ((bS.size:Int) < (wrap64 (1 + (wrap64 (bt bS 0))))) = false:=alB c6
       (try (have Qr:decide ((bS.size:Int) < ((1 + ((bt bS 0))))) = false:=by have h_:decide ((bS.size:Int) < (wrap64 (1 + (wrap64 (bt bS 0))))) = false:=alB c6;rw [B.iC (by omega) (by omega)] at h_;rw [B.iC (by omega) (by omega)] at h_;exact h_))
       clear c6
       obtain ⟨UU,MK⟩:∃ j_:Int,(wrap64 (1 + (wrap64 (bt bS 0)))) = j_:=⟨_,rfl⟩
       replace H:(if 0 ≤ (UU) then (if (UU) ≤ (bS.size:Int) then (eD.l0 k1 (bS.extract ((UU):Int).toNat bS.size)) else (none)) else (none)) = some r:=by first | (rw [MK] at H;exact H) | (simp only [MK] at H ⊢;exact H)
       (try rw [MK] at BJ)
       (try rw [MK] at Qr)
       have akL:(IntKind.i64.wrap (1 + (wrap64 (bt bS 0)))) = UU:=(iN _).trans MK
       by_cases c8:0 ≤ (UU)
       ·rw [alx c8] at H
        have uE:=alH c8
        have uF:decide (0 ≤ (UU)) = true:=alz c8
        clear c8
        by_cases c9:(UU) ≤ (bS.size:Int)
        ·rw [alx c9] at H
         have vW:=alH c9
         have GQ:decide ((UU) ≤ (bS.size:Int)) = true:=alz c9
         clear c9
         have H':=aj.mk H
         clear H
         have p5:0 ≤ (0:Int):=(by omega)
         have q5:0 < bS.size:=(by have:(0:Int) < (bS.size:Int):=alQ (by first | (with_reducible assumption) | assumption);omega)
         have hx5:∀ h:0 < bS.size,((bS[0]'h).toNat:Int) = bt bS 0:=pW bS 0
         clear p5
         have qi5:(0 < (bS.size:Int)) = True:=alH (alQ (by first | (with_reducible assumption) | assumption))
         replace q5:=alH q5
         go_wp2
         go_roundg k1
         case measure=>have:=vV.out;omega
         case rel=>exact ⟨(bS.extract ((UU):Int).toNat bS.size),(by first | rfl | (simp;done) | (simp only [← MK] <;> (first | rfl | simp)) | (simp [*];done)),H',⟨by have:=vV.out;omega⟩,by repeat (first | exact bA.refl _ | apply bA.step)⟩
        ·rw [aly c9] at H
         exact absurd H (by simp)
       ·rw [aly c8] at H
        exact absurd H (by simp)
     ·rw [aly c4] at H
      exact absurd H (by simp)
def aD.AL (k:Int):Option (Int × Int × Int) :=
 if k = 1 then some (4,0,0) else if k = 28 then some (16,0,0) else if k = 2 then some (0,1,0) else if k = 5 then some (0,1,0) else if k = 12 then some (0,1,0) else if k = 6 then some (0,2,20) else if k = 15 then some (2,1,0) else if k = 33 then some (6,1,0) else none
theorem aD.yX (k:Int):Mi.uT k dD.tab = (aD.AL k).map fun s=>dD.agg s.1 s.2.1 s.2.2:=by
 unfold aD.AL dD.tab
 simp only [Mi.uT]
 repeat' split
 all_goals rfl
def aD.fin (k:Nat) (kind:Int) (d:ByteArray) (is:Bool):Option (ByteArray × Int) :=
 if is = true then (if kind = 16 then ((eD.f k d).bind fun b=>if b = true then (if (d.size:Int) > 65535 then some (⟨#[]⟩,4) else some (d,0)) else some (⟨#[]⟩,4)) else (if (d.size:Int) > 65535 then some (⟨#[]⟩,4) else some (d,0))) else some (⟨#[]⟩,4)
def aD.g (k:Nat) (a0:ByteArray) (a1 a2 a3:Int) (s:Int × Int × Int):Option (ByteArray × Int) :=
 (dw.f k a0 a1 (wrap64 (a1 + a2)) s.1 s.2.1 s.2.2).bind fun p=>if p.1.size + (strings_Join.cat p.2.2.1).size + p.2.1.size ≤ 140737488355328 then (if p.2.2.1.length ≤ 1000000 then aD.fin k a3 (p.1 ++ strings_Join.cat p.2.2.1 ++ p.2.1) p.2.2.2 else none) else none
def aD.f (k:Nat) (a0:ByteArray) (a1 a2 a3:Int):Option (ByteArray × Int) :=
 (fP.f a0 a1 a2).bind fun t=>if t.2 = true then (match aD.AL a3 with | some s=>aD.g k a0 a1 a2 a3 s | none=>aD.fin k a3 t.1 true) else some (⟨#[]⟩,2)
theorem aD.CY {k:Nat} {kind:Int} {d:ByteArray} {r:ByteArray × Int} (h:aD.fin k kind d true = some r) (hk:kind = 16) :
  ∃ b,eD.f k d = some b ∧ (if b = true then (if (d.size:Int) > 65535 then some ((⟨#[]⟩:ByteArray),(4:Int)) else some (d,0)) else some (⟨#[]⟩,4)) = some r:=by
 unfold aD.fin at h
 rw [alx rfl,alx hk] at h
 exact zbm h
theorem aD.sS {k:Nat} {kind:Int} {d:ByteArray} {r:ByteArray × Int} (h:aD.fin k kind d true = some r) (hk:¬ kind = 16) :
  (if (d.size:Int) > 65535 then some ((⟨#[]⟩:ByteArray),(4:Int)) else some (d,0)) = some r:=by
 unfold aD.fin at h
 rw [alx rfl,aly hk] at h
 exact h
theorem aD.Zj {k:Nat} {kind:Int} {d:ByteArray} {r:ByteArray × Int} (h:aD.fin k kind d false = some r):r = (⟨#[]⟩,4):=by
 unfold aD.fin at h
 rw [aly amT] at h
 exact (al0 h).symm
theorem aD.slc {v:Value} {l:List ByteArray} {base:Nat} {ok:Nat → Prop} {w:World} (hr:Kd.R Kd.string 9 w base ok v l):∃ A n c,v = .slice A n c:=by
 rcases (Kd.vQ hr).2 with ⟨rfl,_⟩ | ⟨g,cap,cur,rfl,_⟩
 ·exact ⟨_,_,_,rfl⟩
 ·exact ⟨_,_,_,rfl⟩
theorem aD.nO {b:Bool} {d r1:ByteArray} {r2:Int} (h:(if b = true then (if (d.size:Int) > 65535 then some ((⟨#[]⟩:ByteArray),(4:Int)) else some (d,0)) else some (⟨#[]⟩,4)) = some (r1,r2)) :
  (b = true → 65535 < (d.size:Int) → r1 = ⟨#[]⟩ ∧ r2 = 4) ∧ (b = true → (d.size:Int) ≤ 65535 → r1 = d ∧ r2 = 0) ∧ (b = false → r1 = ⟨#[]⟩ ∧ r2 = 4):=by
 refine ⟨fun h1 h2=>?_,fun h1 h2=>?_,fun h1=>?_⟩
 ·rw [alx h1,alx h2] at h;cases h;exact ⟨rfl,rfl⟩
 ·rw [alx h1,aly (by omega)] at h;cases h;exact ⟨rfl,rfl⟩
 ·rw [h1,aly amT] at h;cases h;exact ⟨rfl,rfl⟩
theorem aD.sU {d r1:ByteArray} {r2:Int} (h:(if (d.size:Int) > 65535 then some ((⟨#[]⟩:ByteArray),(4:Int)) else some (d,0)) = some (r1,r2)) :
  (65535 < (d.size:Int) → r1 = ⟨#[]⟩ ∧ r2 = 4) ∧ ((d.size:Int) ≤ 65535 → r1 = d ∧ r2 = 0):=by
 refine ⟨fun h2=>?_,fun h2=>?_⟩
 ·rw [alx h2] at h;cases h;exact ⟨rfl,rfl⟩
 ·rw [aly (by omega)] at h;cases h;exact ⟨rfl,rfl⟩
theorem aD.calls (k:Nat) (a0:ByteArray) (a1 a2 a3:Int) (r1:ByteArray) (r2:Int) (w:World) (h:aD.f k a0 a1 a2 a3 = some (r1,r2)) :
  Calls Tryz.prog 145 #[.string a0,.int .i64 a1,.int .i64 a2,.int .i64 a3] w fun e w'=>e = .returned (.tuple #[.string r1,.int .i64 r2]) ∧ Below w.heap.size w w':=by
 have HB:=aj.mk (Below.refl w.heap.size w)
 obtain ⟨⟨t1,t2⟩,ht,h'⟩:=zbm h
 clear h
 have HT:=aj.mk ht
 clear ht
 cases t2 with
 | false =>
  rw [aly amT] at h'
  obtain ⟨rfl,rfl⟩:=alK .. ▸ al0 h'
  go_enter Tryz.func145,Tryz.ntmps145
  go_wp2_with (first | (go_at_call 136;refine (fP.calls _ _ _ _ _ _ HT.out).mono ?_;rintro e w1 ⟨rfl,hd1⟩))
  go_ret2
  exact ⟨rfl,hd1.below⟩
 | true =>
  replace h':(match aD.AL a3 with | some s=>aD.g k a0 a1 a2 a3 s | none=>aD.fin k a3 t1 true) = some (r1,r2):=h'
  cases hsh:aD.AL a3 with
  | none =>
   rw [hsh] at h'
   have HH:=aj.mk (show aD.fin k a3 t1 true = some (r1,r2) from h')
   clear h'
   have hfn:Mi.uT a3 dD.tab = none:=by rw [aD.yX,hsh];rfl
   go_enter Tryz.func145,Tryz.ntmps145
   go_wp2_with (first
    | (go_at_call 136;refine (fP.calls _ _ _ _ _ _ HT.out).mono ?_;rintro e w1 ⟨rfl,hd1⟩)
    | (go_at_call 129;refine (dD.calls _).mono ?_;rintro e w2 ⟨g,rfl,hin⟩;have hl:=Mi.look (P:=Tryz.prog) hin.at_ 207 3 205 Tryz.underlying207 Tryz.underlying3 _ (Tryz.zeroValue205 w2) a3;rw [hfn] at hl;have hB2:=aj.mk ((HB.out.trans hd1.below).trans (hin.QI.mono hd1.below.size));clear hin)
    | (go_at_call 152;obtain ⟨b,hb,hx⟩:=aD.CY HH.out (by assumption);have hx:=aj.mk hx;refine (eD.calls _ _ _ _ hb).mono ?_;rintro e w3 ⟨rfl,hd3⟩))
   all_goals
    go_ret2
    first
     | (have hq:=(aD.nO hx.out).1 (by assumption) (by assumption);obtain ⟨rfl,rfl⟩:=hq;exact ⟨rfl,(ak hB2.out _).trans (hd3.below.mono (by have:=hB2.out.size;simp only [World.alloc,amM];omega))⟩)
     | (have hq:=(aD.nO hx.out).2.1 (by assumption) (by assumption);obtain ⟨rfl,rfl⟩:=hq;exact ⟨rfl,(ak hB2.out _).trans (hd3.below.mono (by have:=hB2.out.size;simp only [World.alloc,amM];omega))⟩)
     | (have hq:=(aD.nO hx.out).2.2 (by first | assumption | simpa using ‹¬ b = true›);obtain ⟨rfl,rfl⟩:=hq;exact ⟨rfl,(ak hB2.out _).trans (hd3.below.mono (by have:=hB2.out.size;simp only [World.alloc,amM];omega))⟩)
     | (have hq:=(aD.sU (aD.sS HH.out (by assumption))).1 (by assumption);obtain ⟨rfl,rfl⟩:=hq;exact ⟨rfl,ak hB2.out _⟩)
     | (have hq:=(aD.sU (aD.sS HH.out (by assumption))).2 (by assumption);obtain ⟨rfl,rfl⟩:=hq;exact ⟨rfl,ak hB2.out _⟩)
  | some s =>
   obtain ⟨s0,s1,s2⟩:=s
   rw [hsh] at h'
   replace h':aD.g k a0 a1 a2 a3 (s0,s1,s2) = some (r1,r2):=h'
   unfold aD.g at h'
   obtain ⟨⟨p1,p2,p3,p4⟩,hp,h'⟩:=zbm h'
   replace h':(if p1.size + (strings_Join.cat p3).size + p2.size ≤ 140737488355328 then (if p3.length ≤ 1000000 then aD.fin k a3 (p1 ++ strings_Join.cat p3 ++ p2) p4 else none) else none) = some (r1,r2):=h'
   have hp:=aj.mk (show dw.f k a0 a1 (wrap64 (a1 + a2)) s0 s1 s2 = some (p1,p2,p3,p4) from hp)
   by_cases z1:p1.size + (strings_Join.cat p3).size + p2.size ≤ 140737488355328
   ·rw [alx z1] at h'
    by_cases z2:p3.length ≤ 1000000
    ·rw [alx z2] at h'
     have HH:=aj.mk h'
     have z1:=aj.mk z1
     have z2:=aj.mk z2
     clear h'
     have hfn:Mi.uT a3 dD.tab = some (dD.agg s0 s1 s2):=by rw [aD.yX,hsh];rfl
     cases p4
     all_goals
      go_enter Tryz.func145,Tryz.ntmps145
      go_wp2_with (first
       | (go_at_call 136;refine (fP.calls _ _ _ _ _ _ HT.out).mono ?_;rintro e w1 ⟨rfl,hd1⟩)
       | (go_at_call 129;refine (dD.calls _).mono ?_;rintro e w2 ⟨g,rfl,hin⟩;have hl:=Mi.look (P:=Tryz.prog) hin.at_ 207 3 205 Tryz.underlying207 Tryz.underlying3 _ (Tryz.zeroValue205 w2) a3;rw [hfn] at hl;replace hl:=show _ = Result.ok (Value.tuple #[.agg #[.int .i64 s0,.int .i64 s1,.int .i64 s2],.bool true]) w2 from hl;have hB2:=aj.mk ((HB.out.trans hd1.below).trans (hin.QI.mono hd1.below.size));clear hin)
       | (go_at_call 130;refine (dw.calls _ _ _ _ _ _ _ _ _ _ _ _ hp.out).mono ?_;rintro e w3 ⟨v,rfl,hv,hb3⟩;obtain ⟨vA,vn,vc,rfl⟩:=aD.slc hv;have hB3:=aj.mk ((ak hB2.out _).trans (hb3.mono (by have:=hB2.out.size;simp only [World.alloc,amM];omega)));have hv:=aj.mk hv;clear hb3)
       | (go_at_call 147;refine (jl.calls _ _ _ p3 _ _ _ (Kd.fH hv.out _) z2.out z1.out).mono ?_;rintro e w4 ⟨rfl,hb4⟩;have hB4:=aj.mk ((ak hB3.out _).trans (hb4.mono (by have:=hB3.out.size;simp only [World.alloc,amM];omega)));clear hb4)
       | (go_at_call 152;obtain ⟨b,hb,hx⟩:=aD.CY HH.out (by assumption);have hx:=aj.mk hx;refine (eD.calls _ _ _ _ hb).mono ?_;rintro e w5 ⟨rfl,hd3⟩))
      all_goals
       go_ret2
       first
        | (have hq:=aD.Zj HH.out;cases hq;exact ⟨rfl,hB4.out⟩)
        | (have hq:=(aD.nO hx.out).1 (by first | assumption | (simp only [alO,Int.natCast_add];assumption)) (by first | assumption | (simp only [alO,Int.natCast_add];assumption));obtain ⟨rfl,rfl⟩:=hq;exact ⟨rfl,hB4.out.trans (hd3.below.mono hB4.out.size)⟩)
        | (have hq:=(aD.nO hx.out).2.1 (by first | assumption | (simp only [alO,Int.natCast_add];assumption)) (by first | assumption | (simp only [alO,Int.natCast_add];assumption));obtain ⟨rfl,rfl⟩:=hq;exact ⟨rfl,hB4.out.trans (hd3.below.mono hB4.out.size)⟩)
        | (have hq:=(aD.nO hx.out).2.2 (by first | assumption | simpa using ‹¬ b = true›);obtain ⟨rfl,rfl⟩:=hq;exact ⟨rfl,hB4.out.trans (hd3.below.mono hB4.out.size)⟩)
        | (have hq:=(aD.sU (aD.sS HH.out (by first | assumption | (simp only [alO,Int.natCast_add];assumption)))).1 (by first | assumption | (simp only [alO,Int.natCast_add];assumption));obtain ⟨rfl,rfl⟩:=hq;exact ⟨rfl,hB4.out⟩)
        | (have hq:=(aD.sU (aD.sS HH.out (by first | assumption | (simp only [alO,Int.natCast_add];assumption)))).2 (by first | assumption | (simp only [alO,Int.natCast_add];assumption));obtain ⟨rfl,rfl⟩:=hq;exact ⟨rfl,hB4.out⟩)
    ·rw [aly z2] at h';cases h'
   ·rw [aly z1] at h';cases h'
def jH.f (k:Nat) (a0:Int) (a1:ByteArray):Option (Bool):=if (a1.size:Int) > 65535 then (some false) else ((aD.f k a1 0 (a1.size:Int) a0).bind fun G6=>(if G6.2 = 0 then (some (G6.1.toList == a1.toList)) else (some false)))
theorem jH.calls (k:Nat) (a0:Int) (a1:ByteArray) (r:Bool) (w:World) (h:jH.f k a0 a1 = some r) :
  Calls Tryz.prog 128 #[.int .i64 a0,.string a1] w fun e w'=>e = .returned (.bool r) ∧ Below w.heap.size w w':=by
 have HB:=aj.mk (Below.refl w.heap.size w)
 have H:(if (a1.size:Int) > 65535 then (some false) else ((aD.f k a1 0 (a1.size:Int) a0).bind fun G6=>(if G6.2 = 0 then (some (G6.1.toList == a1.toList)) else (some false)))) = some r:=h
 clear h
 by_cases c3:(a1.size:Int) > 65535
 ·rw [alx c3] at H
  have tJ:decide (65535 < (a1.size:Int)) = true:=alz c3
  have Ez:decide (65535 < a1.size) = true:=alz (by omega)
  clear c3
  obtain rfl:=al0 H
  go_enter Tryz.func128,Tryz.ntmps128
  go_wp2
  go_ret
  exact ⟨by first | rfl | (simp [aM,aN] <;> rfl) | (simp [*,aM,aN] <;> rfl),by repeat (first | exact HB.out | apply ak | apply ah | apply au)⟩
 ·rw [aly c3] at H
  have tJ:decide (65535 < (a1.size:Int)) = false:=alB c3
  have Ez:decide (65535 < a1.size) = false:=alB (by omega)
  clear c3
  replace H:=zbm H
  obtain ⟨⟨t131,G7⟩,GR,H⟩:=H
  replace H:(if G7 = 0 then (some (t131.toList == a1.toList)) else (some false)) = some r:=H
  have A4:=aj.mk GR
  clear GR
  by_cases c5:G7 = 0
  ·rw [alx c5] at H
   have rO:(G7 == 0) = true:=alW.mpr c5
   have xA:(G7 != 0) = false:=ami.mpr c5
   clear c5
   obtain rfl:=al0 H
   go_enter Tryz.func128,Tryz.ntmps128
   go_wp2_with (first | ((with_reducible refine aQ (f:=145) rfl ?_);refine bW (some 15) rfl rfl Tryz.func145 (by kernel_rfl) rfl #[.string a1,.int .i64 0,.int .i64 (a1.size:Int),.int .i64 a0] rfl (by (try simp only [alJ,alD,alE]);first | done | rfl | (simp only [al5,alP];rfl) | (simp only [alO,Int.natCast_add];rfl) | (rw [B.iC] <;> first | rfl | omega | (simp only [alS,alL,Int.not_lt,amy,gt_iff_lt] at * <;> omega))) ?_;(with_reducible refine (aD.calls k a1 0 (a1.size:Int) a0 t131 G7 _ A4.out).mono ?_);rintro e w6 ⟨rfl,hb⟩;refine ⟨_,rfl,?_⟩;have fJ:=aj.mk (bP (by repeat first | exact HB.out | apply ak | apply ah | apply au) hb);clear HB;have HB:=fJ;clear fJ;(try clear hb);(try clear hb2);(try clear hk);(try clear hi)))
   go_ret
   exact ⟨by first | rfl | (simp [aM,aN] <;> rfl) | (simp [*,aM,aN] <;> rfl),by repeat (first | exact HB.out | apply ak | apply ah | apply au)⟩
  ·rw [aly c5] at H
   have rO:(G7 == 0) = false:=amd.mpr c5
   have xA:(G7 != 0) = true:=amf.mpr c5
   obtain rfl:=al0 H
   go_enter Tryz.func128,Tryz.ntmps128
   go_wp2_with (first | ((with_reducible refine aQ (f:=145) rfl ?_);refine bW (some 15) rfl rfl Tryz.func145 (by kernel_rfl) rfl #[.string a1,.int .i64 0,.int .i64 (a1.size:Int),.int .i64 a0] rfl (by (try simp only [alJ,alD,alE]);first | done | rfl | (simp only [al5,alP];rfl) | (simp only [alO,Int.natCast_add];rfl) | (rw [B.iC] <;> first | rfl | omega | (simp only [alS,alL,Int.not_lt,amy,gt_iff_lt] at * <;> omega))) ?_;(with_reducible refine (aD.calls k a1 0 (a1.size:Int) a0 t131 G7 _ A4.out).mono ?_);rintro e w7 ⟨rfl,hb⟩;refine ⟨_,rfl,?_⟩;have fJ:=aj.mk (bP (by repeat first | exact HB.out | apply ak | apply ah | apply au) hb);clear HB;have HB:=fJ;clear fJ;(try clear hb);(try clear hb2);(try clear hk);(try clear hi)))
   go_ret
   exact ⟨by first | rfl | (simp [aM,aN] <;> rfl) | (simp [*,aM,aN] <;> rfl),by repeat (first | exact HB.out | apply ak | apply ah | apply au)⟩
def dF.f (k:Nat) (a0:Int) (a1:ByteArray):Option (ByteArray × ByteArray × List ByteArray × Bool) :=
 (jH.f k a0 a1).bind fun c=>if c = true then (match aD.AL a0 with | some s=>dw.f k a1 0 (a1.size:Int) s.1 s.2.1 s.2.2 | none=>some (a1,⟨#[]⟩,[],true)) else some (⟨#[]⟩,⟨#[]⟩,[],false)
theorem dF.three {w w1:World} {g B:Nat} {a b c a' b' c':Value} (bk:w1.heap[g]? = some (.cells #[a',b',c'] 191 (0,0))) :
  (((w1.setCell ⟨g,0,none⟩ a).setCell ⟨g,1,none⟩ b).setCell ⟨g,2,none⟩ c).heap[g]? = some (.cells #[a,b,c] 191 (0,0)) ∧
  (Below B w w1 → B ≤ g → Below B w (((w1.setCell ⟨g,0,none⟩ a).setCell ⟨g,1,none⟩ b).setCell ⟨g,2,none⟩ c)) ∧
  (∀ v l base ok,Kd.R Kd.string 9 w1 base ok v l → Kd.R Kd.string 9 (((w1.setCell ⟨g,0,none⟩ a).setCell ⟨g,1,none⟩ b).setCell ⟨g,2,none⟩ c) base ok v l):=by
 have b1:=cO bk 0 a (cs':=#[a,b',c']) rfl
 have b2:=cO b1 1 b (cs':=#[a,b,c']) rfl
 have b3:=cO b2 2 c (cs':=#[a,b,c]) rfl
 refine ⟨b3,fun h hg=>((h.setCell hg _).setCell hg _).setCell hg _,fun v l base ok h=>?_⟩
 exact Kd.Qa (Kd.Qa (Kd.Qa h bk (by decide) 0 a) b1 (by decide) 1 b) b2 (by decide) 2 c
theorem dF.facts {w1:World} {g:Nat} {a b c:Value} (bk:w1.heap[g]? = some (.cells #[a,b,c] 191 (0,0))) :
  (w1.cell? ⟨g,0,none⟩ = some a ∧ w1.cell? ⟨g,1,none⟩ = some b ∧ w1.cell? ⟨g,2,none⟩ = some c) ∧ w1.frozen? ⟨g,0,none⟩ = false ∧ w1.frozen? ⟨g,1,none⟩ = false ∧ w1.frozen? ⟨g,2,none⟩ = false :=
 ⟨⟨aX bk 0,aX bk 1,aX bk 2⟩,aJ bk 0,aJ bk 1,aJ bk 2⟩
theorem dF.calls (k:Nat) (a0:Int) (a1:ByteArray) (r1 r2:ByteArray) (r3:List ByteArray) (r4:Bool) (w:World) (h:dF.f k a0 a1 = some (r1,r2,r3,r4)) :
  Calls Tryz.prog 112 #[.int .i64 a0,.string a1] w fun e w'=>∃ v2_:Value,e = .returned (.tuple #[.agg #[.string r1,.string r2,v2_],.bool r4]) ∧ Kd.R Kd.string 9 w' w.heap.size (fun _=>True) v2_ r3 ∧ Below w.heap.size w w':=by
 obtain ⟨c,hc,h'⟩:=zbm h
 clear h
 have HC:=aj.mk hc
 clear hc
 cases c with
 | false =>
  rw [aly amT] at h'
  cases h'
  go_enter Tryz.func112,Tryz.ntmps112
  go_wp2_with (first
   | (go_at_call 128;refine (jH.calls _ _ _ _ _ HC.out).mono ?_;rintro e w1 ⟨rfl,hd1⟩;have bk:=eO (vO w _) hd1;obtain ⟨⟨k0,k1,k2⟩,f0,f1,f2⟩:=dF.facts bk;have bk:=aj.mk bk;have hB1:=aj.mk ((ak (Below.refl w.heap.size w) _).trans (hd1.mono (by simp only [World.alloc,amM];omega)));clear hd1))
  refine bodyPost_ret (lg rfl _ _ w.heap.size 191 #[.string ⟨#[]⟩,.string ⟨#[]⟩,.slice none 0 0] (0,0) _ rfl (dF.three (w:=w) (B:=0) bk.out).1 Tryz.underlying191 rfl (by kernel_rfl)) rfl ?_
  exact ⟨_,rfl,Kd.kF _ _ _ _ _,(dF.three bk.out).2.1 hB1.out (alC _)⟩
 | true =>
  replace h':(match aD.AL a0 with | some s=>dw.f k a1 0 (a1.size:Int) s.1 s.2.1 s.2.2 | none=>some (a1,⟨#[]⟩,[],true)) = some (r1,r2,r3,r4):=h'
  cases hsh:aD.AL a0 with
  | none =>
   rw [hsh] at h'
   cases h'
   have hfn:Mi.uT a0 dD.tab = none:=by rw [aD.yX,hsh];rfl
   go_enter Tryz.func112,Tryz.ntmps112
   go_wp2_with (first
    | (go_at_call 128;refine (jH.calls _ _ _ _ _ HC.out).mono ?_;rintro e w1 ⟨rfl,hd1⟩;have bk:=eO (vO w _) hd1;obtain ⟨⟨k0,k1,k2⟩,f0,f1,f2⟩:=dF.facts bk;have bk:=aj.mk bk;have hB1:=aj.mk ((ak (Below.refl w.heap.size w) _).trans (hd1.mono (by simp only [World.alloc,amM];omega)));clear hd1)
    | (go_at_call 129;refine (dD.calls _).mono ?_;rintro e w2 ⟨g,rfl,hin⟩;clear k0 k1 k2 f0 f1 f2;have hl:=Mi.look (P:=Tryz.prog) hin.at_ 207 3 205 Tryz.underlying207 Tryz.underlying3 _ (Tryz.zeroValue205 w2) a0;rw [hfn] at hl;replace hl:=show _ = Result.ok (Value.tuple #[.agg #[.int .i64 0,.int .i64 0,.int .i64 0],.bool false]) w2 from hl;have hB2:=aj.mk (hB1.out.trans (hin.QI.mono hB1.out.size));have bk:=aj.mk (aA (eO bk.out hin.QI) (.cells #[.int .i64 0,.int .i64 0,.int .i64 0] 205 (0,0)));obtain ⟨⟨k0,k1,k2⟩,f0,f1,f2⟩:=dF.facts bk.out;clear hin))
   refine bodyPost_ret (lg rfl _ _ w.heap.size 191 #[.string a1,.string ⟨#[]⟩,.slice none 0 0] (0,0) _ rfl (dF.three (w:=w) (B:=0) bk.out).1 Tryz.underlying191 rfl (by kernel_rfl)) rfl ?_
   exact ⟨_,rfl,Kd.kF _ _ _ _ _,(dF.three bk.out).2.1 (ak hB2.out _) (alC _)⟩
  | some s =>
   obtain ⟨s0,s1,s2⟩:=s
   rw [hsh] at h'
   have hp:=aj.mk (show dw.f k a1 0 (a1.size:Int) s0 s1 s2 = some (r1,r2,r3,r4) from h')
   clear h'
   have hfn:Mi.uT a0 dD.tab = some (dD.agg s0 s1 s2):=by rw [aD.yX,hsh];rfl
   go_enter Tryz.func112,Tryz.ntmps112
   go_wp2_with (first
    | (go_at_call 128;refine (jH.calls _ _ _ _ _ HC.out).mono ?_;rintro e w1 ⟨rfl,hd1⟩;have bk:=eO (vO w _) hd1;obtain ⟨⟨k0,k1,k2⟩,f0,f1,f2⟩:=dF.facts bk;have bk:=aj.mk bk;have hB1:=aj.mk ((ak (Below.refl w.heap.size w) _).trans (hd1.mono (by simp only [World.alloc,amM];omega)));clear hd1)
    | (go_at_call 129;refine (dD.calls _).mono ?_;rintro e w2 ⟨g,rfl,hin⟩;clear k0 k1 k2 f0 f1 f2;have hl:=Mi.look (P:=Tryz.prog) hin.at_ 207 3 205 Tryz.underlying207 Tryz.underlying3 _ (Tryz.zeroValue205 w2) a0;rw [hfn] at hl;replace hl:=show _ = Result.ok (Value.tuple #[.agg #[.int .i64 s0,.int .i64 s1,.int .i64 s2],.bool true]) w2 from hl;have hB2:=aj.mk (hB1.out.trans (hin.QI.mono hB1.out.size));have bk:=aj.mk (aA (eO bk.out hin.QI) (.cells #[.int .i64 s0,.int .i64 s1,.int .i64 s2] 205 (0,0)));obtain ⟨⟨k0,k1,k2⟩,f0,f1,f2⟩:=dF.facts bk.out;clear hin)
    | (go_at_call 130;refine (dw.calls _ _ _ _ _ _ _ _ _ _ _ _ hp.out).mono ?_;rintro e w3 ⟨v,rfl,hv,hb3⟩;clear k0 k1 k2 f0 f1 f2;obtain ⟨vA,vn,vc,rfl⟩:=aD.slc hv;have hB3:=aj.mk ((ak hB2.out _).trans (hb3.mono (by have:=hB2.out.size;simp only [World.alloc,amM];omega)));have hv:=aj.mk (Kd.sI hv (by have:=hB2.out.size;simp only [World.alloc,amM];omega:w.heap.size ≤ _));have bk:=aj.mk (eO bk.out hb3);obtain ⟨⟨k0,k1,k2⟩,f0,f1,f2⟩:=dF.facts bk.out;clear hb3))
   refine bodyPost_ret (lg rfl _ _ w.heap.size 191 #[.string r1,.string r2,.slice vA vn vc] (0,0) _ rfl (dF.three (w:=w) (B:=0) bk.out).1 Tryz.underlying191 rfl (by kernel_rfl)) rfl ?_
   exact ⟨_,rfl,(dF.three (w:=w) (B:=0) bk.out).2.2 _ _ _ _ hv.out,(dF.three bk.out).2.1 hB3.out (alC _)⟩
def fI.all (k:Nat):List ByteArray → Option (List ByteArray)
 | []=>some []
 | x :: l=>(ou.f k x).bind fun y=>(fI.all k l).bind fun m=>some (y :: m)
def fI.fin (p1 p2:ByteArray) (m:List ByteArray):Option ByteArray :=
 if p1.size + (strings_Join.cat m).size + p2.size ≤ 140737488355328 then (if m.length ≤ 1000000 then some (p1 ++ strings_Join.cat m ++ p2) else none) else none
def fI.f (k:Nat) (a0:Int) (a1:ByteArray):Option ByteArray :=
 (dF.f k a0 a1).bind fun p=>(fI.all k p.2.2.1).bind fun m=>fI.fin p.1 p.2.1 m
theorem fI.AO {k:Nat}:∀ {l m:List ByteArray},fI.all k l = some m → m.length = l.length
 | [],m,h=>by cases h;rfl
 | x :: l,m,h=>by
  rw [fI.all] at h
  obtain ⟨y,_,h⟩:=zbm h
  obtain ⟨m',h',h⟩:=zbm h
  cases h
  rw [List.length_cons,List.length_cons,fI.AO h']
theorem fI.calls (k:Nat) (a0:Int) (a1:ByteArray) (r:ByteArray) (w:World) (h:fI.f k a0 a1 = some r) :
  Calls Tryz.prog 132 #[.int .i64 a0,.string a1] w fun e w'=>e = .returned (.string r) ∧ Below w.heap.size w w':=by
 obtain ⟨⟨p1,p2,l,p4⟩,hp,h'⟩:=zbm h
 clear h
 obtain ⟨m,hm,h'⟩:=zbm h'
 replace hm:fI.all k l = some m:=hm
 replace h':fI.fin p1 p2 m = some r:=h'
 have hml:=fI.AO hm
 have HP:=aj.mk hp
 have HM:=aj.mk hm
 have HF:=aj.mk h'
 have HL:=aj.mk hml
 clear hp hm h' hml
 go_enter Tryz.func132,Tryz.ntmps132
 go_wp2_with (first
  | (go_at_call 112;refine (dF.calls _ _ _ _ _ _ _ _ HP.out).mono ?_;rintro e w1 ⟨v,rfl,hv,hb1⟩;obtain ⟨vA,vn,vc,rfl⟩:=aD.slc hv;obtain ⟨rfl,_,hcc⟩:=Kd.rG hv;have hmx:=aj.mk (Kd.acP hcc);clear hcc;have hv2:=aj.mk (Kd.fH hv (.cells #[.string p1,.string p2,.slice vA l.length vc] 191 (0,0)));have hb2:=aj.mk (ak hb1 (.cells #[.string p1,.string p2,.slice vA l.length vc] 191 (0,0)));have bk2:=aj.mk (vO w1 (.cells #[.string p1,.string p2,.slice vA l.length vc] 191 (0,0)));have hge:=aj.mk hb1.size;clear hv hb1))
 generalize hw1:w1.alloc (.cells #[.string p1,.string p2,.slice vA l.length vc] 191 (0,0)) = w2 at *
 generalize hg:w1.heap.size = g at *
 clear hw1 hg
 go_loopw [18] (fun v18 wr=>∃ (j:Nat) (cur:List ByteArray),v18 = .int .i64 j ∧ j ≤ l.length ∧ aj (cur.length = l.length ∧ ∃ mm,fI.all k (cur.drop j) = some mm ∧ m = cur.take j ++ mm) ∧ aj (wr.heap[g]? = some (.cells #[.string p1,.string p2,.slice vA l.length vc] 191 (0,0))) ∧ aj (Kd.R Kd.string 9 wr w.heap.size (fun _=>True) (.slice vA l.length vc) cur) ∧ aj (Below w.heap.size w wr)) (fun v18 _=>l.length - (intOf v18).toNat)
 case atStart=>exact ⟨0,l,rfl,amn _,⟨rfl,m,HM.out,rfl⟩,bk2,hv2,hb2⟩
 case round =>
  clear HM hv2 hb2 bk2
  obtain ⟨j,cur,rfl,hj,hc,bk,hR,hB⟩:=hrel
  by_cases hlt:j < l.length
  ·obtain ⟨hcl,mm,hmm,hmt⟩:=hc.out
   have hjc:j < cur.length:=by omega
   rw [ani hjc,fI.all] at hmm
   obtain ⟨y,hy,hmm⟩:=zbm hmm
   obtain ⟨m',hm',hmm⟩:=zbm hmm
   obtain rfl:mm = y :: m':=(al0 hmm).symm
   have hnew:=aj.mk (show (cur.set j y).length = l.length ∧ ∃ mm,fI.all k ((cur.set j y).drop (j + 1)) = some mm ∧ m = (cur.set j y).take (j + 1) ++ mm from by
    refine ⟨by rw [anj];exact hcl,m',?_,?_⟩
    ·rw [List.drop_set_of_lt (by omega)];exact hm'
    ·have e:(cur.set j y).take (j + 1) = cur.take j ++ [y]:=by
      rw [List.take_succ_eq_append_getElem (by rw [anj];exact hjc),List.getElem_set_self,List.take_set_of_le (alC j)]
     rw [hmt,e,amt];rfl)
   obtain ⟨gr,cap,e0,_,_,cells,hcells⟩:=Kd.YZ hR.out (by omega)
   injection e0 with e1 e2 e3
   subst e1 e3
   have hne:=aj.mk (show g ≠ gr from YU bk.out hcells (by decide))
   have hxc:=Kd.Er ByteArray.empty hR.out (j:Int) (by omega) (by omega)
   have hxe:rE ByteArray.empty cur (j:Int) = cur[j]:=by
    unfold rE
    rw [Int.toNat_natCast,al8,alT hjc]
    rfl
   rw [hxe,Int.toNat_natCast] at hxc
   have HY:=aj.mk hy
   have c0:=hxc.1
   have c1:=(dF.facts bk.out).1.2.2
   have hlt2:=aj.mk hlt
   have p0:(0 ≤ (j:Int)) = True:=alH (by omega)
   have q0:((j:Int) < (l.length:Int)) = True:=alH (by omega)
   generalize cur[j] = x at *
   clear hmm hm' hmt hy hxe hxc hcells hc e2 hlt hjc hcl
   go_wp2
   go_region_with (first | (go_at_call 68;refine (ou.calls _ _ _ _ HY.out).mono ?_;rintro e w3 ⟨rfl,hb3⟩;have bk3:=eO (aK bk.out) hb3;have hR3:=Kd.kU (Kd.gL hR.out) hb3;have hB3:=aj.mk ((jY hB.out).trans (hb3.mono hB.out.size));have d0:=(Kd.Er ByteArray.empty hR3 (j:Int) (by omega) (by have:=hlt2.out;omega)).1;have d1:=(Kd.Er ByteArray.empty hR3 (j:Int) (by omega) (by have:=hlt2.out;omega)).2;rw [Int.toNat_natCast] at d0 d1;have d2:=(dF.facts bk3).1.2.2;have bk3:=aj.mk bk3;have hR3:=aj.mk hR3;clear hb3))
   all_goals
    have hfin:=Kd.Y1 hR3.out (j:Int) y
    rw [Int.toNat_natCast] at hfin
    have bk4:=aj.mk (qy (p:=⟨gr,j,none⟩) bk3.out hne.out (.string y))
    have hR4:=aj.mk hfin.1
    have hB4:=aj.mk (hB3.out.grown hfin.2 hB3.out.size (fun k e=>by cases e;exact Kd.YX hR3.out gr rfl))
    clear hfin
    generalize w3.setCell ⟨gr,j,none⟩ (.string y) = w4 at *
    clear c0 c1 d0 d1 d2 p0 q0
    have hw:=(show wrap64 ((j:Int) + 1) = ((j + 1:Nat):Int) from by have hlt:=hlt2.out;have hm9:=hmx.out;rw [B.iC (by omega) (by omega)];omega)
    have hw:=aj.mk hw
    go_wp2
    go_roundw
    case rel=>have hlt:=hlt2.out;have hm9:=hmx.out;exact ⟨j + 1,cur.set j y,by rw [hw.out],hlt2.out,hnew,bk4,hR4,hB4⟩
    case measure=>have hlt:=hlt2.out;have hm9:=hmx.out;rw [hw.out];simp only [intOf];omega
  ·obtain rfl:j = l.length:=by omega
   have hcm:m = cur:=by
    obtain ⟨hcl,mm,hmm,hmt⟩:=hc.out
    rw [← hcl,List.drop_length] at hmm
    cases hmm
    rw [hmt,← hcl,al3,amC]
   subst hcm
   have q0:((l.length:Int) < (l.length:Int)) = False:=eq_false (by omega)
   obtain ⟨⟨k0,k1,k2⟩,_,_,_⟩:=dF.facts bk.out
   have hF:=HF.out
   unfold fI.fin at hF
   by_cases z1:p1.size + (strings_Join.cat m).size + p2.size ≤ 140737488355328
   ·rw [alx z1] at hF
    by_cases z2:m.length ≤ 1000000
    ·rw [alx z2] at hF
     obtain rfl:=al0 hF
     have z1:=aj.mk z1
     have z2:=aj.mk z2
     clear hF HF
     go_wp2_with (first
      | (go_at_call 147;refine (jl.calls _ _ _ m _ _ _ hR.out z2.out z1.out).mono ?_;rintro e w4 ⟨rfl,hb4⟩;have hB4:=aj.mk (hB.out.trans (hb4.mono hB.out.size));clear hb4))
     go_ret
     exact ⟨rfl,hB4.out⟩
    ·rw [aly z2] at hF;cases hF
   ·rw [aly z1] at hF;cases hF
def oD.f (k:Nat) (a0:Int) (a1:ByteArray):Option (List ByteArray):=(dF.f k a0 a1).bind fun QL=>(some QL.2.2.1)
theorem oD.calls (k:Nat) (a0:Int) (a1:ByteArray) (r:List ByteArray) (w:World) (h:oD.f k a0 a1 = some r) :
  Calls Tryz.prog 81 #[.int .i64 a0,.string a1] w fun e w'=>∃ Qp:Value,e = .returned (Qp) ∧ Kd.R Kd.string 9 w' w.heap.size (fun _=>True) Qp r ∧ Below w.heap.size w w':=by
 have adA:=Tryz.underlying191
 have HB:=aj.mk (Below.refl w.heap.size w)
 have H:((dF.f k a0 a1).bind fun QL=>(some QL.2.2.1)) = some r:=h
 clear h
 replace H:=zbm H
 obtain ⟨⟨adM,adN,Zk,t138⟩,QD,H⟩:=H
 replace H:(some Zk) = some r:=H
 have A3:=aj.mk QD
 clear QD
 obtain rfl:=al0 H
 go_enter Tryz.func81,Tryz.ntmps81
 go_wp2_with (first | ((with_reducible refine aQ (f:=112) rfl ?_);refine bW (some 10) rfl rfl Tryz.func112 (by kernel_rfl) rfl #[.int .i64 a0,.string a1] rfl (by (try simp only [alJ,alD,alE]) <;> rfl) ?_;(with_reducible refine (dF.calls k a0 a1 adM adN Zk t138 _ A3.out).mono ?_);rintro e w4 ⟨aln,rfl,ho0,hb⟩;refine ⟨_,rfl,?_⟩;have fJ:=aj.mk (Kd.sI ho0 (cB (by repeat first | exact HB.out | apply ak | apply ah | apply au)));have jr:=aj.mk (bP (by repeat first | exact HB.out | apply ak | apply ah | apply au) hb);clear HB;have G8:=fJ;have HB:=jr;clear fJ jr;(try clear hb);(try clear hb2);(try clear hk);(try clear hi);(try clear ho0)) | ((with_reducible refine j3 (N:=5) rfl ?_);refine jh ?hg (N:=5) ?hd (cs:=#[.string (⟨#[]⟩:ByteArray),.string (⟨#[]⟩:ByteArray),.slice none 0 0]) (t:=191) ?hr ?_;(case hd=>rfl);(case hg=>rfl);(case hr=>first | (go_simp;done) | (go_simp;rfl));intro yg hg w5 kQ hb;have fJ:=aj.mk (Kd.kU (by (with_reducible repeat (first | apply Kd.fH | apply Kd.gB | apply Kd.gL));exact G8.out) hb);have jr:=aj.mk (bP (by repeat first | exact HB.out | apply ak | apply ah | apply au) hb);have l6:=aj.mk (kQ);have ni:=aj.mk ((by rw [hg];exact (cB (by repeat first | exact HB.out | apply ak | apply ah | apply au)):w.heap.size ≤ yg));have qQ:=aj.mk ((by rw [hg];exact (cB (by repeat first | exact HB.out | apply ak | apply ah | apply au)):w.heap.size ≤ yg));clear G8;clear HB;have G8:=fJ;have HB:=jr;have AP:=l6;have akM:=ni;have adO:=qQ;clear fJ jr l6 ni qQ;clear hb kQ hg;have aiO:w5.cell? ⟨yg,0,none⟩ = some (.string (⟨#[]⟩:ByteArray)):=(aX AP.out 0).trans rfl;have aiP:w5.cell? ⟨yg,1,none⟩ = some (.string (⟨#[]⟩:ByteArray)):=(aX AP.out 1).trans rfl;have aiQ:w5.cell? ⟨yg,2,none⟩ = some (.slice none 0 0):=(aX AP.out 2).trans rfl;have aiR:=aJ AP.out 0;have aiS:=aJ AP.out 1;have aiT:=aJ AP.out 2;obtain ⟨Ao7,co7,eo7⟩:=Kd.vP G8.out;subst eo7))
 go_ret
 exact ⟨_,by first | rfl | (simp [aM,aN] <;> rfl) | (simp [*,aM,aN] <;> rfl),by (with_reducible repeat (first | apply Kd.fH | apply Kd.gB | apply Kd.gL));exact Kd.qz (Kd.qI (p:=⟨yg,2,none⟩) (Kd.qI (p:=⟨yg,1,none⟩) (Kd.qI (p:=⟨yg,0,none⟩) (Kd.sJ G8.out AP.out (by decide)) (fun _ hk=>hk.2) (.string adM)) (fun _ hk=>hk.2) (.string adN)) (fun _ hk=>hk.2) (.slice Ao7 Zk.length co7)) (fun _ hk=>trivial),by repeat (first | (with_reducible first | exact HB.out | apply ak | apply ah | apply au | refine aT ?_ adO.out) | exact HB.out)⟩
end
section
open Go.RowKit Go.Proofs.YtfokaoeinpnagaaGreatW.bI Go.Proofs.YtfokaoeinpnagaaGreatW.eF Go.Proofs.YtfokaoeinpnagaaGreatW.fK
attribute [local go_sem] j4 j5 lS lT ji jk j6 kg
theorem Zl (d:Nat) (w:World) (x0 y0:Int) (x1 y1:Int) (x2 y2:Int) :
  (Op.equalIn (d + 2) 198 (.agg #[.int .i64 x0,.int .i64 x1,.int .i64 x2]) (.agg #[.int .i64 y0,.int .i64 y1,.int .i64 y2])).run Tryz.prog w = .ok (x0 == y0 && (x1 == y1 && (x2 == y2))) w:=by
 refine B.Qj Tryz.underlying198 (by kernel_rfl) (by kernel_rfl) ?_
 show (Op.eqItems _ 3 1 _ _ [0,1,2]).run _ _ = _
 refine B.GH (by go_simp;rfl) (by go_simp;rfl) (by go_simp) ?_
 refine B.GH (by go_simp;rfl) (by go_simp;rfl) (by go_simp) ?_
 exact B.Qi (by go_simp;rfl) (by go_simp;rfl) (by go_simp)
end
end Go.Proofs.YtfokaoeinpnagaaGreat.ZQ

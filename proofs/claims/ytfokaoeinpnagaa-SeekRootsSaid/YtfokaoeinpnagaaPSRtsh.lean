/- A part of the proof of SeekRoots: cut, joined and given short names by a program of this session (wip/tools/pack.py); Lean checks it. No condition. -/
import Derived.Test.YtfokaoeinpnagaaPSRtsg
import Derived.WalkSpells
import Derived.Lib.Builder
import Derived.Lib.AppendStr
import Derived.Lib.UnsafeStr
import Derived.Test.YtfokaoeinpnagaaProg
import Derived.Shelf.Strings.OnBuilder
import Derived.KernelRfl
import Derived.Laws.Externs
import Derived.LaidEqlPtr
import Derived.WideMake
import Derived.WalkKit
import Derived.Below
import Derived.Test.YtfokaoeinpnagaaPSRtsd
set_option linter.unusedSectionVars false
set_option linter.unusedSimpArgs false
set_option linter.unusedVariables false
set_option maxHeartbeats 16000000
set_option maxRecDepth 100000
namespace Go.Proofs.Ytfokaoeinpnagaa.ZQ
section
open Go.RowKit Go.Proofs.YtfokaoeinpnagaaW.aR Go.Proofs.YtfokaoeinpnagaaW.dD Go.Proofs.YtfokaoeinpnagaaW.eB
attribute [local go_sem] jD jE kN kP iV iW jF jG
mutual
def aC.j0 : Nat → ByteArray → List ByteArray → Bool → Option (List ByteArray × Bool)
 | 0,_,_,_=>none
 | k + 1,x0,x4,x14=>if x14 = true then (some (([]:List ByteArray),false)) else (aC.l0 k x0 x4 0)
def aC.l0 : Nat → ByteArray → List ByteArray → Int → Option (List ByteArray × Bool)
 | 0,_,_,_=>none
 | k + 1,x0,x4,x5=>if x5 < (x0.size:Int) then (if 0 ≤ x5 then (if (wrap64 (bt x0 x5)) = 0 then (some (x4,(x5 == (wrap64 ((x0.size:Int) - 1))))) else (if (wrap64 (bt x0 x5)) > 63 then (some (([]:List ByteArray),false)) else (if (wrap64 (bt x0 x5)) ≥ (wrap64 ((x0.size:Int) - x5)) then (some (([]:List ByteArray),false)) else (if 0 ≤ (wrap64 (x5 + 1)) then (if (wrap64 (x5 + 1)) ≤ (wrap64 ((wrap64 (x5 + 1)) + (wrap64 (bt x0 x5)))) then (if (wrap64 ((wrap64 (x5 + 1)) + (wrap64 (bt x0 x5)))) ≤ (x0.size:Int) then (if x4.length < 8796093022208 then (aC.l0 k x0 (x4 ++ [x0.extract ((wrap64 (x5 + 1)):Int).toNat ((wrap64 ((wrap64 (x5 + 1)) + (wrap64 (bt x0 x5)))):Int).toNat]) (wrap64 ((wrap64 (x5 + 1)) + (wrap64 (bt x0 x5))))) else (none)) else (none)) else (none)) else (none))))) else (none)) else (some (([]:List ByteArray),false))
end
def aC.f (k:Nat) (a0:ByteArray):Option (List ByteArray × Bool):=if (a0.size:Int) < 1 then (aC.j0 k a0 ([]:List ByteArray) true) else (aC.j0 k a0 ([]:List ByteArray) (decide ((a0.size:Int) > 255)))
theorem aC.calls (k:Nat) (a0:ByteArray) (r1:List ByteArray) (r2:Bool) (w:World) (h:aC.f k a0 = some (r1,r2)) :
  Calls Try.prog 46 #[.string a0] w fun e w'=>∃ SY:Value,e = .returned (.tuple #[SY,.bool r2]) ∧ Kd.R Kd.string 9 w' w.heap.size (fun _=>True) SY r1 ∧ Below w.heap.size w w':=by
 have HB:=ah.mk (Below.refl w.heap.size w)
 have H:(if (a0.size:Int) < 1 then (aC.j0 k a0 ([]:List ByteArray) true) else (aC.j0 k a0 ([]:List ByteArray) (decide ((a0.size:Int) > 255)))) = some (r1,r2):=h
 clear h
 have HC2:=ah.mk H
 clear H
 go_enter Try.func46,Try.ntmps46
 go_upto_region 2 with (fail)
 go_cut [14] (fun v14 wc=>∃ (kq:Nat) (Ia:Bool),v14 = .bool Ia ∧ ah (aC.j0 kq a0 ([]:List ByteArray) Ia = some (r1,r2)) ∧ ah (kq ≤ k) ∧ ah (Kd.R Kd.string 9 wc w.heap.size (fun _=>True) (.slice none 0 0) ([]:List ByteArray)) ∧ ah (Below w.heap.size w wc))
 case first =>
  have H:=HC2.out
  clear HC2
  by_cases c3:(a0.size:Int) < 1
  ·rw [ahC c3] at H
   have uH:decide ((a0.size:Int) < 1) = true:=ahE c3
   have Gb:decide (a0.size < 1) = true:=ahE (by omega)
   clear c3
   (first | rw [uH] | rw [Ni] | (simp only [gY,iQ];rw [uH]) | skip)
   have H':=ah.mk H
   clear H
   go_wp2
   go_meet
   case rel=>exact ⟨_,(true),(by first | rfl | (simp;done) | (simp [*];done) | (simp [B.dN];done) | (simp [B.dO];done)),H',⟨by first | omega | exact ahG _⟩,⟨by first | exact Kd.jR _ _ _ _ _ | exact Kd.mq _ _ _ _ _ | exact Kd.mD _ _ _ _ _ | exact Kd.l9 _ _ _ _ _ | exact Kd.mh _ _ _ _ _⟩,⟨by repeat (first | exact HB.out | apply ak | apply aj | apply av)⟩⟩
  ·rw [ahD c3] at H
   have uH:decide ((a0.size:Int) < 1) = false:=ahH c3
   have Gb:decide (a0.size < 1) = false:=ahH (by omega)
   clear c3
   (first | rw [uH] | rw [Ni] | (simp only [gY,iQ];rw [uH]) | skip)
   have H':=ah.mk H
   clear H
   go_wp2
   go_meet
   case rel=>exact ⟨_,(decide ((a0.size:Int) > 255)),(by first | rfl | (simp;done) | (simp [*];done) | (simp [B.dN];done) | (simp [B.dO];done)),H',⟨by first | omega | exact ahG _⟩,⟨by first | exact Kd.jR _ _ _ _ _ | exact Kd.mq _ _ _ _ _ | exact Kd.mD _ _ _ _ _ | exact Kd.l9 _ _ _ _ _ | exact Kd.mh _ _ _ _ _⟩,⟨by repeat (first | exact HB.out | apply ak | apply aj | apply av)⟩⟩
 case rest =>
  clear HC2
  try clear p2
  try clear c3
  try clear uH
  try clear Gb
  try clear Ni
  obtain ⟨kq,Ia,rfl,HA,HJ1,qD,HB⟩:=hcut
  cases kq with
  | zero=>exact absurd HA.out (by simp [aC.j0])
  | succ kj1 =>
   have H:=HA.out
   clear HA
   simp only [aC.j0] at H
   by_cases c4:Ia = true
   ·subst c4
    have H1:(some (([]:List ByteArray),false)) = some (r1,r2):=by rw [ahC rfl] at H;exact H
    clear H
    have H:=H1
    clear H1
    simp only [ahP,ahU] at H
    obtain ⟨rfl,rfl⟩:=H
    go_wp2
    go_ret2
    exact ⟨_,by first | rfl | (simp [aY,aZ] <;> rfl) | (simp [*,aY,aZ] <;> rfl),by first | exact Kd.jR _ _ _ _ _ | exact Kd.mq _ _ _ _ _ | exact Kd.mD _ _ _ _ _ | exact Kd.l9 _ _ _ _ _ | exact Kd.mh _ _ _ _ _,by repeat (first | exact HB.out | apply ak | apply aj | apply av)⟩
   ·replace c4:=aiB.mpr c4
    subst c4
    have H1:(aC.l0 kj1 a0 ([]:List ByteArray) 0) = some (r1,r2):=by rw [ahD (show ¬ (false = true) by decide)] at H;exact H
    clear H
    have H:=H1
    clear H1
    have H':=ah.mk H
    clear H
    go_wp2
    go_loopg [4,5] kj1 (fun kq v4 v5 w'=>∃ (Eo:List ByteArray) (eT:Int),v5 = .int .i64 eT ∧ ah (aC.l0 kq a0 Eo eT = some (r1,r2)) ∧ ah (kq ≤ kj1) ∧ ah (Kd.R Kd.string 9 w' w.heap.size (fun _=>True) v4 Eo) ∧ ah (Below w.heap.size w w'))
    case atStart=>exact ⟨(([]:List ByteArray)),(0),(by first | rfl | (simp;done) | (simp [*];done) | (simp [B.dN];done) | (simp [B.dO];done)),H',⟨ahG _⟩,⟨by (with_reducible repeat (first | apply Kd.fV | apply Kd.gN | apply Kd.gU));exact qD.out⟩,⟨by repeat (first | exact HB.out | apply ak | apply aj | apply av)⟩⟩
    case round =>
     clear H'
     try clear p2
     try clear c3
     try clear uH
     try clear Gb
     try clear Ni
     try clear c4
     try clear p2
     obtain ⟨Eo,eT,rfl,HA,HK2,qD,HB⟩:=hrel
     cases gk with
     | zero=>exact absurd HA.out (by simp [aC.l0])
     | succ k2 =>
      have H:=HA.out
      clear HA
      simp only [aC.l0] at H
      by_cases c5:eT < (a0.size:Int)
      ·rw [ahC c5] at H
       have JF:decide (eT < (a0.size:Int)) = true:=ahE c5
       clear c5
       by_cases c6:0 ≤ eT
       ·rw [ahC c6] at H
        have F9:decide (0 ≤ eT) = true:=ahE c6
        clear c6
        by_cases c8:(wrap64 (bt a0 eT)) = 0
        ·rw [ahC c8] at H
         have JB:((wrap64 (bt a0 eT)) == 0) = true:=aie.mpr c8
         have JC:((wrap64 (bt a0 eT)) != 0) = false:=aje.mpr c8
         (try (have aeY:(((bt a0 eT)) == 0) = true:=by have h_:((wrap64 (bt a0 eT)) == 0) = true:=aie.mpr c8;rw [B.jH (by omega) (by omega)] at h_;exact h_))
         (try (have aeZ:(((bt a0 eT)) != 0) = false:=by have h_:((wrap64 (bt a0 eT)) != 0) = false:=aje.mpr c8;rw [B.jH (by omega) (by omega)] at h_;exact h_))
         clear c8
         simp only [ahP,ahU] at H
         obtain ⟨rfl,rfl⟩:=H
         have p7:0 ≤ (eT:Int):=ahY (by first | (with_reducible assumption) | assumption)
         have q7:eT < (a0.size:Int):=ahY (by first | (with_reducible assumption) | assumption)
         have hx7:=oH a0 eT
         replace p7:=ahM p7
         replace q7:=ahM q7
         go_wp2
         go_ret2
         exact ⟨_,by first | rfl | (simp [aY,aZ] <;> rfl) | (simp [*,aY,aZ] <;> rfl),by (with_reducible repeat (first | apply Kd.fV | apply Kd.gN | apply Kd.gU));exact qD.out,by repeat (first | exact HB.out | apply ak | apply aj | apply av)⟩
        ·rw [ahD c8] at H
         have JB:((wrap64 (bt a0 eT)) == 0) = false:=aiH.mpr c8
         have JC:((wrap64 (bt a0 eT)) != 0) = true:=aiV.mpr c8
         (try (have aeY:(((bt a0 eT)) == 0) = false:=by have h_:((wrap64 (bt a0 eT)) == 0) = false:=aiH.mpr c8;rw [B.jH (by omega) (by omega)] at h_;exact h_))
         (try (have aeZ:(((bt a0 eT)) != 0) = true:=by have h_:((wrap64 (bt a0 eT)) != 0) = true:=aiV.mpr c8;rw [B.jH (by omega) (by omega)] at h_;exact h_))
         by_cases c9:(wrap64 (bt a0 eT)) > 63
         ·rw [ahC c9] at H
          have Ga:decide (63 < (wrap64 (bt a0 eT))) = true:=ahE c9
          (try (have Nb:decide (63 < ((bt a0 eT))) = true:=by have h_:decide (63 < (wrap64 (bt a0 eT))) = true:=ahE c9;rw [B.jH (by omega) (by omega)] at h_;exact h_))
          clear c9
          simp only [ahP,ahU] at H
          obtain ⟨rfl,rfl⟩:=H
          have p7:0 ≤ (eT:Int):=ahY (by first | (with_reducible assumption) | assumption)
          have q7:eT < (a0.size:Int):=ahY (by first | (with_reducible assumption) | assumption)
          have hx7:=oH a0 eT
          replace p7:=ahM p7
          replace q7:=ahM q7
          go_wp2
          go_ret2
          exact ⟨_,by first | rfl | (simp [aY,aZ] <;> rfl) | (simp [*,aY,aZ] <;> rfl),by first | exact Kd.jR _ _ _ _ _ | exact Kd.mq _ _ _ _ _ | exact Kd.mD _ _ _ _ _ | exact Kd.l9 _ _ _ _ _ | exact Kd.mh _ _ _ _ _,by repeat (first | exact HB.out | apply ak | apply aj | apply av)⟩
         ·rw [ahD c9] at H
          have Ga:decide (63 < (wrap64 (bt a0 eT))) = false:=ahH c9
          (try (have Nb:decide (63 < ((bt a0 eT))) = false:=by have h_:decide (63 < (wrap64 (bt a0 eT))) = false:=ahH c9;rw [B.jH (by omega) (by omega)] at h_;exact h_))
          clear c9
          by_cases c10:(wrap64 (bt a0 eT)) ≥ (wrap64 ((a0.size:Int) - eT))
          ·rw [ahC c10] at H
           have En:decide ((wrap64 ((a0.size:Int) - eT)) ≤ (wrap64 (bt a0 eT))) = true:=ahE c10
           (try (have H9:decide ((((a0.size:Int) - eT)) ≤ ((bt a0 eT))) = true:=by have h_:decide ((wrap64 ((a0.size:Int) - eT)) ≤ (wrap64 (bt a0 eT))) = true:=ahE c10;rw [B.jH (by omega) (by omega)] at h_;rw [B.jH (by omega) (by omega)] at h_;exact h_))
           clear c10
           simp only [ahP,ahU] at H
           obtain ⟨rfl,rfl⟩:=H
           have p7:0 ≤ (eT:Int):=ahY (by first | (with_reducible assumption) | assumption)
           have q7:eT < (a0.size:Int):=ahY (by first | (with_reducible assumption) | assumption)
           have hx7:=oH a0 eT
           replace p7:=ahM p7
           replace q7:=ahM q7
           go_wp2
           go_ret2
           exact ⟨_,by first | rfl | (simp [aY,aZ] <;> rfl) | (simp [*,aY,aZ] <;> rfl),by first | exact Kd.jR _ _ _ _ _ | exact Kd.mq _ _ _ _ _ | exact Kd.mD _ _ _ _ _ | exact Kd.l9 _ _ _ _ _ | exact Kd.mh _ _ _ _ _,by repeat (first | exact HB.out | apply ak | apply aj | apply av)⟩
          ·rw [ahD c10] at H
           have En:decide ((wrap64 ((a0.size:Int) - eT)) ≤ (wrap64 (bt a0 eT))) = false:=ahH c10
           (try (have H9:decide ((((a0.size:Int) - eT)) ≤ ((bt a0 eT))) = false:=by have h_:decide ((wrap64 ((a0.size:Int) - eT)) ≤ (wrap64 (bt a0 eT))) = false:=ahH c10;rw [B.jH (by omega) (by omega)] at h_;rw [B.jH (by omega) (by omega)] at h_;exact h_))
           clear c10
           obtain ⟨lJ,Ib⟩:∃ j_:Int,(wrap64 (eT + 1)) = j_:=⟨_,rfl⟩
           replace H:(if 0 ≤ (lJ) then (if (lJ) ≤ (wrap64 ((lJ) + (wrap64 (bt a0 eT)))) then (if (wrap64 ((lJ) + (wrap64 (bt a0 eT)))) ≤ (a0.size:Int) then (if Eo.length < 8796093022208 then (aC.l0 k2 a0 (Eo ++ [a0.extract ((lJ):Int).toNat ((wrap64 ((lJ) + (wrap64 (bt a0 eT)))):Int).toNat]) (wrap64 ((lJ) + (wrap64 (bt a0 eT))))) else (none)) else (none)) else (none)) else (none)) = some (r1,r2):=by first | (rw [Ib] at H;exact H) | (simp only [Ib] at H ⊢;exact H)
           have ae0:(IntKind.i64.wrap (eT + 1)) = lJ:=(gY _).trans Ib
           by_cases c12:0 ≤ (lJ)
           ·rw [ahC c12] at H
            have Ta:=ahM c12
            have Tc:decide (0 ≤ (lJ)) = true:=ahE c12
            clear c12
            by_cases c13:(lJ) ≤ (wrap64 ((lJ) + (wrap64 (bt a0 eT))))
            ·rw [ahC c13] at H
             have agz:=ahM c13
             have agA:decide ((lJ) ≤ (wrap64 ((lJ) + (wrap64 (bt a0 eT))))) = true:=ahE c13
             by_cases c14:(wrap64 ((lJ) + (wrap64 (bt a0 eT)))) ≤ (a0.size:Int)
             ·rw [ahC c14] at H
              have agB:=ahM c14
              have agC:decide ((wrap64 ((lJ) + (wrap64 (bt a0 eT)))) ≤ (a0.size:Int)) = true:=ahE c14
              by_cases c15:Eo.length < 8796093022208
              ·rw [ahC c15] at H
               have aaB:=ah.mk c15
               clear c15
               obtain ⟨aaC,Ep⟩:∃ y_:List ByteArray,y_ = (Eo ++ [a0.extract ((lJ):Int).toNat ((wrap64 ((lJ) + (wrap64 (bt a0 eT)))):Int).toNat]):=⟨_,rfl⟩
               replace H:(aC.l0 k2 a0 aaC (wrap64 ((lJ) + (wrap64 (bt a0 eT))))) = some (r1,r2):=by first | (rw [Ep];with_reducible exact H) | (have Nc:=(Option.bind_some _ _).symm.trans H;rw [Ep];with_reducible exact Nc) | (have Nc:=(Option.bind_some _ _).symm.trans H;with_reducible exact Nc) | with_reducible exact H | (rw [Ep];exact H) | exact H
               have aaD:=ah.mk Ep
               clear Ep
               have H':=ah.mk H
               clear H
               have p7:0 ≤ (eT:Int):=ahY (by first | (with_reducible assumption) | assumption)
               have q7:eT < (a0.size:Int):=ahY (by first | (with_reducible assumption) | assumption)
               have hx7:=oH a0 eT
               replace p7:=ahM p7
               replace q7:=ahM q7
               go_wp2_with (first | ((with_reducible refine tu (b:=.append) (xs:=#[.tmp 41,.tmp 50]) rfl ?_);(try (refine F8 (by rfl) ?_;dsimp only));at_builtin;refine Kd.Ed Kd.string (w0:=w) w.heap.size rfl (.tmp 41) (.tmp 50) 25 9 (.string ⟨#[]⟩) 16 rfl Try.underlying25 M9 rfl (by decide) (by omega) u4 Eo (a0.extract ((lJ):Int).toNat ((wrap64 ((lJ) + (wrap64 (bt a0 eT)))):Int).toNat) [.string (a0.extract ((lJ):Int).toNat ((wrap64 ((lJ) + (wrap64 (bt a0 eT)))):Int).toNat)] (fun _=>True) (fun _=>False) rfl rfl ?aP (fun _ hk=>hk.elim) ?aF ?aO ?aB ?aS ?aL ?_;(case aP=>exact rfl);(case aB=>exact (by repeat first | exact HB.out | apply ak | apply aj | apply av));(case aF=>exact (fun _ _=>trivial));(case aO=>exact (by (with_reducible repeat (first | apply Kd.fV | apply Kd.gN | apply Kd.gU));exact qD.out));(case aS=>exact (dJ (by repeat first | exact HB.out | apply ak | apply aj | apply av)));(case aL=>have:=aaB.out;omega);intro ahs w16 ho hb hg hat;rw [← aaD.out] at ho;have iH:=ah.mk (hb);have ko:=ah.mk (ho);clear HB;clear qD;have HB:=iH;have aaE:=ko;clear iH ko;clear ho hb hg hat))
               go_roundg k2
               case measure=>have:=HJ1.out;have:=HK2.out;omega
               case rel=>exact ⟨(aaC),(wrap64 ((lJ) + (wrap64 (bt a0 eT)))),(by first | rfl | (simp;done) | (simp only [← Ib] <;> (first | rfl | simp)) | (simp [*];done)),H',⟨by have:=HJ1.out;have:=HK2.out;omega⟩,⟨by (with_reducible repeat (first | apply Kd.fV | apply Kd.gN | apply Kd.gU));exact aaE.out⟩,⟨by repeat (first | exact HB.out | apply ak | apply aj | apply av)⟩⟩
              ·rw [ahD c15] at H
               exact absurd H (by simp)
             ·rw [ahD c14] at H
              exact absurd H (by simp)
            ·rw [ahD c13] at H
             exact absurd H (by simp)
           ·rw [ahD c12] at H
            exact absurd H (by simp)
       ·rw [ahD c6] at H
        exact absurd H (by simp)
      ·rw [ahD c5] at H
       have JF:decide (eT < (a0.size:Int)) = false:=ahH c5
       clear c5
       simp only [ahP,ahU] at H
       obtain ⟨rfl,rfl⟩:=H
       go_wp2
       go_ret2
       exact ⟨_,by first | rfl | (simp [aY,aZ] <;> rfl) | (simp [*,aY,aZ] <;> rfl),by first | exact Kd.jR _ _ _ _ _ | exact Kd.mq _ _ _ _ _ | exact Kd.mD _ _ _ _ _ | exact Kd.l9 _ _ _ _ _ | exact Kd.mh _ _ _ _ _,by repeat (first | exact HB.out | apply ak | apply aj | apply av)⟩
def fO.f (k:Nat) (a0:ByteArray):Option (Bool):=(aC.f k a0).bind fun Nj=>(some Nj.2)
theorem fO.calls (k:Nat) (a0:ByteArray) (r:Bool) (w:World) (h:fO.f k a0 = some r) :
  Calls Try.prog 24 #[.string a0] w fun e w'=>e = .returned (.bool r) ∧ Below w.heap.size w w':=by
 have HB:=ah.mk (Below.refl w.heap.size w)
 have H:((aC.f k a0).bind fun Nj=>(some Nj.2)) = some r:=h
 clear h
 replace H:=zbm H
 obtain ⟨⟨ae1,aaF⟩,Ng,H⟩:=H
 replace H:(some aaF) = some r:=H
 have A2:=ah.mk Ng
 clear Ng
 obtain rfl:=aia H
 go_enter Try.func24,Try.ntmps24
 go_wp2_with (first | ((with_reducible refine eG (f:=46) rfl ?_);refine jP (some 7) rfl rfl Try.func46 (by kernel_rfl) rfl #[.string a0] rfl (by (try simp only [aix,ahO,ahV]) <;> rfl) ?_;(with_reducible refine (aC.calls k a0 ae1 aaF _ A2.out).mono ?_);rintro e w3 ⟨aht,rfl,ho0,hb⟩;refine ⟨_,rfl,?_⟩;have iH:=ah.mk (Kd.sS ho0 (dJ (by repeat first | exact HB.out | apply ak | apply aj | apply av)));have ko:=ah.mk (dA (by repeat first | exact HB.out | apply ak | apply aj | apply av) hb);clear HB;have agD:=iH;have HB:=ko;clear iH ko;(try clear hb);(try clear hb2);(try clear hk);(try clear hi);(try clear ho0)))
 go_ret
 exact ⟨by first | rfl | (simp [aY,aZ] <;> rfl) | (simp [*,aY,aZ] <;> rfl),by repeat (first | exact HB.out | apply ak | apply aj | apply av)⟩
end
section
open Go.RowKit Go.Proofs.YtfokaoeinpnagaaW.aR Go.Proofs.YtfokaoeinpnagaaW.dD Go.Proofs.YtfokaoeinpnagaaW.eB Go.Proofs.Ytfokaoeinpnagaa.B
theorem jT {n:ByteArray}:n.toList = ([0]:List UInt8) ↔ n = root:=by
 have:root.toList = ([0]:List UInt8):=by rw [Lib.toList_data];rfl
 rw [← this,toList_inj]
theorem Nk (d:Nat):∀ (k:Nat) (n:ByteArray) (acc:List ByteArray),n.size ≤ d → 1 ≤ n.size → d ≤ 255 → acc.length + d ≤ 1000 → 2 * d + 2 ≤ k →
  bD.l0 k n acc = some (match jI n.size n with | some l=>(acc ++ l,true) | none=>([],false)):=by
 induction d with
 | zero=>intro k n acc h1 h2;omega
 | succ d ih =>
  intro k n acc h1 h2 h3 h4 hk
  obtain ⟨k,rfl⟩:∃ m,k = m + 2:=⟨k - 2,by omega⟩
  rw [bD.l0,ahC (by omega),bD.j1,xU h2]
  by_cases hr:n = root
  ·have hb:(n.toList != ([0]:List UInt8)) = false:=aje.mpr (jT.mpr hr)
   have hb2:(n.toList == ([0]:List UInt8)) = true:=aie.mpr (jT.mpr hr)
   rw [hb,ahD aiF,ahC hr,hb2]
   simp
  ·have hb:(n.toList != ([0]:List UInt8)) = true:=aiV.mpr fun h=>hr (jT.mp h)
   have hbr:=gB n 0
   rw [hb,ahC rfl,ahC (by omega),ahD hr,jH (n:=bt n 0) (by omega) (by omega),jH (n:=bt n 0 + 1) (by omega) (by omega),jH (n:=1 + bt n 0) (by omega) (by omega)]
   by_cases c1:bt n 0 < 1
   ·rw [ahC c1,ahD (by omega)]
   ·rw [ahD c1]
    by_cases c2:bt n 0 > 63
    ·rw [ahC c2,ahD (by omega)]
    ·rw [ahD c2]
     by_cases c3:bt n 0 + 1 ≥ (n.size:Int)
     ·rw [ahC c3,ahD (by omega)]
     ·rw [ahD c3,ahC (by omega),ahC (by omega),ahC (by omega),ahC (by omega),ahC (by omega)]
      have e:(1 + bt n 0).toNat = 1 + (bt n 0).toNat:=by omega
      rw [e,ih k _ _ (by rw [aib];omega) (by rw [aib];omega) (by omega) (by simp;omega) (by omega)]
      cases jI (n.extract (1 + (bt n 0).toNat) n.size).size (n.extract (1 + (bt n 0).toNat) n.size) with
      | none=>rfl
      | some l=>simp
def Cg (n:ByteArray):List ByteArray × Bool:=match q8 n with | some l=>(l,true) | none=>([],false)
theorem Nl (k:Nat) (hk:600 ≤ k) (n:ByteArray) (hs:n.size ≤ 1000000000):bD.f k n = some (Cg n):=by
 unfold bD.f Cg q8
 by_cases h:n.size ≤ 255
 ·rw [ahD (by omega),ahC h]
  by_cases h0:n.size = 0
  ·obtain ⟨k,rfl⟩:∃ m,k = m + 2:=⟨k - 2,by omega⟩
   have hb2:(n.toList == ([0]:List UInt8)) = false:=aiH.mpr fun h=>by rw [jT] at h;rw [h,iX] at h0;omega
   rw [bD.l0,ahD (by omega),bD.j1,ahD aiF,hb2,jI,ahC h0]
  ·rw [Nk 255 k n [] h (by omega) (by omega) (by simp) (by omega),xS 255 n h]
   simp
 ·rw [ahC (by omega),ahD h]
theorem Gc (n:ByteArray):(Cg n).2 = je n:=by
 unfold Cg je
 cases q8 n <;> rfl
theorem xY (k:Nat) (hk:600 ≤ k) (n:ByteArray) (hs:n.size ≤ 1000000000):fI.f k n = some (je n):=by
 unfold fI.f
 rw [Nl k hk n hs]
 simp only [Option.bind_some,Gc]
theorem aaG (k:Nat) (hk:600 ≤ k) (n:ByteArray) (hs:n.size ≤ 1000000000):tF.f k n = some (up n):=by
 unfold tF.f
 rw [xY k hk n hs]
 simp only [Option.bind_some]
 cases hn:je n with
 | false=>rw [ahD aiF,VP hn]
 | true =>
  rw [ahC rfl]
  obtain ⟨l,rfl,hok,hz⟩:=p9.mp hn
  cases l with
  | nil=>rw [ou,ahC (jT.mpr rfl),Qz]
  | cons x l =>
   have hx:=hok x (by simp)
   have hr:=u6 x l hx
   rw [ahD (fun h=>hr (jT.mp h)),VO hok hz]
   obtain ⟨hx1,hx2⟩:=hx
   rw [mG] at hz ⊢
   rw [kT] at hz
   have h1:=lI l
   rw [M7 (by omega),kT,ahC (by omega),jH (n:=(x.size:Int)) (by omega) (by omega),jH (n:=1 + (x.size:Int)) (by omega) (by omega),ahC (by omega),ahC (by omega)]
   have e:(1 + (x.size:Int)).toNat = 1 + x.size:=by omega
   have hc:=@Ej (x.size:Int) x (enc l)
   rw [kT] at hc
   rw [e,hc]
theorem VT (n:ByteArray) (hs:n.size ≤ 1000000000):iR.f n = some (kg n):=by unfold iR.f;rw [ahC (by omega)]
theorem Gd (a b:ByteArray):(a.toList == b.toList) = decide (a = b):=by
 rw [Bool.eq_iff_iff]
 simp only [aie,ahZ]
 exact toList_inj
theorem Nn (n:ByteArray):n.extract 0 n.size = n:=ajx
theorem JG (d:Nat):∀ (k:Nat) (n:ByteArray) (i:Nat) (acc:List ByteArray),i < n.size → n.size - i ≤ d → n.size ≤ 255 → acc.length + d ≤ 1000 → d + 2 ≤ k →
  ∃ o,aC.l0 k n acc i = some o ∧ (match jI (n.extract i n.size).size (n.extract i n.size) with | some l=>o = (acc ++ l,true) | none=>o.2 = false):=by
 induction d with
 | zero=>intro k n i acc h1 h2;omega
 | succ d ih =>
  intro k n i acc h1 h2 h3 h4 hk
  obtain ⟨k,rfl⟩:∃ m,k = m + 1:=⟨k - 1,by omega⟩
  have hz:(n.extract i n.size).size = n.size - i:=by rw [aib];omega
  have hb:bt (n.extract i n.size) 0 = bt n i:=by
   rw [mE (by omega) (by rw [hz];omega)]
   congr 1
  have hbr:=gB n i
  rw [aC.l0,ahC (by omega),ahC (by omega),xU (by rw [hz];omega),hb,jH (n:=bt n i) (by omega) (by omega)]
  by_cases c0:bt n i = 0
  ·rw [ahC c0]
   refine ⟨_,rfl,?_⟩
   by_cases hr:n.extract i n.size = root
   ·have h5:=ah1 ByteArray.size hr
    rw [hz,iX] at h5
    rw [ahC hr,jH (by omega) (by omega)]
    have:(i:Int) = (n.size:Int) - 1:=by omega
    simp [this]
   ·have h5:n.size - i ≠ 1:=by
     intro h6
     refine hr (BZ (by rw [hz,iX];exact h6) fun j j0 j1=>?_)
     rw [hz] at j1
     have:j = 0:=by omega
     subst this
     rw [hb,c0,Ca]
    rw [ahD hr,ahD (by omega),jH (by omega) (by omega)]
    simp
    omega
  ·have hr:n.extract i n.size ≠ root:=by
    intro h5
    rw [h5,Ca] at hb
    exact c0 hb.symm
   rw [ahD c0,ahD hr]
   by_cases c2:bt n i > 63
   ·rw [ahC c2,ahD (by omega)]
    exact ⟨_,rfl,rfl⟩
   ·rw [ahD c2,jH (n:=(n.size:Int) - i) (by omega) (by omega)]
    by_cases c3:bt n i ≥ (n.size:Int) - i
    ·rw [ahC c3,ahD (by rw [hz];omega)]
     exact ⟨_,rfl,rfl⟩
    ·rw [ahD c3,jH (n:=(i:Int) + 1) (by omega) (by omega),jH (n:=(i:Int) + 1 + bt n i) (by omega) (by omega),ahC (by omega),ahC (by omega),ahC (by omega),ahC (by omega)]
     have e:((i:Int) + 1 + bt n i) = ((i + 1 + (bt n i).toNat:Nat):Int):=by omega
     have e1:((i:Int) + 1).toNat = i + 1:=by omega
     rw [e,e1,Int.toNat_natCast]
     by_cases c4:i + 1 + (bt n i).toNat < n.size
     ·obtain ⟨o,ho,hm⟩:=ih k n (i + 1 + (bt n i).toNat) (acc ++ [n.extract (i + 1) (i + 1 + (bt n i).toNat)]) (by omega) (by omega) h3 (by simp;omega) (by omega)
      refine ⟨o,ho,?_⟩
      rw [ahC (by rw [hz];omega)]
      have x1:(n.extract i n.size).extract 1 (1 + (bt n i).toNat) = n.extract (i + 1) (i + 1 + (bt n i).toNat):=by
       rw [ByteArray.extract_extract];congr 1;omega
      have x2:(n.extract i n.size).extract (1 + (bt n i).toNat) (n.extract i n.size).size = n.extract (i + 1 + (bt n i).toNat) n.size:=by
       rw [hz,ByteArray.extract_extract];congr 1 <;> omega
      rw [x1,x2]
      cases hl:jI (n.extract (i + 1 + (bt n i).toNat) n.size).size (n.extract (i + 1 + (bt n i).toNat) n.size) with
      | none=>rw [hl] at hm;simpa using hm
      | some l=>rw [hl] at hm;simpa using hm
     ·obtain ⟨k,rfl⟩:∃ m,k = m + 1:=⟨k - 1,by omega⟩
      rw [ahD (by rw [hz];omega),aC.l0,ahD (by omega)]
      exact ⟨_,rfl,rfl⟩
theorem JH (k:Nat) (hk:600 ≤ k) (n:ByteArray) (hs:n.size ≤ 1000000000) :
  ∃ o,aC.f k n = some o ∧ (match q8 n with | some l=>o = (l,true) | none=>o.2 = false):=by
 obtain ⟨k,rfl⟩:∃ m,k = m + 1:=⟨k - 1,by omega⟩
 unfold aC.f q8
 by_cases h0:n.size = 0
 ·rw [ahC (by omega),aC.j0,ahC rfl,ahC (by omega),jI,ahC h0]
  exact ⟨_,rfl,rfl⟩
 ·rw [ahD (by omega)]
  by_cases h:n.size ≤ 255
  ·have hd:decide ((n.size:Int) > 255) = false:=ahH (by omega)
   rw [hd,aC.j0,ahD aiF,ahC h,xS 255 n h]
   have:=JG 255 k n 0 [] (by omega) (by omega) h (by simp) (by omega)
   rw [Nn] at this
   simpa using this
  ·have hd:decide ((n.size:Int) > 255) = true:=ahE (by omega)
   rw [hd,aC.j0,ahC rfl,ahD h]
   exact ⟨_,rfl,rfl⟩
theorem Ci (k:Nat) (hk:600 ≤ k) (n:ByteArray) (hs:n.size ≤ 1000000000):fO.f k n = some (je n):=by
 obtain ⟨o,ho,hm⟩:=JH k hk n hs
 unfold fO.f je
 rw [ho]
 simp only [Option.bind_some]
 cases hl:q8 n with
 | none=>rw [hl] at hm;simpa using hm
 | some l=>rw [hl] at hm;simp at hm;rw [hm];rfl
end
section
open Go.RowKit Go.Proofs.YtfokaoeinpnagaaW.aR Go.Proofs.YtfokaoeinpnagaaW.dD Go.Proofs.YtfokaoeinpnagaaW.eB
attribute [local go_sem] jD jE kN kP iV iW jF jG
def eH.f (a0:ByteArray) (a1:Int) (a2:Int):Option (ByteArray × Bool) :=
 if (a0.size:Int) ≤ 9223372036854775807 then
  (if 0 ≤ a1 ∧ 0 ≤ a2 ∧ a1 + a2 ≤ (a0.size:Int) then some (a0.extract a1.toNat (a1 + a2).toNat,true) else some ((⟨#[]⟩:ByteArray),false))
 else none
theorem eH.mid (s:ByteArray) (a b:Int) (h0:0 ≤ a) (h1:0 ≤ b) (h2:a + b ≤ (s.size:Int)) :
  (s.extract a.toNat s.size).extract 0 b.toNat = s.extract a.toNat (a + b).toNat:=by
 rw [ByteArray.extract_extract]
 congr 1
 omega
theorem eH.calls (a0:ByteArray) (a1:Int) (a2:Int) (r1:ByteArray) (r2:Bool) (w:World) (h:eH.f a0 a1 a2 = some (r1,r2)) :
  Calls Try.prog 94 #[.string a0,.int .i64 a1,.int .i64 a2] w fun e w'=>e = .returned (.tuple #[.string r1,.bool r2]) ∧ bL w w':=by
 unfold eH.f at h
 by_cases hs:(a0.size:Int) ≤ 9223372036854775807
 ·rw [ahC hs] at h
  by_cases hc:0 ≤ a1 ∧ 0 ≤ a2 ∧ a1 + a2 ≤ (a0.size:Int)
  ·rw [ahC hc] at h
   simp only [ahP,ahU] at h
   obtain ⟨rfl,rfl⟩:=h
   obtain ⟨h0,h1,h2⟩:=hc
   have hw:wrap64 ((a0.size:Int) - a1) = (a0.size:Int) - a1:=by unfold wrap64;omega
   have hm:=ah.mk (eH.mid a0 a1 a2 h0 h1 h2)
   have c1:decide (a1 < 0) = false:=ahH (by omega)
   have c2:decide (a2 < 0) = false:=ahH (by omega)
   have c3:decide ((a0.size:Int) < a1) = false:=ahH (by omega)
   have c4:decide (wrap64 ((a0.size:Int) - a1) < a2) = false:=ahH (by omega)
   have c5:=ahM h0
   have c6:(a1 ≤ (a0.size:Int)) = True:=ahM (by omega)
   have c7:=ahM h1
   have c8:(a2 ≤ ((a0.extract a1.toNat a0.size).size:Int)) = True:=ahM (by simp only [aib];omega)
   have c9:(a2 ≤ (a0.size:Int) - (a1.toNat:Int)) = True:=ahM (by omega)
   have c10:(a2 ≤ ((a0.size - a1.toNat:Nat):Int)) = True:=ahM (by omega)
   clear hs hw h0 h1 h2
   go_enter Try.func94,Try.ntmps94
   go_wp2
   go_ret2
   exact ⟨by rw [hm.out];rfl,by repeat (first | exact bL.refl _ | apply bL.step)⟩
  ·rw [ahD hc] at h
   simp only [ahP,ahU] at h
   obtain ⟨rfl,rfl⟩:=h
   by_cases c1:a1 < 0
   ·have c1':decide (a1 < 0) = true:=ahE c1
    clear hs hc c1
    go_enter Try.func94,Try.ntmps94
    go_wp2
    go_ret2
    exact ⟨rfl,by repeat (first | exact bL.refl _ | apply bL.step)⟩
   ·by_cases c2:a2 < 0
    ·have c1':decide (a1 < 0) = false:=ahH c1
     have c2':decide (a2 < 0) = true:=ahE c2
     clear hs hc c1 c2
     go_enter Try.func94,Try.ntmps94
     go_wp2
     go_ret2
     exact ⟨rfl,by repeat (first | exact bL.refl _ | apply bL.step)⟩
    ·by_cases c3:(a0.size:Int) < a1
     ·have c1':decide (a1 < 0) = false:=ahH c1
      have c2':decide (a2 < 0) = false:=ahH c2
      have c3':decide ((a0.size:Int) < a1) = true:=ahE c3
      clear hs hc c1 c2 c3
      go_enter Try.func94,Try.ntmps94
      go_wp2
      go_ret2
      exact ⟨rfl,by repeat (first | exact bL.refl _ | apply bL.step)⟩
     ·have hw:wrap64 ((a0.size:Int) - a1) = (a0.size:Int) - a1:=by unfold wrap64;omega
      have c1':decide (a1 < 0) = false:=ahH c1
      have c2':decide (a2 < 0) = false:=ahH c2
      have c3':decide ((a0.size:Int) < a1) = false:=ahH c3
      have c4':decide (wrap64 ((a0.size:Int) - a1) < a2) = true:=ahE (by omega)
      clear hs hc c1 c2 c3 hw
      go_enter Try.func94,Try.ntmps94
      go_wp2
      go_ret2
      exact ⟨rfl,by repeat (first | exact bL.refl _ | apply bL.step)⟩
 ·rw [ahD hs] at h
  exact absurd h (by simp)
def fZ.f (a0:Int):Option (Bool):=if a0 ≥ 1 then (some (decide (a0 ≤ 4))) else (some false)
theorem fZ.calls (a0:Int) (r:Bool) (w:World) (h:fZ.f a0 = some r) :
  Calls Try.prog 95 #[.int .i64 a0] w fun e w'=>e = .returned (.bool r) ∧ bL w w':=by
 have H:(if a0 ≥ 1 then (some (decide (a0 ≤ 4))) else (some false)) = some r:=h
 clear h
 by_cases c2:a0 ≥ 1
 ·rw [ahC c2] at H
  have zl:decide (1 ≤ a0) = true:=ahE c2
  clear c2
  obtain rfl:=aia H
  go_enter Try.func95,Try.ntmps95
  go_wp2
  go_ret
  exact ⟨by first | rfl | (simp;done) | (simp [*];done),by repeat (first | exact bL.refl _ | apply bL.step)⟩
 ·rw [ahD c2] at H
  have zl:decide (1 ≤ a0) = false:=ahH c2
  clear c2
  obtain rfl:=aia H
  go_enter Try.func95,Try.ntmps95
  go_wp2
  go_ret
  exact ⟨by first | rfl | (simp;done) | (simp [*];done),by repeat (first | exact bL.refl _ | apply bL.step)⟩
mutual
def aI.j0 : Nat → Int → ByteArray → Bool → Option (Int × Bool)
 | 0,_,_,_=>none
 | k + 1,x2,x8,x25=>if x25 = true then (some (0,false)) else (aI.l0 k x8 0 x2 0)
def aI.l0 : Nat → ByteArray → Int → Int → Int → Option (Int × Bool)
 | 0,_,_,_,_=>none
 | k + 1,x8,x10,x26,x27=>if x27 < x26 then (if 0 ≤ x27 then (if x27 < (x8.size:Int) then (aI.l0 k x8 (Go.bits .or .i64 (wrap64 (x10 * 256)) (wrap64 (bt x8 x27))) x26 (wrap64 (x27 + 1))) else (none)) else (none)) else (some (x10,true))
end
def aI.f (k:Nat) (a0:ByteArray) (a1:Int) (a2:Int):Option (Int × Bool):=(eH.f a0 a1 a2).bind fun xZ=>(if xZ.2 = true then ((fZ.f a2).bind fun yc=>(aI.j0 k a2 xZ.1 (!yc))) else (aI.j0 k a2 xZ.1 true))
theorem aI.yg : ∀ k,(∀ y0 y1 y2,mQ (aI.j0 k y0 y1 y2) (aI.j0 (k + 1) y0 y1 y2)) ∧ (∀ y0 y1 y2 y3,mQ (aI.l0 k y0 y1 y2 y3) (aI.l0 (k + 1) y0 y1 y2 y3))
 | 0=>⟨fun _ _ _ r h=>by simp [aI.j0] at h,fun _ _ _ _ r h=>by simp [aI.l0] at h⟩
 | k + 1=>by
  obtain ⟨ih0,ih1⟩:=aI.yg k
  refine ⟨?_,?_⟩
  ·intro y0 y1 y2
   unfold aI.j0
   repeat' first
   | (with_reducible exact mQ.refl _)
   | exact ih0 _ _ _
   | exact ih1 _ _ _ _
   | exact mQ.none _
   | refine mQ.ite ?_ ?_
   | refine mQ.bind ?_ (fun _=>?_)
  ·intro y0 y1 y2 y3
   unfold aI.l0
   repeat' first
   | (with_reducible exact mQ.refl _)
   | exact ih0 _ _ _
   | exact ih1 _ _ _ _
   | exact mQ.none _
   | refine mQ.ite ?_ ?_
   | refine mQ.bind ?_ (fun _=>?_)
theorem aI.mono : ∀ a0 a1 a2 k,mQ (aI.f k a0 a1 a2) (aI.f (k + 1) a0 a1 a2):=by
 intro a0 a1 a2 k
 obtain ⟨ih0,ih1⟩:=aI.yg k
 unfold aI.f
 repeat' first
   | (with_reducible exact mQ.refl _)
   | exact ih0 _ _ _
   | exact ih1 _ _ _ _
   | exact mQ.none _
   | refine mQ.ite ?_ ?_
   | refine mQ.bind ?_ (fun _=>?_)
theorem aI.calls (k:Nat) (a0:ByteArray) (a1:Int) (a2:Int) (r1:Int) (r2:Bool) (w:World) (h:aI.f k a0 a1 a2 = some (r1,r2)) :
  Calls Try.prog 80 #[.string a0,.int .i64 a1,.int .i64 a2] w fun e w'=>e = .returned (.tuple #[.int .i64 r1,.bool r2]) ∧ bL w w':=by
 have H:((eH.f a0 a1 a2).bind fun xZ=>(if xZ.2 = true then ((fZ.f a2).bind fun yc=>(aI.j0 k a2 xZ.1 (!yc))) else (aI.j0 k a2 xZ.1 true))) = some (r1,r2):=h
 clear h
 replace H:=zbm H
 obtain ⟨⟨t119,VU⟩,Te,H⟩:=H
 replace H:(if VU = true then ((fZ.f a2).bind fun yc=>(aI.j0 k a2 t119 (!yc))) else (aI.j0 k a2 t119 true)) = some (r1,r2):=H
 have A4:=ah.mk Te
 clear Te
 have HC5:=ah.mk H
 clear H
 go_enter Try.func80,Try.ntmps80
 go_upto_region 2 with (first | ((with_reducible refine eG (f:=94) rfl ?_);refine jP (some 16) rfl rfl Try.func94 (by kernel_rfl) rfl #[.string a0,.int .i64 a1,.int .i64 a2] rfl (by (try simp only [aix,ahO,ahV]) <;> rfl) ?_;(with_reducible refine (eH.calls a0 a1 a2 t119 VU _ A4.out).mono ?_);rintro e w' ⟨rfl,⟨nd,rfl⟩⟩;refine ⟨_,rfl,?_⟩))
 (try simp only [Act.put,aii,List.set_cons_zero,List.set_cons_succ])
 go_cut [25] (fun v25 wc=>∃ (kq:Nat) (Ic:Bool),v25 = .bool Ic ∧ ah (aI.j0 kq a2 t119 Ic = some (r1,r2)) ∧ ah (kq ≤ k) ∧ bL w wc)
 case first =>
  have H:=HC5.out
  clear HC5
  by_cases c6:VU = true
  ·subst c6
   have H1:((fZ.f a2).bind fun yc=>(aI.j0 k a2 t119 (!yc))) = some (r1,r2):=by rw [ahC rfl] at H;exact H
   clear H
   have H:=H1
   clear H1
   replace H:=zbm H
   obtain ⟨yc,A70,H⟩:=H
   replace H:(aI.j0 k a2 t119 (!yc)) = some (r1,r2):=H
   have A7:=ah.mk A70
   clear A70
   have H':=ah.mk H
   clear H
   go_wp2_with (first | (go_at_call 95;(with_reducible refine (fZ.calls a2 yc _ A7.out).mono ?_);rintro e w' ⟨rfl,⟨nd,rfl⟩⟩))
   go_meet
   case rel=>exact ⟨_,(!yc),(by first | rfl | (simp;done) | (simp [*];done) | (simp [B.dN];done) | (simp [B.dO];done)),H',⟨by first | omega | exact ahG _⟩,by repeat (first | exact bL.refl _ | apply bL.step)⟩
  ·replace c6:=aiB.mpr c6
   subst c6
   have H1:(aI.j0 k a2 t119 true) = some (r1,r2):=by rw [ahD (show ¬ (false = true) by decide)] at H;exact H
   clear H
   have H:=H1
   clear H1
   have H':=ah.mk H
   clear H
   go_wp2
   go_meet
   case rel=>exact ⟨_,(true),(by first | rfl | (simp;done) | (simp [*];done) | (simp [B.dN];done) | (simp [B.dO];done)),H',⟨by first | omega | exact ahG _⟩,by repeat (first | exact bL.refl _ | apply bL.step)⟩
 case rest =>
  clear HC5
  try clear p2
  try clear c6
  obtain ⟨kq,Ic,rfl,HA,HJ4,⟨mc4,rfl⟩⟩:=hcut
  cases kq with
  | zero=>exact absurd HA.out (by simp [aI.j0])
  | succ kj4 =>
   have H:=HA.out
   clear HA
   simp only [aI.j0] at H
   by_cases c8:Ic = true
   ·subst c8
    have H1:(some (0,false)) = some (r1,r2):=by rw [ahC rfl] at H;exact H
    clear H
    have H:=H1
    clear H1
    simp only [ahP,ahU] at H
    obtain ⟨rfl,rfl⟩:=H
    go_wp2
    go_ret2
    exact ⟨by first | rfl | (simp;done) | (simp [*];done),by repeat (first | exact bL.refl _ | apply bL.step)⟩
   ·replace c8:=aiB.mpr c8
    subst c8
    have H1:(aI.l0 kj4 t119 0 a2 0) = some (r1,r2):=by rw [ahD (show ¬ (false = true) by decide)] at H;exact H
    clear H
    have H:=H1
    clear H1
    have H':=ah.mk H
    clear H
    go_wp2
    go_loopg [10,27] kj4 (fun kq v10 v27 w'=>∃ (Ie:Int) (mJ:Int),v10 = .int .i64 Ie ∧ v27 = .int .i64 mJ ∧ ah (aI.l0 kq t119 Ie a2 mJ = some (r1,r2)) ∧ ah (kq ≤ kj4) ∧ bL w w')
    case atStart=>exact ⟨(0),(0),(by first | rfl | (simp;done) | (simp [*];done) | (simp [B.dN];done) | (simp [B.dO];done)),(by first | rfl | (simp;done) | (simp [*];done) | (simp [B.dN];done) | (simp [B.dO];done)),H',⟨ahG _⟩,by repeat (first | exact bL.refl _ | apply bL.step)⟩
    case round =>
     clear H'
     try clear p2
     try clear c4
     try clear c6
     try clear c8
     try clear p2
     obtain ⟨Ie,mJ,rfl,rfl,HA,HK2,⟨m2,rfl⟩⟩:=hrel
     cases gk with
     | zero=>exact absurd HA.out (by simp [aI.l0])
     | succ k2 =>
      have H:=HA.out
      clear HA
      simp only [aI.l0] at H
      by_cases c9:mJ < a2
      ·rw [ahC c9] at H
       have Ga:decide (mJ < a2) = true:=ahE c9
       clear c9
       by_cases c10:0 ≤ mJ
       ·rw [ahC c10] at H
        have En:decide (0 ≤ mJ) = true:=ahE c10
        clear c10
        by_cases c11:mJ < (t119.size:Int)
        ·rw [ahC c11] at H
         have S9:decide (mJ < (t119.size:Int)) = true:=ahE c11
         clear c11
         have H':=ah.mk H
         clear H
         have p12:0 ≤ (mJ:Int):=ahY (by first | (with_reducible assumption) | assumption)
         have q12:mJ < (t119.size:Int):=ahY (by first | (with_reducible assumption) | assumption)
         have ahu:=oH t119 mJ
         replace p12:=ahM p12
         replace q12:=ahM q12
         go_wp2
         go_roundg k2
         case measure=>have:=HJ4.out;have:=HK2.out;omega
         case rel=>exact ⟨(Go.bits .or .i64 (wrap64 (Ie * 256)) (wrap64 (bt t119 mJ))),(wrap64 (mJ + 1)),(by first | rfl | (simp;done) | (simp [*];done) | (simp [B.dN];done) | (simp [B.dO];done)),(by first | rfl | (simp;done) | (simp [*];done) | (simp [B.dN];done) | (simp [B.dO];done)),H',⟨by have:=HJ4.out;have:=HK2.out;omega⟩,by repeat (first | exact bL.refl _ | apply bL.step)⟩
        ·rw [ahD c11] at H
         exact absurd H (by simp)
       ·rw [ahD c10] at H
        exact absurd H (by simp)
      ·rw [ahD c9] at H
       have Ga:decide (mJ < a2) = false:=ahH c9
       clear c9
       simp only [ahP,ahU] at H
       obtain ⟨rfl,rfl⟩:=H
       go_wp2
       go_ret2
       exact ⟨by first | rfl | (simp;done) | (simp [*];done),by repeat (first | exact bL.refl _ | apply bL.step)⟩
end
section
open Go.RowKit Go.Proofs.YtfokaoeinpnagaaW.aR Go.Proofs.YtfokaoeinpnagaaW.dD Go.Proofs.YtfokaoeinpnagaaW.eB Go.Proofs.Ytfokaoeinpnagaa.B
def aaH : Nat → Int → List Int
 | 0,_=>[]
 | s + 1,n=>n / 256 ^ s % 256 :: aaH s n
def Np (n size:Int):Prop:=1 ≤ size ∧ size ≤ 4 ∧ 0 ≤ n ∧ n < 256 ^ size.toNat
instance (n size:Int):Decidable (Np n size):=by unfold Np;infer_instance
def ae2 (n size:Int):ByteArray:=if Np n size then strOfNums (aaH size.toNat n) else ⟨#[]⟩
def iB (s:ByteArray) (i n:Int):Prop:=0 ≤ i ∧ 0 ≤ n ∧ i + n ≤ (s.size:Int)
instance (s : ByteArray) (i n:Int):Decidable (iB s i n):=by unfold iB;infer_instance
def gV : Nat → ByteArray → Int → Int
 | 0,_,_=>0
 | k + 1,s,i=>gV k s i * 256 + bt s (i + k)
def jU (s:ByteArray) (i n:Int):Prop:=0 ≤ i ∧ 1 ≤ n ∧ n ≤ 4 ∧ i + n ≤ (s.size:Int)
instance (s : ByteArray) (i n:Int):Decidable (jU s i n):=by unfold jU;infer_instance
theorem tH (s:ByteArray) (i n:Int) (hs:s.size ≤ 9223372036854775807) :
  eH.f s i n = some (if iB s i n then (s.extract i.toNat (i + n).toNat,true) else (⟨#[]⟩,false)):=by
 unfold eH.f iB
 rw [ahC (by omega)]
 split <;> rename_i h <;> simp [h]
theorem kQ (x b:Int) (hx0:0 ≤ x) (hx:x < 16777216) (hb0:0 ≤ b) (hb:b ≤ 255):Go.bits .or .i64 (wrap64 (x * 256)) (wrap64 b) = x * 256 + b:=by
 rw [jH (by omega) (by omega),jH (by omega) (by omega)]
 refine Go.bits_join .i64 62 (by decide) ?_ 8 (x * 256) b (by omega) (by omega) (by omega) hb0 (by omega) (by omega)
 intro n h0 h1
 rw [IntKind.wrap_i64]
 omega
theorem get_eq (k:Nat) (hk:9 ≤ k) (s:ByteArray) (i n:Int) (hs:s.size ≤ 9223372036854775807) :
  aI.f k s i n = some (if jU s i n then (gV n.toNat s i,true) else (0,false)):=by
 refine uE (fun k=>aI.mono s i n k) hk ?_
 unfold aI.f
 rw [tH s i n hs]
 by_cases ht:iB s i n
 ·rw [ahC ht]
  simp only [Option.bind_some,ah9]
  obtain ⟨h0,h1,h2⟩:=ht
  by_cases hz:1 ≤ n ∧ n ≤ 4
  ·have hf:fZ.f n = some true:=by unfold fZ.f;rw [ahC (by omega)];simp;omega
   rw [ahC (show jU s i n from ⟨h0,hz.1,hz.2,h2⟩),hf]
   have hz':=size_ext h0 h1 h2
   have hb:∀ j,0 ≤ j → j < n → bt (s.extract i.toNat (i + n).toNat) j = bt s (i + j):=fun j a b=>M0 h0 a b h2
   have e0:=hb 0
   have e1:=hb 1
   have e2:=hb 2
   have e3:=hb 3
   have r0:=gB s (i + 0)
   have r1:=gB s (i + 1)
   have r2:=gB s (i + 2)
   have r3:=gB s (i + 3)
   generalize s.extract i.toNat (i + n).toNat = t at *
   clear hb
   obtain ⟨hz1,hz4⟩:=hz
   have hn:n = 1 ∨ n = 2 ∨ n = 3 ∨ n = 4:=by omega
   have y0:wrap64 (0 + 1) = 1:=jH (by omega) (by omega)
   have y1:wrap64 (1 + 1) = 2:=jH (by omega) (by omega)
   have y2:wrap64 (2 + 1) = 3:=jH (by omega) (by omega)
   have y3:wrap64 (3 + 1) = 4:=jH (by omega) (by omega)
   rcases hn with rfl | rfl | rfl | rfl
   ·have o0:=kQ 0 (bt s (i + 0)) (by omega) (by omega) r0.1 r0.2
    simp only [aI.j0,aI.l0,Option.bind_some,ai9,ah7,ahW,hz',e0 (by omega) (by omega),o0,y0]
    simp [gV]
   ·have o0:=kQ 0 (bt s (i + 0)) (by omega) (by omega) r0.1 r0.2
    have o1:=kQ (0 * 256 + bt s (i + 0)) (bt s (i + 1)) (by omega) (by omega) r1.1 r1.2
    simp only [aI.j0,aI.l0,Option.bind_some,ai9,ah7,ahW,hz',e0 (by omega) (by omega),e1 (by omega) (by omega),o0,o1,y0,y1]
    simp [gV]
   ·have o0:=kQ 0 (bt s (i + 0)) (by omega) (by omega) r0.1 r0.2
    have o1:=kQ (0 * 256 + bt s (i + 0)) (bt s (i + 1)) (by omega) (by omega) r1.1 r1.2
    have o2:=kQ ((0 * 256 + bt s (i + 0)) * 256 + bt s (i + 1)) (bt s (i + 2)) (by omega) (by omega) r2.1 r2.2
    simp only [aI.j0,aI.l0,Option.bind_some,ai9,ah7,ahW,hz',e0 (by omega) (by omega),e1 (by omega) (by omega),e2 (by omega) (by omega),o0,o1,o2,y0,y1,y2]
    simp [gV]
   ·have o0:=kQ 0 (bt s (i + 0)) (by omega) (by omega) r0.1 r0.2
    have o1:=kQ (0 * 256 + bt s (i + 0)) (bt s (i + 1)) (by omega) (by omega) r1.1 r1.2
    have o2:=kQ ((0 * 256 + bt s (i + 0)) * 256 + bt s (i + 1)) (bt s (i + 2)) (by omega) (by omega) r2.1 r2.2
    have o3:=kQ (((0 * 256 + bt s (i + 0)) * 256 + bt s (i + 1)) * 256 + bt s (i + 2)) (bt s (i + 3)) (by omega) (by omega) r3.1 r3.2
    simp only [aI.j0,aI.l0,Option.bind_some,ai9,ah7,ahW,hz',e0 (by omega) (by omega),e1 (by omega) (by omega),e2 (by omega) (by omega),e3 (by omega) (by omega),o0,o1,o2,o3,y0,y1,y2,y3]
    simp [gV]
  ·have hf:fZ.f n = some false:=by
    unfold fZ.f
    by_cases h2:1 ≤ n
    ·rw [ahC (by omega)];simp;omega
    ·rw [ahD (by omega)]
   rw [ahD (show ¬ jU s i n from fun h=>hz ⟨h.2.1,h.2.2.1⟩),hf]
   simp [aI.j0]
 ·rw [ahD ht,ahD (show ¬ jU s i n from fun h=>ht ⟨h.1,by have:=h.2.1;omega,h.2.2.2⟩)]
  simp [aI.j0]
theorem Er (s:ByteArray) (i:Int):gV 1 s i = bt s i:=by simp [gV]
theorem Gf (k:Nat) (s t:ByteArray) (i j:Int) (h:∀ m:Nat,m < k → bt s (i + m) = bt t (j + m)):gV k s i = gV k t j:=by
 induction k with
 | zero=>rfl
 | succ k ih=>simp only [gV];rw [ih fun m hm=>h m (by omega),h k (by omega)]
theorem oz (k:Nat) (s:ByteArray) (i:Int):0 ≤ gV k s i ∧ gV k s i < 256 ^ k:=by
 induction k with
 | zero=>simp [gV]
 | succ k ih =>
  have:=gB s (i + k)
  simp only [gV]
  rw [Int.pow_succ]
  omega
end
section
open Go.RowKit Go.Proofs.YtfokaoeinpnagaaW.aR Go.Proofs.YtfokaoeinpnagaaW.dD Go.Proofs.YtfokaoeinpnagaaW.eB
attribute [local go_sem] jD jE kN kP iV iW jF jG
def gZ.f (a0:ByteArray) (a1:Int) (a2:Int):Option (ByteArray × Bool):=if a1 < 0 then (some ((⟨#[]⟩:ByteArray),false)) else (if a2 < 0 then (some ((⟨#[]⟩:ByteArray),false)) else (if a1 > (a0.size:Int) then (some ((⟨#[]⟩:ByteArray),false)) else (if a2 > (wrap64 ((a0.size:Int) - a1)) then (some ((⟨#[]⟩:ByteArray),false)) else (if 0 ≤ a1 then (if a1 ≤ (wrap64 (a1 + a2)) then (if (wrap64 (a1 + a2)) ≤ (a0.size:Int) then (some (a0.extract (a1:Int).toNat ((wrap64 (a1 + a2)):Int).toNat,true)) else (none)) else (none)) else (none)))))
mutual
def bA.j0 : Nat → Int → ByteArray → Bool → Option (Int × Bool)
 | 0,_,_,_=>none
 | k + 1,x2,x8,x28=>if x28 = true then (some (0,false)) else (bA.l0 k x2 x8 0 0)
def bA.l0 : Nat → Int → ByteArray → Int → Int → Option (Int × Bool)
 | 0,_,_,_,_=>none
 | k + 1,x2,x8,x10,x11=>if x11 < x2 then (if 0 ≤ x11 then (if x11 < (x8.size:Int) then (bA.l0 k x2 x8 (wrap64 ((wrap64 (256 * x10)) + (wrap64 (bt x8 x11)))) (wrap64 (x11 + 1))) else (none)) else (none)) else (some (x10,true))
end
def bA.f (k:Nat) (a0:ByteArray) (a1:Int) (a2:Int):Option (Int × Bool):=(gZ.f a0 a1 a2).bind fun Ig=>(if Ig.2 = true then (if a2 < 1 then (bA.j0 k a2 Ig.1 true) else (bA.j0 k a2 Ig.1 (decide (a2 > 4)))) else (bA.j0 k a2 Ig.1 true))
end
section
open Go.RowKit Go.Proofs.YtfokaoeinpnagaaW.aR Go.Proofs.YtfokaoeinpnagaaW.dD Go.Proofs.YtfokaoeinpnagaaW.eB Go.Proofs.Ytfokaoeinpnagaa.B
theorem vk (s:ByteArray) (i n:Int) (hs:s.size ≤ 1000000) :
  gZ.f s i n = some (if iB s i n then (s.extract i.toNat (i + n).toNat,true) else (⟨#[]⟩,false)):=by
 have u:iB s i n = (0 ≤ i ∧ 0 ≤ n ∧ i + n ≤ (s.size:Int)):=rfl
 unfold gZ.f
 by_cases h0:i < 0
 ·rw [ahC h0,ahD (by rw [u];omega)]
 ·by_cases h1:n < 0
  ·rw [ahD h0,ahC h1,ahD (by rw [u];omega)]
  ·by_cases h2:i > (s.size:Int)
   ·rw [ahD h0,ahD h1,ahC h2,ahD (by rw [u];omega)]
   ·rw [ahD h0,ahD h1,ahD h2]
    have e1:wrap64 ((s.size:Int) - i) = s.size - i:=jH (by omega) (by omega)
    rw [e1]
    by_cases h3:n > (s.size:Int) - i
    ·rw [ahC h3,ahD (by rw [u];omega)]
    ·have e2:wrap64 (i + n) = i + n:=jH (by omega) (by omega)
     rw [ahD h3,e2,ahC (by omega),ahC (by omega),ahC (by omega),ahC (by rw [u];omega)]
theorem Gg (n:Nat) (hn:n ≤ 4) (t:ByteArray) (ht:t.size = n) (d:Nat):∀ k j,n - j = d → j ≤ n → d < k →
  bA.l0 k n t (gV j t 0) j = some (gV n t 0,true):=by
 induction d with
 | zero =>
  intro k j hd hj hk
  obtain rfl:j = n:=by omega
  obtain ⟨k,rfl⟩:∃ m,k = m + 1:=⟨k - 1,by omega⟩
  rw [bA.l0,ahD (by omega)]
 | succ d ih =>
  intro k j hd hj hk
  obtain ⟨k,rfl⟩:∃ m,k = m + 1:=⟨k - 1,by omega⟩
  have hr:=oz j t 0
  have hp:(256:Int) ^ j ≤ 16777216:=by
   have:j = 0 ∨ j = 1 ∨ j = 2 ∨ j = 3:=by omega
   rcases this with rfl | rfl | rfl | rfl <;> simp
  have hb:=gB t j
  rw [bA.l0,ahC (by omega),ahC (by omega),ahC (by omega),jH (n:=bt t j) (by omega) (by omega),jH (n:=256 * gV j t 0) (by omega) (by omega),jH (n:=256 * gV j t 0 + bt t j) (by omega) (by omega),jH (n:=(j:Int) + 1) (by omega) (by omega)]
  have e:256 * gV j t 0 + bt t j = gV (j + 1) t 0:=by
   simp only [gV]
   rw [show (0:Int) + (j:Int) = j from by omega]
   omega
  rw [e,show ((j:Int) + 1) = ((j + 1:Nat):Int) from by omega]
  exact ih k (j + 1) (by omega) (by omega) (by omega)
theorem yh (k:Nat) (hk:9 ≤ k) (s:ByteArray) (i n:Int) (hs:s.size ≤ 1000000) :
  bA.f k s i n = some (if jU s i n then (gV n.toNat s i,true) else (0,false)):=by
 obtain ⟨k,rfl⟩:∃ m,k = m + 1:=⟨k - 1,by omega⟩
 unfold bA.f
 rw [vk s i n hs]
 simp only [Option.bind_some]
 by_cases ht:iB s i n
 ·simp only [ahC ht,ah9]
  obtain ⟨h0,h1,h2⟩:=ht
  by_cases c1:n < 1
  ·rw [ahC c1,bA.j0,ahC rfl,ahD (fun h=>by have:=h.2.1;omega)]
  ·rw [ahD c1]
   by_cases c2:n > 4
   ·rw [ahE c2,bA.j0,ahC rfl,ahD (fun h=>by have:=h.2.2.1;omega)]
   ·rw [ahH c2,bA.j0,ahD aiF,ahC ⟨h0,by omega,by omega,h2⟩]
    have hz:=size_ext h0 h1 h2
    have e:((n.toNat:Nat):Int) = n:=by omega
    have:=Gg n.toNat (by omega) (s.extract i.toNat (i + n).toNat) (by omega) n.toNat k 0 (by omega) (by omega) (by omega)
    rw [e] at this
    rw [show (0:Int) = ((0:Nat):Int) from rfl]
    refine Eq.trans this ?_
    congr 2
    refine Gf _ _ _ _ _ fun m hm=>?_
    rw [show (0:Int) + (m:Int) = m from by omega,M0 h0 (by omega) (by omega) h2]
 ·simp only [ahD ht,ah7,ahW]
  rw [bA.j0,ahC rfl,ahD (fun h=>ht ⟨h.1,by have:=h.2.1;omega,h.2.2.2⟩)]
end
end Go.Proofs.Ytfokaoeinpnagaa.ZQ
namespace Go.Proofs.Ytfokaoeinpnagaa.B
open Go.RowKit Go.Proofs.YtfokaoeinpnagaaW.aR
structure uI (T e:TypeId) (B b o:Nat) (cs:Array Value) (p v:Value) (bs:List Value) (w:World):Prop where
 base:B ≤ b
 blk:w.heap[b]? = some (.cells cs T (0,0))
 p_:cs[o]? = some p
 v_:cs[o + 1]? = some v
 self:p = .pointer none ∨ p = .pointer (some ⟨b,o,none⟩)
 own:w.ownsRow B e 1 v bs.length bs
 ne:v.ownBlock ≠ some b
theorem uI.lt {T e:TypeId} {B b o:Nat} {cs:Array Value} {p v:Value} {bs:List Value} {w:World} (h:uI T e B b o cs p v bs w):b < w.heap.size:=by
 rcases aiT b w.heap.size with h' | h'
 ·exact h'
 ·have:=h.blk;rw [aiN h'] at this;cases this
theorem heap_set {w:World} {b o:Nat} {cs:Array Value} {T:TypeId} {fr:Nat × Nat} (h:w.heap[b]? = some (.cells cs T fr)) (x:Value):(w.setCell ⟨b,o,none⟩ x).heap[b]? = some (.cells (cs.setIfInBounds o x) T fr):=by
 simp [World.setCell,Array.getElem?_modify,h]
theorem Cj {w:World} {B b o:Nat} {e:TypeId} {n k:Nat} {v x:Value} {xs:List Value} (h:w.ownsRow B e n v k xs) (hne:v.ownBlock ≠ some b):(w.setCell ⟨b,o,none⟩ x).ownsRow B e n v k xs :=
 h.kept (row:=some b) ⟨rfl,rfl,rfl,by simp [World.setCell],fun k _ hk=>Below.heap_setCell _ _ _ _ (fun e=>hk (by simp [e]))⟩ (Or.inr hne)
theorem uI.used {T e:TypeId} {B b o:Nat} {cs:Array Value} {p v:Value} {bs:List Value} {w:World} (h:uI T e B b o cs p v bs w) :
  uI T e B b o (cs.setIfInBounds o (.pointer (some ⟨b,o,none⟩))) (.pointer (some ⟨b,o,none⟩)) v bs (w.setCell ⟨b,o,none⟩ (.pointer (some ⟨b,o,none⟩))):=by
 have ho:o < cs.size:=by
  rcases aiT o cs.size with h' | h'
  ·exact h'
  ·have:=h.p_;rw [aiN h'] at this;cases this
 exact ⟨h.base,heap_set h.blk _,by simp [ho],by simpa [aiK] using h.v_,.inr rfl,Cj h.own h.ne,h.ne⟩
theorem uI.JI {T e:TypeId} {B b o:Nat} {cs:Array Value} {v:Value} {bs:List Value} {w:World} (h:uI T e B b o cs (.pointer (some ⟨b,o,none⟩)) v bs w) :
  cs.setIfInBounds o (.pointer (some ⟨b,o,none⟩)) = cs:=by
 apply Array.ext_getElem?
 intro i
 rw [aiK]
 by_cases e:o = i
 ·subst e
  have:=h.p_
  rw [ahC rfl]
  split
  ·exact this.symm
  ·rename_i hn;rw [aiN (by omega)] at this;cases this
 ·rw [ahD e]
theorem uI.put {T e:TypeId} {B b o:Nat} {cs:Array Value} {p v v':Value} {bs bs':List Value} {w w':World} (h:uI T e B b o cs p v bs w) (hb:w'.heap[b]? = some (.cells cs T (0,0))) (hown:w'.ownsRow B e 1 v' bs'.length bs') (hTe:T ≠ e) :
  uI T e B b o (cs.setIfInBounds (o + 1) v') p v' bs' (w'.setCell ⟨b,o + 1,none⟩ v'):=by
 have hne:=Lib.ownBlock_ne hown hb hTe
 have ho:o + 1 < cs.size:=by
  rcases aiT (o + 1) cs.size with h' | h'
  ·exact h'
  ·have:=h.v_;rw [aiN h'] at this;cases this
 exact ⟨h.base,heap_set hb _,by simpa [aiK] using h.p_,by simp [ho],h.self,Cj hown hne,hne⟩
theorem uI.set {T e:TypeId} {B b o:Nat} {cs:Array Value} {p v:Value} {bs:List Value} {w:World} (h:uI T e B b o cs p v bs w) (i:Nat) (x:Value) (h1:i ≠ o) (h2:i ≠ o + 1) :
  uI T e B b o (cs.setIfInBounds i x) p v bs (w.setCell ⟨b,i,none⟩ x) :=
 ⟨h.base,heap_set h.blk _,by rw [aiK,ahD h1];exact h.p_,by rw [aiK,ahD h2];exact h.v_,h.self,Cj h.own h.ne,h.ne⟩
theorem uI.drewN {T e:TypeId} {B b o:Nat} {cs:Array Value} {p v:Value} {bs:List Value} {w:World} (h:uI T e B b o cs p v bs w) (n:Nat):uI T e B b o cs p v bs (w.drewN n):=⟨h.base,h.blk,h.p_,h.v_,h.self,h.own,h.ne⟩
theorem uI.below {T e:TypeId} {B b o:Nat} {cs:Array Value} {p v:Value} {bs:List Value} {w w':World} (h:uI T e B b o cs p v bs w) (hb:Below w.heap.size w w'):uI T e B b o cs p v bs w' :=
 ⟨h.base,(hb.block b h.lt).trans h.blk,h.p_,h.v_,h.self,sO h.own hb,h.ne⟩
theorem vR (t s:ByteArray):Lib.strCells t ++ Lib.strCells s = Lib.strCells (t ++ s):=by
 simp [Lib.strCells]
theorem yj (t:ByteArray):Lib.strCells t = Lib.byteCells t.data.toList:=rfl
end Go.Proofs.Ytfokaoeinpnagaa.B
namespace Go.Proofs.Ytfokaoeinpnagaa.ZQ
section
open Go.Shelf Go.RowKit
def vo : Go.Shelf.Ren:=⟨fun | 156=>110 | 165=>115 | 166=>114 | 169=>112 | 240=>116 | 241=>117 | 276=>118 | 277=>119 | n=>n,fun | 0=>0 | 3=>3 | 4=>4 | 5=>5 | 9=>9 | 20=>20 | 31=>25 | 37=>151 | 70=>172 | 72=>174 | 75=>183 | 76=>184 | 80=>161 | 127=>187 | 164=>188 | n=>n,fun n=>n⟩
theorem Ih : Lays.n156 Try.prog vo where
 mixed:=by kernel_rfl
 f156:=by kernel_rfl
 f165:=by kernel_rfl
 f166:=by kernel_rfl
 f169:=by kernel_rfl
 f240:=by kernel_rfl
 f241:=by kernel_rfl
 f276:=by kernel_rfl
 f277:=by kernel_rfl
 t0:=Try.underlying0
 a0:=Try.isAgg0
 z0:=Try.sizeOf0
 v0:=Try.zeroValue0
 t3:=Try.underlying3
 a3:=Try.isAgg3
 z3:=Try.sizeOf3
 v3:=Try.zeroValue3
 t4:=Try.underlying4
 a4:=Try.isAgg4
 z4:=Try.sizeOf4
 v4:=Try.zeroValue4
 t9:=Try.underlying9
 a9:=Try.isAgg9
 z9:=Try.sizeOf9
 v9:=Try.zeroValue9
 t20:=Try.underlying20
 a20:=Try.isAgg20
 z20:=Try.sizeOf20
 v20:=Try.zeroValue20
 t31:=Try.underlying25
 a31:=Try.isAgg25
 z31:=Try.sizeOf25
 v31:=Try.zeroValue25
 t37:=Try.underlying151
 a37:=Try.isAgg151
 z37:=Try.sizeOf151
 v37:=Try.zeroValue151
 t70:=Try.underlying172
 a70:=Try.isAgg172
 z70:=Try.sizeOf172
 v70:=Try.zeroValue172
 t72:=Try.underlying174
 a72:=Try.isAgg174
 z72:=Try.sizeOf174
 v72:=Try.zeroValue174
 t75:=Try.underlying183
 a75:=Try.isAgg183
 z75:=Try.sizeOf183
 v75:=Try.zeroValue183
 t76:=Try.underlying184
 a76:=Try.isAgg184
 z76:=Try.sizeOf184
 v76:=Try.zeroValue184
 t127:=Try.underlying187
 a127:=Try.isAgg187
 z127:=Try.sizeOf187
 v127:=Try.zeroValue187
 t164:=Try.underlying188
 a164:=Try.isAgg188
 z164:=Try.sizeOf188
 v164:=Try.zeroValue188
theorem vv : Builder.Extra Try.prog vo where
 sizeBuilder:=by kernel_rfl
 liesBuilder:=by kernel_rfl
 t5:=Try.underlying5
 a5:=Try.isAgg5
 z5:=Try.sizeOf5
 v5:=Try.zeroValue5
 infoByte:=by kernel_rfl
 cellsByte:=by kernel_rfl
 sizeByte:=by kernel_rfl
 neB5:=by decide
end
section
open Go.RowKit Go.Proofs.YtfokaoeinpnagaaW.aR Go.Proofs.YtfokaoeinpnagaaW.dD Go.Proofs.YtfokaoeinpnagaaW.eB
attribute [local go_sem] jD jE kN kP iV iW jF jG
theorem aH.told (T:TypeId) (B0 b o:Nat) (cs:Array Value) (p v:Value) (l:List UInt8) (w:World) (h:B.uI T 5 B0 b o cs p v (Lib.byteCells l) w) (h0:l ≠ []) :
  Calls Try.prog 112 #[.pointer (some ⟨b,o,none⟩)] w fun e w'=>e = .returned (.string ⟨l.toArray⟩) ∧ ∃ g,B0 ≤ g ∧ g ≠ b ∧ w' = w.drew.freeze ⟨g,0,none⟩ l.length:=by
 have hl0:l.length ≠ 0:=by simpa using h0
 have hown:=h.own
 rw [Lib.byteCells_length] at hown
 obtain ⟨g,cap,cur,rfl,hbg,hg,hnc,hcm,hcs,htake⟩:∃ g cap cur,v = .slice (some ⟨g,0,none⟩) l.length cap ∧ B0 ≤ g ∧ w.heap[g]? = some (.cells cur 5 (0,0)) ∧ l.length ≤ cap ∧ cap ≤ maxLen ∧ cur.size = cap * 1 ∧ cur.toList.take (l.length * 1) = Lib.byteCells l:=by
  rcases hown.2 with ⟨_,hz⟩ | ⟨g,cap,cur,hv,r⟩
  ·exact absurd hz hl0
  ·exact ⟨g,cap,cur,hv,r⟩
 have hgb:g ≠ b:=fun e=>h.ne (by rw [e];rfl)
 have c1:w.drew.cell? ⟨b,o + 1,none⟩ = some (.slice (some ⟨g,0,none⟩) l.length cap):=by
  have:w.drew.heap[b]? = some (.cells cs T (0,0)):=h.blk
  rw [Lib.cell_of_heap this];exact h.v_
 have hSD:(Builtin.unsafeSliceData_ #[151] 187 #[.slice (some ⟨g,0,none⟩) l.length cap]).run Try.prog w.drew = .ok (.pointer (some ⟨g,0,none⟩)) w.drew :=
  Lib.run_unsafeSliceData_row _ _ _ _ _ _ (by omega)
 have hUS:(Builtin.unsafeString_ #[187,3] 9 #[.pointer (some ⟨g,0,none⟩),.int .i64 l.length]).run Try.prog w.drew = .ok (.string ⟨l.toArray⟩) (w.drew.freeze ⟨g,0,none⟩ l.length):=by
  refine Lib.run_unsafeString_row w.drew 187 3 9 5 Try.underlying187 (by kernel_rfl) g cur.size (by have hg':w.drew.heap[g]? = some (.cells cur 5 (0,0)):=hg;simp [World.shape?,hg']) l h0 (by omega) (by unfold maxLen at hcm;omega) ?_
  intro j x hx
  have:=hown.cells (g:=g) rfl j (.int .u8 x.toNat) (by simp [Lib.byteCells,hx])
  exact this
 have ae3:=ah.mk hbg
 have hgb':=ah.mk hgb
 clear hbg hgb h hown hg hnc hcm hcs htake hl0 h0
 go_enter Try.func112,Try.ntmps112
 go_wp2
 go_region
 all_goals (go_wp2;go_ret;exact ⟨rfl,_,ae3.out,hgb'.out,rfl⟩)
def aH.Kept (b:Nat) (w w':World):Prop:=∀ a:Addr,a.block = b → w'.cell? a = w.cell? a ∧ w'.frozen? a = w.frozen? a
theorem aH.Kept.of_block {b:Nat} {w w':World} (h:w'.heap[b]? = w.heap[b]?):aH.Kept b w w':=by
 rintro a rfl
 exact ⟨World.cell?_of_block h,World.frozen?_of_block h⟩
theorem aH.Ck (W:World) (q:Option Addr):(Builtin.unsafeString_ #[187,3] 9 #[.pointer q,.int .i64 0]).run Try.prog W = .ok (.string .empty) W :=
 Lib.run_unsafeString_none W _ _ _ q
theorem aH.of_nil (B0 b o:Nat) (w:World) (c1:w.drew.cell? ⟨b,o + 1,none⟩ = some (.slice none 0 0)) :
  Calls Try.prog 112 #[.pointer (some ⟨b,o,none⟩)] w fun e w'=>e = .returned (.string ⟨#[]⟩) ∧ aH.Kept b w w' ∧ Below B0 w w':=by
 have hUS:=aH.Ck
 have hSD:(Builtin.unsafeSliceData_ #[151] 187 #[.slice none 0 0]).run Try.prog w.drew = .ok (.pointer none) w.drew:=rfl
 go_enter Try.func112,Try.ntmps112
 go_wp2
 go_region
 all_goals (go_wp2;go_ret;exact ⟨rfl,aH.Kept.of_block rfl,Below.drew (Below.refl B0 w)⟩)
theorem aH.JJ (B0 b o g:Nat) (cur:Array Value) (w:World) (hBw:B0 ≤ w.heap.size) (hlt:b < w.heap.size) (c0:w.cell? ⟨b,o + 1,none⟩ = some (.slice (some ⟨g,0,none⟩) 0 0)) (hg:w.heap[g]? = some (.cells cur 5 (0,0))) :
  Calls Try.prog 112 #[.pointer (some ⟨b,o,none⟩)] w fun e w'=>e = .returned (.string ⟨#[]⟩) ∧ aH.Kept b w w' ∧ Below B0 w w':=by
 have hUS:=aH.Ck
 have hSD:(Builtin.unsafeSliceData_ #[151] 187 #[.slice (some ⟨g,0,none⟩) 0 0]).run Try.prog w.drew = .ok (.pointer (some ⟨w.drew.heap.size,0,none⟩)) (w.drew.alloc (.view ⟨g,0,none⟩ 5)) :=
  Lib.run_unsafeSliceData_zero w.drew _ _ 5 Try.underlying187 ⟨g,0,none⟩ 0 (5,cur.size) (by have hg':w.drew.heap[g]? = some (.cells cur 5 (0,0)):=hg;simp [World.shape?,hg'])
 have hold:(w.drew.alloc (.view ⟨g,0,none⟩ 5)).heap[b]? = w.heap[b]?:=(Lib.alloc_old w.drew _ b hlt)
 have c2:(w.drew.alloc (.view ⟨g,0,none⟩ 5)).cell? ⟨b,o + 1,none⟩ = some (.slice (some ⟨g,0,none⟩) 0 0):=by
  rw [World.cell?_of_block (w:=w) (a:=⟨b,o + 1,none⟩) hold];exact c0
 have c3:(w.alloc (.view ⟨g,0,none⟩ 5)).drew.cell? ⟨b,o + 1,none⟩ = some (.slice (some ⟨g,0,none⟩) 0 0):=c2
 have hold':=ah.mk hold
 have hBw':=ah.mk hBw
 clear hold hBw hlt
 go_enter Try.func112,Try.ntmps112
 go_wp2
 go_region
 all_goals (go_wp2;go_ret;exact ⟨rfl,aH.Kept.of_block hold'.out,(Below.drew (Below.refl B0 w)).alloc hBw'.out _⟩)
theorem aH.QD (B0 b o g cap:Nat) (w:World) (hc0:cap ≠ 0) (c1:w.drew.cell? ⟨b,o + 1,none⟩ = some (.slice (some ⟨g,0,none⟩) 0 cap)) :
  Calls Try.prog 112 #[.pointer (some ⟨b,o,none⟩)] w fun e w'=>e = .returned (.string ⟨#[]⟩) ∧ aH.Kept b w w' ∧ Below B0 w w':=by
 have hUS:=aH.Ck
 have hSD:(Builtin.unsafeSliceData_ #[151] 187 #[.slice (some ⟨g,0,none⟩) 0 cap]).run Try.prog w.drew = .ok (.pointer (some ⟨g,0,none⟩)) w.drew :=
  Lib.run_unsafeSliceData_row _ _ _ _ _ _ hc0
 clear hc0
 go_enter Try.func112,Try.ntmps112
 go_wp2
 go_region
 all_goals (go_wp2;go_ret;exact ⟨rfl,aH.Kept.of_block rfl,Below.drew (Below.refl B0 w)⟩)
theorem aH.any (T:TypeId) (B0 b o:Nat) (cs:Array Value) (p v:Value) (t:ByteArray) (w:World) (h:B.uI T 5 B0 b o cs p v (Lib.strCells t) w) (hBw:B0 ≤ w.heap.size) :
  Calls Try.prog 112 #[.pointer (some ⟨b,o,none⟩)] w fun e w'=>e = .returned (.string t) ∧ aH.Kept b w w' ∧ Below B0 w w':=by
 have c1:∀ W:World,W.heap = w.heap → W.cell? ⟨b,o + 1,none⟩ = some v:=by
  intro W hW
  have:W.heap[b]? = some (.cells cs T (0,0)):=by rw [hW];exact h.blk
  rw [Lib.cell_of_heap this];exact h.v_
 by_cases h0:t.data.toList = []
 ·have ht:t = ⟨#[]⟩:=aiI (Array.toList_inj.mp h0)
  subst ht
  rcases h.own.2 with ⟨rfl,_⟩ | ⟨g,cap,cur,rfl,hbg,hg,_,_,_,_⟩
  ·exact aH.of_nil B0 b o w (c1 _ rfl)
  ·by_cases hc:cap = 0
   ·subst hc
    exact aH.JJ B0 b o g cur w hBw h.lt (c1 _ rfl) hg
   ·exact aH.QD B0 b o g cap w hc (c1 _ rfl)
 ·refine (aH.told T B0 b o cs p v t.data.toList w (by rw [← B.yj];exact h) h0).mono ?_
  rintro e w' ⟨rfl,g,h1,h2,rfl⟩
  refine ⟨rfl,aH.Kept.of_block ?_,Lib.below_freeze (Below.drew (Below.refl B0 w)) (p:=⟨g,0,none⟩) h1 _⟩
  unfold World.freeze
  split
  ·rfl
  ·simp [Array.getElem?_modify,h2]
   rfl
theorem qE.any (T:TypeId) (B0 b o:Nat) (cs:Array Value) (p v:Value) (bs:List Value) (w:World) (h:B.uI T 5 B0 b o cs p v bs w) :
  Calls Try.prog 113 #[.pointer (some ⟨b,o,none⟩)] w fun e w'=>e = .returned (.int .i64 bs.length) ∧ w = w':=by
 obtain ⟨ao,cap,rfl⟩:∃ ao cap,v = .slice ao bs.length cap:=by
  rcases h.own.2 with ⟨hv,h0⟩ | ⟨g,cap,cur,hv,_⟩
  ·exact ⟨none,0,by rw [hv,h0]⟩
  ·exact ⟨_,_,hv⟩
 have c1:w.cell? ⟨b,o + 1,none⟩ = some (.slice ao bs.length cap):=by rw [Lib.cell_of_heap h.blk];exact h.v_
 clear h
 go_enter Try.func113,Try.ntmps113
 go_wp2
 go_ret
 exact ⟨rfl,rfl⟩
theorem bW.info : (Try.prog.info? 174).map (·.size) = some 2:=by kernel_rfl
theorem bW.used (b o:Nat) (w:World) (h0:w.cell? ⟨b,o,none⟩ = some (.pointer (some ⟨b,o,none⟩))) :
  Calls Try.prog 116 #[.pointer (some ⟨b,o,none⟩)] w fun e w'=>e = .returned (.tuple #[]) ∧ w' = w:=by
 obtain ⟨j,hj,_⟩:=ajc.1 bW.info
 go_enter Try.func116,Try.ntmps116
 go_wp2
 rw [Lib.run_neq_ptr_same w _ Try.underlying172 hj]
 go_wp2
 go_end0
 exact ⟨rfl,rfl⟩
theorem bW.fresh (b o:Nat) (T:TypeId) (n:Nat) (w:World) (h0:w.cell? ⟨b,o,none⟩ = some (.pointer none)) (hsh:w.shape? b = some (T,n)) (hn:o < n)
  (hlies:liesAt Try.prog Try.prog.depth T (n / Try.prog.cellsOf T) o 174 1 = true) (hfz:w.frozen? ⟨b,o,none⟩ = false) :
  Calls Try.prog 116 #[.pointer (some ⟨b,o,none⟩)] w fun e w'=>e = .returned (.tuple #[]) ∧ w' = w.setCell ⟨b,o,none⟩ (.pointer (some ⟨b,o,none⟩)):=by
 obtain ⟨j,hj,hjs⟩:=ajc.1 bW.info
 have ae4:j.size ≠ 0:=by rw [hjs];decide
 clear hjs
 have hn':=ah.mk hn
 clear hn
 go_enter Try.func116,Try.ntmps116
 go_wp2
 rw [Lib.run_to_unsafe w ⟨b,o,none⟩ Try.underlying172 Try.underlying188 hj ae4 hsh hn'.out]
 simp only [Result.andThen]
 rw [Oper.upon_value]
 go_wp2
 rw [run_callFunc_extern Try.func118 (by kernel_rfl) (by kernel_rfl) (by kernel_rfl) (e:=Extern.AbiNoEscape.same) (by kernel_rfl)]
 rw [Lib.run_noEscape]
 simp only [Result.andThen]
 rw [Oper.upon_value]
 go_wp2
 rw [Lib.run_from_unsafe w ⟨b,o,none⟩ Try.underlying188 Try.underlying172 hj hsh hlies]
 simp only [Result.andThen]
 rw [Oper.upon_value]
 go_wp2
 go_end0
 exact ⟨rfl,rfl⟩
theorem bW.any (T:TypeId) (B0 b o:Nat) (cs:Array Value) (p v:Value) (bs:List Value) (w:World) (h:B.uI T 5 B0 b o cs p v bs w)
  (hlies:liesAt Try.prog Try.prog.depth T (cs.size / Try.prog.cellsOf T) o 174 1 = true) :
  Calls Try.prog 116 #[.pointer (some ⟨b,o,none⟩)] w fun e w'=>e = .returned (.tuple #[]) ∧
   B.uI T 5 B0 b o (cs.setIfInBounds o (.pointer (some ⟨b,o,none⟩))) (.pointer (some ⟨b,o,none⟩)) v bs w' ∧ Below B0 w w':=by
 have ho:o < cs.size:=by
  rcases aiT o cs.size with h' | h'
  ·exact h'
  ·have:=h.p_;rw [aiN h'] at this;cases this
 have hsh:w.shape? b = some (T,cs.size):=by simp [World.shape?,h.blk]
 have hc:w.cell? ⟨b,o,none⟩ = some p:=by rw [Lib.cell_of_heap h.blk];exact h.p_
 rcases h.self with rfl | rfl
 ·refine (bW.fresh b o T cs.size w hc hsh ho hlies (Lib.frozen_of_heap h.blk o)).mono ?_
  rintro e w' ⟨rfl,rfl⟩
  exact ⟨rfl,h.used,(Below.refl B0 w).setCell (p:=⟨b,o,none⟩) h.base _⟩
 ·refine (bW.used b o w hc).mono ?_
  rintro e w' ⟨rfl,rfl⟩
  exact ⟨rfl,by rw [h.JI];exact h,Below.refl B0 _⟩
theorem gI.infoByte : (Try.prog.info? 5).map (fun i=>(i.zero,i.size,i.bytes)) = some (some (.int .u8 0),1,1):=by kernel_rfl
theorem gI.any (T:TypeId) (B0 b o:Nat) (cs:Array Value) (p v:Value) (t:ByteArray) (s:ByteArray) (w:World) (h:B.uI T 5 B0 b o cs p v (Lib.strCells t) w)
  (hlies:liesAt Try.prog Try.prog.depth T (cs.size / Try.prog.cellsOf T) o 174 1 = true) (hT:T ≠ 5) (hlen:t.size + s.size ≤ 140737488355328) (hBw:B0 ≤ w.heap.size) :
  Calls Try.prog 114 #[.pointer (some ⟨b,o,none⟩),.string s] w fun e w'=>e = .returned (.tuple #[.int .i64 s.size,.nilIface]) ∧
   (∃ v',B.uI T 5 B0 b o ((cs.setIfInBounds o (.pointer (some ⟨b,o,none⟩))).setIfInBounds (o + 1) v') (.pointer (some ⟨b,o,none⟩)) v' (Lib.strCells (t ++ s)) w') ∧ Below B0 w w':=by
 obtain ⟨i0,hi,hz0,hz1,hz2⟩:=info_parts gI.infoByte
 have hL:=Lib.strCells_length t
 have VW:=ah.mk hlies
 clear hlies
 have hC:=ah.mk h
 clear h
 have hT':=ah.mk hT
 clear hT
 have hlen':=ah.mk hlen
 clear hlen
 go_enter Try.func114,Try.ntmps114
 go_wp2_with (go_at_call 116;refine (bW.any T B0 b o cs p v _ _ hC.out VW.out).mono ?_)
 rintro e w1 ⟨rfl,h1,hb1⟩
 have c1:w1.cell? ⟨b,o + 1,none⟩ = some v:=by rw [Lib.cell_of_heap h1.blk];exact h1.v_
 have hown:=h1.own
 go_wp2_with (at_builtin;refine Lib.wpList_append_own_string _ rfl _ _ 151 9 rfl B0 5 i0 Try.underlying151 Try.underlying9 hi hz0 hz1 hz2 _ _ _ rfl hown s rfl ?c3 ?c4 ?c5 ?_)
 case c3=>rw [hL];unfold maxLen;have:=hlen'.out;omega
 case c4=>rw [hL];have:=hlen'.out;omega
 case c5=>have:=hb1.size;omega
 intro v' w2 hown' hgrow _
 have hlt:=h1.lt
 have hb2:w2.heap[b]? = some (.cells (cs.setIfInBounds o (.pointer (some ⟨b,o,none⟩))) T (0,0)):=by
  rw [hgrow.block b hlt (fun e=>h1.ne e.symm)]
  exact h1.blk
 have d1:w2.cell? ⟨b,o + 1,none⟩ = some v:=by rw [Lib.cell_of_heap hb2];exact h1.v_
 have f1:w2.frozen? ⟨b,o + 1,none⟩ = false:=Lib.frozen_of_heap hb2 (o + 1)
 obtain ⟨ao,n',cap,rfl⟩:∃ ao n' cap,v' = .slice ao n' cap:=by
  rcases hown'.2 with ⟨hv,_⟩ | ⟨g,cap,cur,hv,_⟩
  ·exact ⟨_,_,_,hv⟩
  ·exact ⟨_,_,_,hv⟩
 have hown2:w2.ownsRow B0 5 1 (.slice ao n' cap) (Lib.strCells (t ++ s)).length (Lib.strCells (t ++ s)):=by
  rw [← B.vR]
  simpa [Lib.strCells_length] using hown'
 have hput:=ah.mk (h1.put hb2 hown2 hT'.out)
 have hbel:=ah.mk ((hb1.grown hgrow (by have:=hb1.size;omega) (fun k hk=>(hown.lt k hk).1)).setCell (p:=⟨b,o + 1,none⟩) h1.base (.slice ao n' cap))
 clear hb2 hown2 hown' hgrow h1 hown hL hb1 c1
 go_wp2
 go_ret2
 exact ⟨rfl,⟨_,hput.out⟩,hbel.out⟩
def strings_Join.cat : List ByteArray → ByteArray
 | []=>⟨#[]⟩
 | x :: l=>x ++ strings_Join.cat l
theorem strings_Join.yt : ∀ l:List ByteArray,(⟨(Lib.join (l.map (·.data.toList)) (⟨#[]⟩:ByteArray).data.toList).toArray⟩:ByteArray) = strings_Join.cat l
 | []=>rfl
 | [x]=>by
  rw [ahO,ahV,Lib.join_one]
  refine aiI ?_
  simp [strings_Join.cat,ajd]
 | x :: y :: l=>by
  have h:=strings_Join.yt (y :: l)
  refine aiI ?_
  rw [strings_Join.cat,ajd,← h]
  simp [Lib.join,List.intercalate]
theorem strings_Join.calls (v:Value) (l:List ByteArray) (base:Nat) (ok:Nat → Prop) (w:World) (hr:Kd.R Kd.string 9 w base ok v l) (hl:l.length ≤ 1000000) (hz:(strings_Join.cat l).size ≤ 140737488355328) :
  Calls Try.prog 110 #[v,.string ⟨#[]⟩] w fun e w'=>e = .returned (.string (strings_Join.cat l)) ∧ Below w.heap.size w w':=by
 have ho:=Kd.sW hr
 rcases ho.2 with ⟨rfl,h0⟩ | ⟨g,cap,cur,rfl,hg,hh,hc,_,_,ht⟩
 ·obtain rfl:=List.length_eq_zero_iff.mp h0
  exact (Any.strings_Join_none Ih vv none 0 ⟨#[]⟩ w).mono fun e w' ⟨he,hw⟩=>⟨he,hw ▸ Below.refl _ _⟩
 ·have hlt:g < w.heap.size:=(aiJ.1 hh).1
  have hcells:∀ (j:Nat) x,l[j]? = some x → w.cell? ⟨g,0 + j,none⟩ = some (.string x):=by
   intro j x hx
   have hj:j < l.length:=(aiu.1 hx).1
   have h:=(Kd.MU ByteArray.empty hr (j:Int) (by omega) (by omega)).1
   rw [ah8]
   rw [Int.toNat_natCast] at h
   rw [h]
   unfold FU
   rw [Int.toNat_natCast,ah5,hx]
   rfl
  have hlen:(Lib.join (l.map (·.data.toList)) (⟨#[]⟩:ByteArray).data.toList).length ≤ 140737488355328:=by
   have h:=ah1 ByteArray.size (strings_Join.yt l)
   rw [← h] at hz
   simpa [ByteArray.size] using hz
  refine (Any.strings_Join Ih vv g 0 cap l ⟨#[]⟩ w hcells hlt (by omega) hc hlen).mono fun e w' ⟨he,hw⟩=>⟨?_,hw⟩
  rw [he,strings_Join.yt]
end
section
open Go.RowKit Go.Proofs.YtfokaoeinpnagaaW.aR Go.Proofs.YtfokaoeinpnagaaW.dD Go.Proofs.YtfokaoeinpnagaaW.eB
attribute [local go_sem] jD jE kN kP iV iW jF jG
def au.cs (msg:ByteArray) (i l n:Int) (p v:Value):Array Value:=#[.string msg,.int .i64 i,.int .i64 l,.int .i64 n,p,v]
def au.Rd (B0 g:Nat) (msg:ByteArray) (i l n:Int) (t:ByteArray) (w:World):Prop :=
 ∃ p v,B.uI 176 5 B0 g 4 (au.cs msg i l n p v) p v (Lib.strCells t) w
theorem au.Rd.cells {B0 g:Nat} {msg:ByteArray} {i l n:Int} {t:ByteArray} {w:World} (h:au.Rd B0 g msg i l n t w) :
  w.cell? ⟨g,0,none⟩ = some (.string msg) ∧ w.cell? ⟨g,1,none⟩ = some (.int .i64 i) ∧ w.cell? ⟨g,2,none⟩ = some (.int .i64 l) ∧ w.cell? ⟨g,3,none⟩ = some (.int .i64 n) ∧
  w.frozen? ⟨g,1,none⟩ = false ∧ w.frozen? ⟨g,2,none⟩ = false ∧ w.frozen? ⟨g,3,none⟩ = false:=by
 obtain ⟨p,v,h⟩:=h
 exact ⟨by rw [Lib.cell_of_heap h.blk];rfl,by rw [Lib.cell_of_heap h.blk];rfl,by rw [Lib.cell_of_heap h.blk];rfl,by rw [Lib.cell_of_heap h.blk];rfl,Lib.frozen_of_heap h.blk 1,Lib.frozen_of_heap h.blk 2,Lib.frozen_of_heap h.blk 3⟩
theorem au.Rd.base {B0 g:Nat} {msg:ByteArray} {i l n:Int} {t:ByteArray} {w:World} (h:au.Rd B0 g msg i l n t w):B0 ≤ g ∧ g < w.heap.size:=by
 obtain ⟨p,v,h⟩:=h
 exact ⟨h.base,h.lt⟩
theorem au.Rd.drewN {B0 g:Nat} {msg:ByteArray} {i l n:Int} {t:ByteArray} {w:World} (h:au.Rd B0 g msg i l n t w) (m:Nat):au.Rd B0 g msg i l n t (w.drewN m):=by
 obtain ⟨p,v,h⟩:=h
 exact ⟨p,v,h.drewN m⟩
theorem au.Rd.set1 {B0 g:Nat} {msg:ByteArray} {i l n:Int} {t:ByteArray} {w:World} (h:au.Rd B0 g msg i l n t w) (x:Int):au.Rd B0 g msg x l n t (w.setCell ⟨g,1,none⟩ (.int .i64 x)):=by
 obtain ⟨p,v,h⟩:=h
 exact ⟨p,v,h.set 1 _ (by omega) (by omega)⟩
theorem au.Rd.set2 {B0 g:Nat} {msg:ByteArray} {i l n:Int} {t:ByteArray} {w:World} (h:au.Rd B0 g msg i l n t w) (x:Int):au.Rd B0 g msg i x n t (w.setCell ⟨g,2,none⟩ (.int .i64 x)):=by
 obtain ⟨p,v,h⟩:=h
 exact ⟨p,v,h.set 2 _ (by omega) (by omega)⟩
theorem au.Rd.aaI {B0 g:Nat} {msg:ByteArray} {i l n:Int} {t:ByteArray} {w:World} (h:au.Rd B0 g msg i l n t w) (x:Int):au.Rd B0 g msg i l x t (w.setCell ⟨g,3,none⟩ (.int .i64 x)):=by
 obtain ⟨p,v,h⟩:=h
 exact ⟨p,v,h.set 3 _ (by omega) (by omega)⟩
theorem au.cut (B0 g:Nat) (msg:ByteArray) (i l n:Int) (t:ByteArray) (w:World) (h:au.Rd B0 g msg i l n t w) (hs:msg.size ≤ 140737488355328) (hg:¬ jU msg i 2) :
  Calls Try.prog 108 #[.pointer (some ⟨g,0,none⟩)] w fun e w'=>e = .returned (.int .i64 2) ∧ au.Rd B0 g msg i l n t w' ∧ Below B0 w w':=by
 have hget:=get_eq 9 (ahG _) msg i 2 (by omega)
 rw [ahD hg] at hget
 have nu:=ah.mk hget
 obtain ⟨c0,c1,c2,c3,f1,f2,f3⟩:=h.cells
 have hR:=ah.mk h
 clear hget h hs hg
 go_enter Try.func108,Try.ntmps108
 go_wp2
 go_quiet ((go_at_call 80;exact Calls.quiet_of ((aI.calls 9 msg i 2 _ _ _ nu.out).mono fun _ _ h=>⟨h.1,h.2.out⟩)))
 go_wp2
 go_ret
 exact ⟨rfl,hR.out.drewN _,aj (Below.refl B0 w) _⟩
theorem au.name (B0 g:Nat) (msg:ByteArray) (i l n:Int) (t:ByteArray) (w:World) (h:au.Rd B0 g msg i l n t w) (hs:msg.size ≤ 140737488355328) (hg:jU msg i 2) (hl:l ≤ gV 2 msg i - 49152) :
  Calls Try.prog 108 #[.pointer (some ⟨g,0,none⟩)] w fun e w'=>e = .returned (.int .i64 3) ∧ au.Rd B0 g msg i l n t w' ∧ Below B0 w w':=by
 have hget:=get_eq 9 (ahG _) msg i 2 (by omega)
 rw [ahC hg] at hget
 have hr:=oz 2 msg i
 have nu:=ah.mk (show aI.f 9 msg i 2 = some (gV 2 msg i,true) from hget)
 obtain ⟨c0,c1,c2,c3,f1,f2,f3⟩:=h.cells
 have hR:=ah.mk h
 generalize gV 2 msg i = q at nu hr hl
 have hb0:0 ≤ q:=hr.1
 have hb1:q ≤ 65535:=by have:=hr.2;simp at this;omega
 have d1:decide (l ≤ q - 49152) = true:=ahE hl
 clear hget h hs hg hr hl
 go_enter Try.func108,Try.ntmps108
 go_wp2
 go_quiet ((go_at_call 80;exact Calls.quiet_of ((aI.calls 9 msg i 2 _ _ _ nu.out).mono fun _ _ h=>⟨h.1,h.2.out⟩)))
 go_wp2
 go_ret
 exact ⟨rfl,hR.out.drewN _,aj (Below.refl B0 w) _⟩
theorem au.ok (B0 g:Nat) (msg:ByteArray) (i l n:Int) (t:ByteArray) (w:World) (h:au.Rd B0 g msg i l n t w) (hs:msg.size ≤ 140737488355328) (hg:jU msg i 2) (hl:gV 2 msg i - 49152 < l) (n':Int) (hn0:ah (n' = if n = -1 then i + 2 else n)) :
  Calls Try.prog 108 #[.pointer (some ⟨g,0,none⟩)] w fun e w'=>e = .returned (.int .i64 0) ∧ au.Rd B0 g msg (gV 2 msg i - 49152) (gV 2 msg i - 49152) n' t w' ∧ Below B0 w w':=by
 have hget:=get_eq 9 (ahG _) msg i 2 (by omega)
 rw [ahC hg] at hget
 have hr:=oz 2 msg i
 have nu:=ah.mk (show aI.f 9 msg i 2 = some (gV 2 msg i,true) from hget)
 obtain ⟨c0,c1,c2,c3,f1,f2,f3⟩:=h.cells
 have hR:=ah.mk h
 have hi0:=hg.1
 have hi1:i ≤ 140737488355328:=by have:=hg.2.2.2;omega
 have hB:=ah.mk h.base.1
 generalize gV 2 msg i = q at nu hr hl ⊢
 have hb0:0 ≤ q:=hr.1
 have hb1:q ≤ 65535:=by have:=hr.2;simp at this;omega
 have d1:decide (l ≤ q - 49152) = false:=ahH (by omega)
 by_cases hn:n = -1
 ·subst hn
  have e':=hn0.out
  rw [ahC rfl] at e'
  subst e'
  clear hn0
  have Km:=ah.mk (((hR.out.aaI (i + 2)).set1 (q - 49152)).set2 (q - 49152))
  have hBl:=ah.mk ((((Below.refl B0 w).setCell (p:=⟨g,3,none⟩) hB.out (.int .i64 (i + 2))).setCell (p:=⟨g,1,none⟩) hB.out (.int .i64 (q - 49152))).setCell (p:=⟨g,2,none⟩) hB.out (.int .i64 (q - 49152)))
  clear hget h hs hg hr hl hR
  go_enter Try.func108,Try.ntmps108
  go_wp2
  go_quiet ((go_at_call 80;exact Calls.quiet_of ((aI.calls 9 msg i 2 _ _ _ nu.out).mono fun _ _ h=>⟨h.1,h.2.out⟩)))
  go_wp2
  go_ret
  exact ⟨rfl,Km.out.drewN _,aj hBl.out _⟩
 ·have e':=hn0.out
  have d2:(n == -1) = false:=by simpa using hn
  rw [ahD hn] at e'
  subst e'
  clear hn0
  have Km:=ah.mk ((hR.out.set1 (q - 49152)).set2 (q - 49152))
  have hBl:=ah.mk (((Below.refl B0 w).setCell (p:=⟨g,1,none⟩) hB.out (.int .i64 (q - 49152))).setCell (p:=⟨g,2,none⟩) hB.out (.int .i64 (q - 49152)))
  clear hget h hs hg hr hl hR hn
  go_enter Try.func108,Try.ntmps108
  go_wp2
  go_quiet ((go_at_call 80;exact Calls.quiet_of ((aI.calls 9 msg i 2 _ _ _ nu.out).mono fun _ _ h=>⟨h.1,h.2.out⟩)))
  go_wp2
  go_ret
  exact ⟨rfl,Km.out.drewN _,aj hBl.out _⟩
theorem jK.str (B0 g:Nat) (msg:ByteArray) (i l n:Int) (t:ByteArray) (w:World) (h:au.Rd B0 g msg i l n t w) (hw:B0 ≤ w.heap.size) :
  Calls Try.prog 112 #[.pointer (some ⟨g,4,none⟩)] w fun e w'=>e = .returned (.string t) ∧ (w'.cell? ⟨g,3,none⟩ = some (.int .i64 n)) ∧ Below B0 w w':=by
 have hc:=h.cells.2.2.2.1
 obtain ⟨p,v,h⟩:=h
 refine (aH.any _ B0 g 4 _ p v t w h hw).mono ?_
 rintro e w' ⟨rfl,hk,hb⟩
 exact ⟨rfl,by rw [(hk ⟨g,3,none⟩ rfl).1];exact hc,hb⟩
theorem jK.any (B0 g:Nat) (msg:ByteArray) (i l n:Int) (t:ByteArray) (w:World) (h:au.Rd B0 g msg i l n t w) (hw:B0 ≤ w.heap.size) (ht:t.size ≤ 140737488355328) (hi:0 ≤ i) (hi2:i ≤ 140737488355328)
  (n':Int) (hn0:ah (n' = if n = -1 then i + 1 else n)) :
  Calls Try.prog 107 #[.pointer (some ⟨g,0,none⟩)] w fun e w'=>e = .returned (.tuple #[.string (t ++ (⟨#[0]⟩:ByteArray)),.int .i64 n',.int .i64 0]) ∧ Below B0 w w':=by
 obtain ⟨c0,c1,c2,c3,f1,f2,f3⟩:=h.cells
 have hR:=ah.mk h
 have hB:=ah.mk h.base.1
 have hw':=ah.mk hw
 have ht1:(t.size + 1 ≤ 9223372036854775807) = True:=ahM (by omega)
 have ht2:(9223372036854775807 < t.size + 1) = False:=eq_false (by omega)
 have ht3:decide (t.size + 1 ≤ 9223372036854775807) = true:=ahE (by omega)
 by_cases hn:n = -1
 ·subst hn
  have e':=hn0.out
  rw [ahC rfl] at e'
  subst e'
  clear hn0
  have Km:=ah.mk (hR.out.aaI (i + 1))
  have hc3:=Km.out.cells.2.2.2.1
  have hBl:=ah.mk ((Below.refl B0 w).setCell (p:=⟨g,3,none⟩) hB.out (.int .i64 (i + 1)))
  have hsz:=ah.mk (show B0 ≤ (w.setCell ⟨g,3,none⟩ (.int .i64 (i + 1))).heap.size by have:=hBl.out.size;omega)
  clear h hw hR ht hB hw'
  go_enter Try.func107,Try.ntmps107
  go_wp2
  generalize w.setCell ⟨g,3,none⟩ (.int .i64 (i + 1)) = w1 at *
  clear c0 c1 c2 c3 f1 f2 f3
  go_region_with (go_at_call 112;refine (jK.str B0 g msg i l (i + 1) t _ (by first | exact Km.out | exact Km.out.drewN 1 | exact Km.out.drewN _) (by first | exact hsz.out | (simp;exact hsz.out))).mono ?_;rintro e w' ⟨rfl,hk3,hb⟩;have hb':=ah.mk hb;clear hb)
  all_goals
   go_wp2
   go_ret3
   exact ⟨rfl,by first | exact hBl.out.trans hb'.out | exact (ji hBl.out).trans hb'.out | exact ji (hBl.out.trans hb'.out) | exact hBl.out.trans (ji hb'.out)⟩
 ·have e':=hn0.out
  have d2:(n == -1) = false:=by simpa using hn
  rw [ahD hn] at e'
  subst e'
  clear hn0
  clear h hw ht hB
  go_enter Try.func107,Try.ntmps107
  go_wp2
  clear c0 c1 c2 f1 f2 f3
  go_region_with (go_at_call 112;refine (jK.str B0 g msg i l n' t _ (by first | exact hR.out | exact hR.out.drewN 1 | exact hR.out.drewN _) (by first | exact hw'.out | (simp;exact hw'.out))).mono ?_;rintro e w' ⟨rfl,hk3,hb⟩;have hb':=ah.mk hb;clear hb)
  all_goals
   go_wp2
   go_ret3
   exact ⟨rfl,by first | exact hb'.out | exact (ji (Below.refl B0 w)).trans hb'.out | exact ji hb'.out⟩
theorem cO.cut (B0 g:Nat) (msg:ByteArray) (i l n z:Int) (t:ByteArray) (w:World) (h:au.Rd B0 g msg i l n t w) (hs:msg.size ≤ 140737488355328) (hz0:0 ≤ z) (hz1:z ≤ 255) (hg:¬ iB msg i (1 + z)) :
  Calls Try.prog 109 #[.pointer (some ⟨g,0,none⟩),.int .i64 z] w fun e w'=>e = .returned (.int .i64 2) ∧ au.Rd B0 g msg i l n t w' ∧ Below B0 w w':=by
 have hget:=tH msg i (1 + z) (by omega)
 rw [ahD hg] at hget
 have nu:=ah.mk hget
 obtain ⟨c0,c1,c2,c3,f1,f2,f3⟩:=h.cells
 have hR:=ah.mk h
 clear hget h hs hg
 go_enter Try.func109,Try.ntmps109
 go_wp2
 go_quiet ((go_at_call 94;exact Calls.quiet_of ((eH.calls msg i (1 + z) _ _ _ nu.out).mono fun _ _ h=>⟨h.1,h.2.out⟩)))
 go_wp2
 go_ret
 exact ⟨rfl,hR.out.drewN _,aj (Below.refl B0 w) _⟩
theorem cO.len (B0 g:Nat) (msg:ByteArray) (i l n:Int) (t:ByteArray) (w:World) (h:au.Rd B0 g msg i l n t w) :
  Calls Try.prog 113 #[.pointer (some ⟨g,4,none⟩)] w fun e w'=>e = .returned (.int .i64 t.size) ∧ w = w':=by
 obtain ⟨p,v,h⟩:=h
 have:=qE.any _ B0 g 4 _ p v _ w h
 rw [Lib.strCells_length] at this
 exact this
theorem cO.lies : liesAt Try.prog Try.prog.depth 176 (6 / Try.prog.cellsOf 176) 4 174 1 = true:=by kernel_rfl
theorem cO.write (B0 g:Nat) (msg:ByteArray) (i l n:Int) (t s:ByteArray) (w:World) (h:au.Rd B0 g msg i l n t w) (hlen:t.size + s.size ≤ 140737488355328) (hBw:B0 ≤ w.heap.size) :
  Calls Try.prog 114 #[.pointer (some ⟨g,4,none⟩),.string s] w fun e w'=>e = .returned (.tuple #[.int .i64 s.size,.nilIface]) ∧ au.Rd B0 g msg i l n (t ++ s) w' ∧ Below B0 w w':=by
 obtain ⟨p,v,h⟩:=h
 refine (gI.any _ B0 g 4 _ p v t s w h cO.lies (by decide) hlen hBw).mono ?_
 rintro e w' ⟨rfl,⟨v',h'⟩,hb⟩
 exact ⟨rfl,⟨_,v',h'⟩,hb⟩
theorem cO.name (B0 g:Nat) (msg:ByteArray) (i l n z:Int) (t:ByteArray) (w:World) (h:au.Rd B0 g msg i l n t w) (hs:msg.size ≤ 140737488355328) (hz0:0 ≤ z) (hz1:z ≤ 255) (hg:iB msg i (1 + z)) (ht:t.size ≤ 140737488355328) (hl:255 ≤ (t.size:Int) + (1 + z)) :
  Calls Try.prog 109 #[.pointer (some ⟨g,0,none⟩),.int .i64 z] w fun e w'=>e = .returned (.int .i64 3) ∧ au.Rd B0 g msg i l n t w' ∧ Below B0 w w':=by
 have hget:=tH msg i (1 + z) (by omega)
 rw [ahC hg] at hget
 have hsz:=B.size_ext hg.1 hg.2.1 hg.2.2
 have nu:=ah.mk hget
 obtain ⟨c0,c1,c2,c3,f1,f2,f3⟩:=h.cells
 have hR:=ah.mk h
 generalize msg.extract i.toNat (i + (1 + z)).toNat = lb at *
 have hlb:lb.size ≤ 256:=by omega
 have d1:decide (255 ≤ (t.size:Int) + (lb.size:Int)) = true:=ahE (by omega)
 have d2:decide (255 ≤ t.size + lb.size) = true:=ahE (by omega)
 clear hget h hs hg hsz hl
 go_enter Try.func109,Try.ntmps109
 go_wp2
 go_quiet ((go_at_call 94;exact Calls.quiet_of ((eH.calls msg i (1 + z) _ _ _ nu.out).mono fun _ _ h=>⟨h.1,h.2.out⟩)))
 go_wp2_with (go_at_call 113;refine (cO.len B0 g msg i l n t _ (hR.out.drewN _)).mono ?_;rintro e w' ⟨rfl,rfl⟩)
 go_ret
 exact ⟨rfl,hR.out.drewN _,aj (Below.refl B0 w) _⟩
theorem cO.ok (B0 g:Nat) (msg:ByteArray) (i l n z:Int) (t:ByteArray) (w:World) (h:au.Rd B0 g msg i l n t w) (hw:B0 ≤ w.heap.size) (hs:msg.size ≤ 140737488355328) (hz0:0 ≤ z) (hz1:z ≤ 255) (hg:iB msg i (1 + z)) (hl:(t.size:Int) + (1 + z) < 255) :
  Calls Try.prog 109 #[.pointer (some ⟨g,0,none⟩),.int .i64 z] w fun e w'=>e = .returned (.int .i64 0) ∧ au.Rd B0 g msg (i + (1 + z)) l n (t ++ msg.extract i.toNat (i + (1 + z)).toNat) w' ∧ Below B0 w w':=by
 have hget:=tH msg i (1 + z) (by omega)
 rw [ahC hg] at hget
 have hsz:=B.size_ext hg.1 hg.2.1 hg.2.2
 have nu:=ah.mk hget
 obtain ⟨c0,c1,c2,c3,f1,f2,f3⟩:=h.cells
 have hR:=ah.mk h
 have hi0:=hg.1
 have hi1:i ≤ 140737488355328:=by have:=hg.2.2;omega
 have hB:=ah.mk h.base.1
 generalize msg.extract i.toNat (i + (1 + z)).toNat = lb at *
 have hlb:lb.size ≤ 256:=by omega
 have htb:t.size ≤ 256:=by omega
 have d1:decide (255 ≤ (t.size:Int) + (lb.size:Int)) = false:=ahH (by omega)
 have d2:decide (255 ≤ t.size + lb.size) = false:=ahH (by omega)
 have hsum:=ah.mk (show i + (lb.size:Int) = i + (1 + z) by omega)
 have hw':=ah.mk hw
 clear hget h hs hg hsz hl hw
 go_enter Try.func109,Try.ntmps109
 go_wp2
 go_quiet ((go_at_call 94;exact Calls.quiet_of ((eH.calls msg i (1 + z) _ _ _ nu.out).mono fun _ _ h=>⟨h.1,h.2.out⟩)))
 go_wp2_with (first | (go_at_call 113;refine (cO.len B0 g msg i l n t _ (hR.out.drewN _)).mono ?_;rintro e w' ⟨rfl,rfl⟩) | (go_at_call 114;refine (cO.write B0 g msg i l n t lb _ (hR.out.drewN _) (by omega) (by simpa using hw'.out)).mono ?_))
 rintro e w1 ⟨rfl,Km,hb1⟩
 obtain ⟨e0,e1,e2,e3,g1,g2,g3⟩:=Km.cells
 have hR2:=ah.mk (Km.set1 (i + (1 + z)))
 rw [← hsum.out] at hR2
 have hBl:=ah.mk ((aj (Below.refl B0 w) _).trans (hb1.setCell (p:=⟨g,1,none⟩) hB.out (.int .i64 (i + (lb.size:Int)))))
 clear Km hb1 c0 c1 c2 c3 f1 f2 f3
 go_wp2
 go_ret
 exact ⟨rfl,by rw [← hsum.out];exact hR2.out,hBl.out⟩
def aX.l : Nat → ByteArray → Int → Int → Int → ByteArray → Option (ByteArray × Int × Int)
 | 0,_,_,_,_,_=>none
 | k + 1,msg,i,least,next,t =>
  if jU msg i 1 then
   (if bt msg i = 0 then some (t ++ (⟨#[0]⟩:ByteArray),(if next = -1 then i + 1 else next),0)
   else if 192 ≤ bt msg i then
    (if jU msg i 2 then
     (if gV 2 msg i - 49152 ≥ least then some (⟨#[]⟩,0,3)
     else aX.l k msg (gV 2 msg i - 49152) (gV 2 msg i - 49152) (if next = -1 then i + 2 else next) t)
    else some (⟨#[]⟩,0,2))
   else if 63 < bt msg i then some (⟨#[]⟩,0,3)
   else if iB msg i (1 + bt msg i) then
    (if (t.size:Int) + (1 + bt msg i) ≥ 255 then some (⟨#[]⟩,0,3)
    else aX.l k msg (i + (1 + bt msg i)) least next (t ++ msg.extract i.toNat (i + (1 + bt msg i)).toNat))
   else some (⟨#[]⟩,0,2))
  else some (⟨#[]⟩,0,2)
def aX.f (k:Nat) (a0:ByteArray) (a1:Int):Option (ByteArray × Int × Int):=if a0.size ≤ 140737488355328 then aX.l k a0 a1 a1 (-1) ⟨#[]⟩ else none
theorem aX.yg : ∀ k m i l n t,mQ (aX.l k m i l n t) (aX.l (k + 1) m i l n t)
 | 0,_,_,_,_,_=>fun r h=>by simp [aX.l] at h
 | k + 1,m,i,l,n,t=>by
  have ih:=aX.yg k
  rw [aX.l,aX.l]
  repeat' first
   | (with_reducible exact ih _ _ _ _ _)
   | (with_reducible exact mQ.refl _)
   | (with_reducible refine mQ.ite ?_ ?_)
theorem aX.mono : ∀ a0 a1 k,mQ (aX.f k a0 a1) (aX.f (k + 1) a0 a1):=by
 intro a0 a1 k
 unfold aX.f
 exact mQ.ite (aX.yg k _ _ _ _ _) (mQ.refl _)
theorem aX.ae5 (msg:ByteArray) (i:Int) (hs:msg.size ≤ 140737488355328) (hg:jU msg i 1):aI.f 9 msg i 1 = some (bt msg i,true):=by
 have h:=get_eq 9 (ahG _) msg i 1 (by omega)
 rw [ahC hg] at h
 rw [h]
 congr 1
 exact ah1 (·,true) (Er msg i)
theorem aX.start (w:World) (msg:ByteArray) (i:Int) :
  au.Rd w.heap.size w.heap.size msg i i (-1) ⟨#[]⟩ (w.alloc (.cells #[.string msg,.int .i64 i,.int .i64 i,.int .i64 (-1),.pointer none,.slice none 0 0] 176)) :=
 ⟨.pointer none,.slice none 0 0,ahG _,heap_alloc_new w _,rfl,rfl,.inl rfl,World.ownsRow_nil _ _ _ _,by simp [Value.ownBlock]⟩
def aX.St (R:ByteArray × Int × Int) (B0 g:Nat) (msg:ByteArray) (k:Nat) (x:Int) (w:World):Prop :=
 (x = 0 ∧ ∃ i l n t,au.Rd B0 g msg i l n t w ∧ aX.l k msg i l n t = some R ∧ t.size ≤ 255) ∨ (x ≠ 0 ∧ R = (⟨#[]⟩,0,x))
theorem aX.calls (k:Nat) (a0:ByteArray) (a1:Int) (r1:ByteArray) (r2 r3:Int) (w:World) (h:aX.f k a0 a1 = some (r1,r2,r3)) :
  Calls Try.prog 92 #[.string a0,.int .i64 a1] w fun e w'=>e = .returned (.tuple #[.string r1,.int .i64 r2,.int .i64 r3]) ∧ Below w.heap.size w w':=by
 unfold aX.f at h
 by_cases hs:a0.size ≤ 140737488355328
 ·rw [ahC hs] at h
  have hR:=ah.mk (aX.start w a0 a1)
  have hB:=ah.mk (ak (Below.refl w.heap.size w) (.cells #[.string a0,.int .i64 a1,.int .i64 a1,.int .i64 (-1),.pointer none,.slice none 0 0] 176))
  have hH:=ah.mk h
  have hsz:=ah.mk hs
  clear h hs
  go_enter Try.func92,Try.ntmps92
  go_wp2
  go_step3
  go_wp2
  go_step3
  go_wp2
  have hSt:=ah.mk (show aX.St (r1,r2,r3) w.heap.size w.heap.size a0 k 0 _ from .inl ⟨rfl,a1,a1, -1,⟨#[]⟩,hR.out,hH.out,by decide⟩)
  clear hR hH
  generalize w.alloc (.cells #[.string a0,.int .i64 a1,.int .i64 a1,.int .i64 (-1),.pointer none,.slice none 0 0] 176) = w1 at hSt hB ⊢
  generalize hgg:w.heap.size = g at hSt hB ⊢
  have hg':=ah.mk hgg
  clear hgg
  go_loopg [8] k (fun kq v8 wr=>∃ x:Int,v8 = .int .i64 x ∧ ah (aX.St (r1,r2,r3) g g a0 kq x wr) ∧ ah (kq ≤ k) ∧ ah (Below g w wr))
  case atStart=>exact ⟨0,rfl,hSt,⟨ahG _⟩,hB⟩
  case round =>
   clear hSt hB
   obtain ⟨x,rfl,HS,HK,HB⟩:=hrel
   rcases HS.out with ⟨hx,i,l,n,t,hR0,hH0,ht0⟩ | ⟨hx,hR⟩
   ·subst hx
    clear HS
    cases gk with
    | zero=>exact absurd hH0 (by simp [aX.l])
    | succ k2 =>
     have hR:=ah.mk hR0
     have m0:=hR0.cells.1
     have m1:=hR0.cells.2.1
     have hsz':=hsz.out
     have hBs:=ah.mk (show g ≤ wr.heap.size by have:=hR0.base.2;omega)
     have ht:=ah.mk ht0
     rw [aX.l] at hH0
     clear hR0 ht0
     by_cases hg:jU a0 i 1
     ·rw [ahC hg] at hH0
      have hget:=ah.mk (aX.ae5 a0 i hsz' hg)
      have hi0:=hg.1
      have hi1:i ≤ 140737488355328:=by have:=hg.2.2.2;omega
      have hii:=ah.mk (And.intro hi0 hi1)
      have hbr:=gB a0 i
      clear hi0 hi1 hsz' hg
      by_cases c1:bt a0 i = 0
      ·rw [ahC c1] at hH0
       rw [c1] at hget
       simp only [ahP,ahU] at hH0
       obtain ⟨rfl,h2,rfl⟩:=hH0
       have h2':=ah.mk h2.symm
       clear c1 hbr h2
       go_wp2
       go_quiet ((go_at_call 80;exact Calls.quiet_of ((aI.calls 9 a0 i 1 _ _ _ hget.out).mono fun _ _ h=>⟨h.1,h.2.out⟩)))
       go_wp2_with (go_at_call 107;refine (jK.any g g a0 i l n t _ (hR.out.drewN _) (by simpa using hBs.out) (by have:=ht.out;omega) hii.out.1 hii.out.2 r2 h2').mono ?_;rintro e w' ⟨rfl,hb⟩)
       (try rw [Exit.noGoto_ret])
       go_ret3
       exact ⟨rfl,by rw [hg'.out];exact (aj HB.out _).trans hb⟩
      ·rw [ahD c1] at hH0
       have d1:(bt a0 i == 0) = false:=by simpa using c1
       by_cases c2:192 ≤ bt a0 i
       ·rw [ahC c2] at hH0
        have d2:decide (192 ≤ bt a0 i) = true:=ahE c2
        by_cases c3:jU a0 i 2
        ·rw [ahC c3] at hH0
         by_cases c4:gV 2 a0 i - 49152 ≥ l
         ·rw [ahC c4] at hH0
          simp only [ahP,ahU] at hH0
          obtain ⟨rfl,rfl,rfl⟩:=hH0
          have hF:=fun (W:World) (hW:au.Rd g g a0 i l n t W)=>au.name g g a0 i l n t W hW hsz.out c3 c4
          have hF':=ah.mk hF
          clear hF c1 c2 c3 c4 hbr
          generalize bt a0 i = c at *
          go_wp2
          go_quiet ((go_at_call 80;exact Calls.quiet_of ((aI.calls 9 a0 i 1 _ _ _ hget.out).mono fun _ _ h=>⟨h.1,h.2.out⟩)))
          go_wp2_with (go_at_call 108;refine (hF'.out _ (hR.out.drewN _)).mono ?_;rintro e w' ⟨rfl,hR',hb⟩)
          go_roundg k2
          case measure=>have:=HK.out;omega
          case rel=>exact ⟨3,rfl,⟨.inr ⟨by decide,rfl⟩⟩,⟨by have:=HK.out;omega⟩,⟨(aj HB.out _).trans hb⟩⟩
         ·rw [ahD c4] at hH0
          have hF:=fun (W:World) (hW:au.Rd g g a0 i l n t W)=>au.ok g g a0 i l n t W hW hsz.out c3 (by omega) _ ⟨rfl⟩
          have hF':=ah.mk hF
          have hH1:=ah.mk hH0
          clear hF c1 c2 c3 c4 hbr hH0
          generalize bt a0 i = c at *
          go_wp2
          go_quiet ((go_at_call 80;exact Calls.quiet_of ((aI.calls 9 a0 i 1 _ _ _ hget.out).mono fun _ _ h=>⟨h.1,h.2.out⟩)))
          go_wp2_with (go_at_call 108;refine (hF'.out _ (hR.out.drewN _)).mono ?_;rintro e w' ⟨rfl,hR',hb⟩)
          go_roundg k2
          case measure=>have:=HK.out;omega
          case rel=>exact ⟨0,rfl,⟨.inl ⟨rfl,_,_,_,_,hR',hH1.out,ht.out⟩⟩,⟨by have:=HK.out;omega⟩,⟨(aj HB.out _).trans hb⟩⟩
        ·rw [ahD c3] at hH0
         simp only [ahP,ahU] at hH0
         obtain ⟨rfl,rfl,rfl⟩:=hH0
         have hF:=fun (W:World) (hW:au.Rd g g a0 i l n t W)=>au.cut g g a0 i l n t W hW hsz.out c3
         have hF':=ah.mk hF
         clear hF c1 c2 c3 hbr
         generalize bt a0 i = c at *
         go_wp2
         go_quiet ((go_at_call 80;exact Calls.quiet_of ((aI.calls 9 a0 i 1 _ _ _ hget.out).mono fun _ _ h=>⟨h.1,h.2.out⟩)))
         go_wp2_with (go_at_call 108;refine (hF'.out _ (hR.out.drewN _)).mono ?_;rintro e w' ⟨rfl,hR',hb⟩)
         go_roundg k2
         case measure=>have:=HK.out;omega
         case rel=>exact ⟨2,rfl,⟨.inr ⟨by decide,rfl⟩⟩,⟨by have:=HK.out;omega⟩,⟨(aj HB.out _).trans hb⟩⟩
       ·rw [ahD c2] at hH0
        have d2:decide (192 ≤ bt a0 i) = false:=ahH c2
        by_cases c3:63 < bt a0 i
        ·rw [ahC c3] at hH0
         have d3:decide (63 < bt a0 i) = true:=ahE c3
         simp only [ahP,ahU] at hH0
         obtain ⟨rfl,rfl,rfl⟩:=hH0
         clear c1 c2 c3 hbr
         generalize bt a0 i = c at *
         go_wp2
         go_quiet ((go_at_call 80;exact Calls.quiet_of ((aI.calls 9 a0 i 1 _ _ _ hget.out).mono fun _ _ h=>⟨h.1,h.2.out⟩)))
         go_wp2
         go_roundg k2
         case measure=>have:=HK.out;omega
         case rel=>exact ⟨3,rfl,⟨.inr ⟨by decide,rfl⟩⟩,⟨by have:=HK.out;omega⟩,⟨aj HB.out _⟩⟩
        ·rw [ahD c3] at hH0
         have d3:decide (63 < bt a0 i) = false:=ahH c3
         by_cases c4:iB a0 i (1 + bt a0 i)
         ·rw [ahC c4] at hH0
          by_cases c5:(t.size:Int) + (1 + bt a0 i) ≥ 255
          ·rw [ahC c5] at hH0
           simp only [ahP,ahU] at hH0
           obtain ⟨rfl,rfl,rfl⟩:=hH0
           have hF:=fun (W:World) (hW:au.Rd g g a0 i l n t W)=>cO.name g g a0 i l n (bt a0 i) t W hW hsz.out hbr.1 hbr.2 c4 (by have:=ht.out;omega) c5
           have hF':=ah.mk hF
           clear hF c1 c2 c3 c4 c5 hbr
           generalize bt a0 i = c at *
           go_wp2
           go_quiet ((go_at_call 80;exact Calls.quiet_of ((aI.calls 9 a0 i 1 _ _ _ hget.out).mono fun _ _ h=>⟨h.1,h.2.out⟩)))
           go_wp2_with (go_at_call 109;refine (hF'.out _ (hR.out.drewN _)).mono ?_;rintro e w' ⟨rfl,hR',hb⟩)
           go_roundg k2
           case measure=>have:=HK.out;omega
           case rel=>exact ⟨3,rfl,⟨.inr ⟨by decide,rfl⟩⟩,⟨by have:=HK.out;omega⟩,⟨(aj HB.out _).trans hb⟩⟩
          ·rw [ahD c5] at hH0
           have hF:=fun (W:World) (hw:g ≤ W.heap.size) (hW:au.Rd g g a0 i l n t W)=>cO.ok g g a0 i l n (bt a0 i) t W hW hw hsz.out hbr.1 hbr.2 c4 (by omega)
           have hF':=ah.mk hF
           have hH1:=ah.mk hH0
           have hz:=B.size_ext c4.1 c4.2.1 c4.2.2
           have ht2:=ah.mk (show (t ++ a0.extract i.toNat (i + (1 + bt a0 i)).toNat).size ≤ 255 by rw [ah6];omega)
           clear hF c1 c2 c3 c4 c5 hbr hH0 hz
           generalize bt a0 i = c at *
           go_wp2
           go_quiet ((go_at_call 80;exact Calls.quiet_of ((aI.calls 9 a0 i 1 _ _ _ hget.out).mono fun _ _ h=>⟨h.1,h.2.out⟩)))
           go_wp2_with (go_at_call 109;refine (hF'.out _ (by simpa using hBs.out) (hR.out.drewN _)).mono ?_;rintro e w' ⟨rfl,hR',hb⟩)
           go_roundg k2
           case measure=>have:=HK.out;omega
           case rel=>exact ⟨0,rfl,⟨.inl ⟨rfl,_,_,_,_,hR',hH1.out,ht2.out⟩⟩,⟨by have:=HK.out;omega⟩,⟨(aj HB.out _).trans hb⟩⟩
         ·rw [ahD c4] at hH0
          simp only [ahP,ahU] at hH0
          obtain ⟨rfl,rfl,rfl⟩:=hH0
          have hF:=fun (W:World) (hW:au.Rd g g a0 i l n t W)=>cO.cut g g a0 i l n (bt a0 i) t W hW hsz.out hbr.1 hbr.2 c4
          have hF':=ah.mk hF
          clear hF c1 c2 c3 c4 hbr
          generalize bt a0 i = c at *
          go_wp2
          go_quiet ((go_at_call 80;exact Calls.quiet_of ((aI.calls 9 a0 i 1 _ _ _ hget.out).mono fun _ _ h=>⟨h.1,h.2.out⟩)))
          go_wp2_with (go_at_call 109;refine (hF'.out _ (hR.out.drewN _)).mono ?_;rintro e w' ⟨rfl,hR',hb⟩)
          go_roundg k2
          case measure=>have:=HK.out;omega
          case rel=>exact ⟨2,rfl,⟨.inr ⟨by decide,rfl⟩⟩,⟨by have:=HK.out;omega⟩,⟨(aj HB.out _).trans hb⟩⟩
     ·rw [ahD hg] at hH0
      have h:=get_eq 9 (ahG _) a0 i 1 (by omega)
      rw [ahD hg] at h
      have hget:=ah.mk h
      simp only [ahP,ahU] at hH0
      obtain ⟨rfl,rfl,rfl⟩:=hH0
      clear hg h hsz'
      go_wp2
      go_quiet ((go_at_call 80;exact Calls.quiet_of ((aI.calls 9 a0 i 1 _ _ _ hget.out).mono fun _ _ h=>⟨h.1,h.2.out⟩)))
      go_wp2
      (try rw [Exit.noGoto_ret])
      go_ret3
      exact ⟨rfl,by rw [hg'.out];exact aj HB.out _⟩
   ·simp only [ahU] at hR
    obtain ⟨rfl,rfl,rfl⟩:=hR
    have d1:(r3 == 0) = false:=by simpa using hx
    clear HS hx
    go_wp2
    (try rw [Exit.noGoto_ret])
    go_ret3
    exact ⟨rfl,by rw [hg'.out];exact HB.out⟩
 ·rw [ahD hs] at h
  exact absurd h (by simp)
end
section
open Go.RowKit Go.Proofs.YtfokaoeinpnagaaW.aR Go.Proofs.YtfokaoeinpnagaaW.dD Go.Proofs.YtfokaoeinpnagaaW.eB
attribute [local go_sem] jD jE kN kP iV iW jF jG
def fJ.f (a0:Int):Option (ByteArray × Int × Int):=some ((⟨#[]⟩:ByteArray),0,a0)
def dP.l0 : Nat → ByteArray → Int → ByteArray → Int → Int → Option (ByteArray × Int × Int)
 | 0,_,_,_,_,_=>none
 | k + 1,x0,x1,x7,x8,x9=>(bA.f k x0 x1 1).bind fun Aj=>(if Aj.2 = true then (if Aj.1 = 0 then (if x8 < 0 then (if x7.size + 1 ≤ 9223372036854775807 then (some (x7 ++ (⟨#[0]⟩:ByteArray),wrap64 (x1 + 1),0)) else (none)) else (if x7.size + 1 ≤ 9223372036854775807 then (some (x7 ++ (⟨#[0]⟩:ByteArray),x8,0)) else (none))) else (if Aj.1 ≥ 192 then ((bA.f k x0 x1 2).bind fun Ak=>(if Ak.2 = true then (if (wrap64 (Ak.1 - 49152)) ≥ x9 then ((fJ.f 3).bind fun Nq=>(some (Nq.1,Nq.2.1,Nq.2.2))) else (if x8 < 0 then (dP.l0 k x0 (wrap64 (Ak.1 - 49152)) x7 (wrap64 (x1 + 2)) (wrap64 (Ak.1 - 49152))) else (dP.l0 k x0 (wrap64 (Ak.1 - 49152)) x7 x8 (wrap64 (Ak.1 - 49152))))) else ((fJ.f 2).bind fun Nr=>(some (Nr.1,Nr.2.1,Nr.2.2))))) else (if Aj.1 > 63 then ((fJ.f 3).bind fun Ns=>(some (Ns.1,Ns.2.1,Ns.2.2))) else ((gZ.f x0 x1 (wrap64 (Aj.1 + 1))).bind fun Ii=>(if Ii.2 = true then (if x7.size + Ii.1.size ≤ 9223372036854775807 then (if (wrap64 (((x7 ++ Ii.1).size:Int) + 1)) > 255 then ((fJ.f 3).bind fun Nu=>(some (Nu.1,Nu.2.1,Nu.2.2))) else (dP.l0 k x0 (wrap64 ((wrap64 (x1 + Aj.1)) + 1)) (x7 ++ Ii.1) x8 x9)) else (none)) else ((fJ.f 2).bind fun Nw=>(some (Nw.1,Nw.2.1,Nw.2.2)))))))) else ((fJ.f 2).bind fun Ny=>(some (Ny.1,Ny.2.1,Ny.2.2))))
def dP.f (k:Nat) (a0:ByteArray) (a1:Int):Option (ByteArray × Int × Int):=dP.l0 k a0 a1 (⟨#[]⟩:ByteArray) (-1) a1
end
section
open Go.RowKit Go.Proofs.YtfokaoeinpnagaaW.aR Go.Proofs.YtfokaoeinpnagaaW.dD Go.Proofs.YtfokaoeinpnagaaW.eB Go.Proofs.Ytfokaoeinpnagaa.B
theorem Ij {msg:ByteArray} {i:Int} (h:192 ≤ bt msg i):49152 ≤ gV 2 msg i ∧ gV 2 msg i ≤ 65535:=by
 have h1:=gB msg i
 have h2:=gB msg (i + 1)
 simp [gV]
 omega
theorem ae6 (a b:Nat) (c:Int) (h:(b:Int) = 1 + c) (ha:a ≤ 254) (hb:c ≤ 63) (h0:0 ≤ c):wrap64 (((a + b:Nat):Int) + 1) = a + (1 + c) + 1:=by
 rw [jH (by omega) (by omega)];omega
theorem JK (d:Nat):∀ (k:Nat) (msg:ByteArray) (i l n:Int) (t:ByteArray),l.toNat + (255 - t.size) < d → d + 10 ≤ k → msg.size ≤ 100000 → t.size ≤ 254 → (n = -1 ∨ 0 ≤ n) →
  ∃ R,aX.l k msg i l n t = some R ∧ dP.l0 k msg i t n l = some R:=by
 induction d with
 | zero=>intro k msg i l n t h;omega
 | succ d ih =>
  intro k msg i l n t hd hk hm ht hn
  obtain ⟨k,rfl⟩:∃ m,k = m + 1:=⟨k - 1,by omega⟩
  rw [aX.l,dP.l0,yh k (by omega) msg i 1 (by omega),yh k (by omega) msg i 2 (by omega)]
  simp only [Option.bind_some]
  by_cases g1:jU msg i 1
  ·have hr:=gB msg i
   have e1:gV (1:Int).toNat msg i = bt msg i:=Er msg i
   have hi0:=g1.1
   have hi1:=g1.2.2.2
   simp only [ahC g1,e1,ah9]
   by_cases c0:bt msg i = 0
   ·simp only [ahC c0]
    have z:t.size + 1 ≤ 9223372036854775807:=by omega
    simp only [ahC z]
    rw [jH (n:=i + 1) (by omega) (by omega)]
    rcases hn with rfl | hn
    ·rw [ahC (show (-1:Int) < 0 by omega),ahC rfl];exact ⟨_,rfl,rfl⟩
    ·rw [ahD (show ¬ n < 0 by omega),ahD (show ¬ n = -1 by omega)];exact ⟨_,rfl,rfl⟩
   ·simp only [ahD c0]
    by_cases c1:192 ≤ bt msg i
    ·have hg:=Ij c1
     simp only [ahC c1,ahC (show bt msg i ≥ 192 from c1)]
     by_cases g2:jU msg i 2
     ·have e2:gV (2:Int).toNat msg i = gV 2 msg i:=rfl
      have hi2:=g2.2.2.2
      simp only [ahC g2,e2,ah9]
      rw [jH (n:=gV 2 msg i - 49152) (by omega) (by omega),jH (n:=i + 2) (by omega) (by omega)]
      by_cases c2:gV 2 msg i - 49152 ≥ l
      ·rw [ahC c2,ahC c2]
       exact ⟨_,rfl,rfl⟩
      ·rw [ahD c2,ahD c2]
       rcases hn with rfl | hn
       ·rw [ahC (show (-1:Int) < 0 by omega),ahC rfl]
        exact ih k msg _ _ _ t (by omega) (by omega) hm ht (.inr (by omega))
       ·rw [ahD (show ¬ n < 0 by omega),ahD (show ¬ n = -1 by omega)]
        exact ih k msg _ _ _ t (by omega) (by omega) hm ht (.inr hn)
     ·simp only [ahD g2,ah7,ahW]
      exact ⟨_,rfl,rfl⟩
    ·simp only [ahD c1,ahD (show ¬ bt msg i ≥ 192 from c1)]
     by_cases c2:63 < bt msg i
     ·rw [ahC c2,ahC (show bt msg i > 63 from c2)]
      exact ⟨_,rfl,rfl⟩
     ·rw [ahD c2,ahD (show ¬ bt msg i > 63 from c2),jH (n:=bt msg i + 1) (by omega) (by omega),vk msg i _ (by omega),show bt msg i + 1 = 1 + bt msg i from by omega]
      simp only [Option.bind_some]
      by_cases g3:iB msg i (1 + bt msg i)
      ·have hz:=size_ext g3.1 g3.2.1 g3.2.2
       simp only [ahC g3,ah9]
       have hsz:t.size + (msg.extract i.toNat (i + (1 + bt msg i)).toNat).size ≤ 9223372036854775807:=by omega
       rw [ahC hsz,ah6,ae6 _ _ _ hz ht (by omega) (by omega)]
       clear hsz
       by_cases c3:(t.size:Int) + (1 + bt msg i) ≥ 255
       ·rw [ahC c3,ahC (show (t.size:Int) + (1 + bt msg i) + 1 > 255 by omega)]
        exact ⟨_,rfl,rfl⟩
       ·have hb:=g3.2.2
        rw [ahD c3,ahD (show ¬ (t.size:Int) + (1 + bt msg i) + 1 > 255 by omega),jH (n:=i + bt msg i) (by omega) (by omega),jH (n:=i + bt msg i + 1) (by omega) (by omega),show i + bt msg i + 1 = i + (1 + bt msg i) from by omega]
        exact ih k msg _ _ _ _ (by rw [ah6];omega) (by omega) hm (by rw [ah6];omega) hn
      ·simp only [ahD g3,ah7,ahW]
       exact ⟨_,rfl,rfl⟩
  ·simp only [ahD g1,ah7,ahW]
   exact ⟨_,rfl,rfl⟩
theorem Es {k k':Nat} (hk:k ≤ k') {msg:ByteArray} {i:Int} {R:ByteArray × Int × Int} (h:aX.f k msg i = some R):aX.f k' msg i = some R:=uE (fun k=>aX.mono msg i k) hk h
def rounds (i:Int):Nat:=i.toNat + 300
theorem JL (k:Nat) (msg:ByteArray) (i:Int) (hm:msg.size ≤ 100000) (hk:rounds i ≤ k):∃ R,aX.f k msg i = some R ∧ dP.f k msg i = some R:=by
 unfold rounds at hk
 obtain ⟨R,h1,h2⟩:=JK (i.toNat + 256) k msg i i (-1) ⟨#[]⟩ (by rw [MZ];omega) (by omega) hm (by decide) (.inl rfl)
 refine ⟨R,?_,h2⟩
 unfold aX.f
 rw [ahC (by omega)]
 exact h1
def pre (t:ByteArray):Prop:=∃ ls,t = zk ls ∧ ∀ x ∈ ls,yQ x
theorem pre_nil : pre ⟨#[]⟩:=⟨[],rfl,by simp⟩
theorem Nz {t x:ByteArray} (h:pre t) (hx:yQ x):pre (t ++ (sg x.size ++ x)):=by
 obtain ⟨ls,rfl,hok⟩:=h
 refine ⟨ls ++ [x],?_,?_⟩
 ·rw [Ei];simp only [zk];rw [append_empty]
 ·intro y hy
  rcases ah2.mp hy with hy | hy
  ·exact hok y hy
  ·rw [ait] at hy;subst hy;exact hx
theorem JM {msg:ByteArray} {i:Int} (h:iB msg i (1 + bt msg i)) (h1:1 ≤ bt msg i) (h2:bt msg i ≤ 63):∃ x,yQ x ∧ msg.extract i.toNat (i + (1 + bt msg i)).toNat = sg x.size ++ x:=by
 obtain ⟨g0,g1,g2⟩:=h
 have hz:=size_ext g0 g1 g2
 refine ⟨msg.extract (i.toNat + 1) (i + (1 + bt msg i)).toNat,?_,?_⟩
 ·unfold yQ;rw [aib];omega
 ·have e:(msg.extract (i.toNat + 1) (i + (1 + bt msg i)).toNat).size = (bt msg i).toNat:=by rw [aib];omega
  rw [e]
  have h3:msg.extract i.toNat (i.toNat + 1) = sg ((bt msg i).toNat:Nat):=by
   refine BZ (by rw [mZ,aib];omega) fun j j0 j1=>?_
   rw [aib] at j1
   have:j = 0:=by omega
   subst this
   rw [mE (by omega) (by rw [aib];omega),HV _ (by omega)]
   rw [show ((i.toNat:Nat):Int) + 0 = i from by omega]
   omega
  rw [← h3,ByteArray.extract_append_extract]
  congr 1 <;> omega
theorem JN (k:Nat):∀ (msg:ByteArray) (a i l n:Int) (t:ByteArray) (R:ByteArray × Int × Int),0 ≤ a → pre t → t.size ≤ 254 → ((n = -1 ∧ a ≤ i) ∨ (a < n ∧ n ≤ (msg.size:Int))) → aX.l k msg i l n t = some R →
  (R.2.2 = 0 ∧ je R.1 = true ∧ a < R.2.1 ∧ R.2.1 ≤ (msg.size:Int)) ∨ ((R.2.2 = 2 ∨ R.2.2 = 3) ∧ R.1 = ⟨#[]⟩ ∧ R.2.1 = 0):=by
 induction k with
 | zero=>intro msg a i l n t R _ _ _ _ h;simp [aX.l] at h
 | succ k ih =>
  intro msg a i l n t R ha hp ht hn h
  rw [aX.l] at h
  by_cases g1:jU msg i 1
  ·have hr:=gB msg i
   have hi0:=g1.1
   have hi1:=g1.2.2.2
   rw [ahC g1] at h
   by_cases c0:bt msg i = 0
   ·rw [ahC c0] at h
    cases h
    left
    refine ⟨rfl,?_,?_⟩
    ·obtain ⟨ls,rfl,hok⟩:=hp
     exact p9.mpr ⟨ls,rfl,hok,by rw [ah6];show _ + root.size ≤ 255;rw [iX];omega⟩
    ·rcases hn with ⟨rfl,hn⟩ | hn
     ·rw [ahC rfl];exact ⟨(by show a < i + 1;omega),(by show i + 1 ≤ (msg.size:Int);omega)⟩
     ·rw [ahD (by omega)];exact hn
   ·rw [ahD c0] at h
    by_cases c1:192 ≤ bt msg i
    ·rw [ahC c1] at h
     have hg:=Ij c1
     by_cases g2:jU msg i 2
     ·rw [ahC g2] at h
      have hi2:=g2.2.2.2
      by_cases c2:gV 2 msg i - 49152 ≥ l
      ·rw [ahC c2] at h
       cases h;right;exact ⟨.inr rfl,rfl,rfl⟩
      ·rw [ahD c2] at h
       rcases hn with ⟨rfl,hn⟩ | hn
       ·rw [ahC rfl] at h
        exact ih msg a _ _ _ t R ha hp ht (.inr ⟨by omega,by omega⟩) h
       ·rw [ahD (by omega)] at h
        exact ih msg a _ _ _ t R ha hp ht (.inr hn) h
     ·rw [ahD g2] at h
      cases h;right;exact ⟨.inl rfl,rfl,rfl⟩
    ·rw [ahD c1] at h
     by_cases c2:63 < bt msg i
     ·rw [ahC c2] at h
      cases h;right;exact ⟨.inr rfl,rfl,rfl⟩
     ·rw [ahD c2] at h
      by_cases g3:iB msg i (1 + bt msg i)
      ·rw [ahC g3] at h
       by_cases c3:(t.size:Int) + (1 + bt msg i) ≥ 255
       ·rw [ahC c3] at h
        cases h;right;exact ⟨.inr rfl,rfl,rfl⟩
       ·rw [ahD c3] at h
        have hz:=size_ext g3.1 g3.2.1 g3.2.2
        obtain ⟨x,hx,hxe⟩:=JM g3 (by omega) (by omega)
        refine ih msg a _ _ _ _ R ha ?_ (by rw [ah6];omega) ?_ h
        ·rw [hxe];exact Nz hp hx
        ·rcases hn with ⟨rfl,hn⟩ | hn
         ·exact .inl ⟨rfl,by omega⟩
         ·exact .inr hn
      ·rw [ahD g3] at h
       cases h;right;exact ⟨.inl rfl,rfl,rfl⟩
  ·rw [ahD g1] at h
   cases h;right;exact ⟨.inl rfl,rfl,rfl⟩
theorem VX {k:Nat} {msg:ByteArray} {i:Int} {R:ByteArray × Int × Int} (hm:msg.size ≤ 100000):aX.f k msg i = some R ↔ aX.l k msg i i (-1) ⟨#[]⟩ = some R:=by
 unfold aX.f;rw [ahC (by omega)]
theorem Gh {k:Nat} {msg:ByteArray} {i:Int} {R:ByteArray × Int × Int} (hm:msg.size ≤ 100000) (h:aX.f k msg i = some R) :
  (R.2.2 = 0 ∧ je R.1 = true ∧ 0 ≤ i ∧ i < R.2.1 ∧ R.2.1 ≤ (msg.size:Int)) ∨ ((R.2.2 = 2 ∨ R.2.2 = 3) ∧ R.1 = ⟨#[]⟩ ∧ R.2.1 = 0):=by
 rw [VX hm] at h
 by_cases h0:0 ≤ i
 ·rcases JN k msg i i i (-1) ⟨#[]⟩ R h0 pre_nil (by decide) (.inl ⟨rfl,aiw _⟩) h with ⟨h1,h2,h3,h4⟩ | h1
  ·exact .inl ⟨h1,h2,h0,h3,h4⟩
  ·exact .inr h1
 ·cases k with
  | zero=>simp [aX.l] at h
  | succ k =>
   rw [aX.l,ahD (fun g=>h0 g.1)] at h
   cases h;right;exact ⟨.inl rfl,rfl,rfl⟩
end
section
open Go.RowKit Go.Proofs.YtfokaoeinpnagaaW.aR Go.Proofs.YtfokaoeinpnagaaW.dD Go.Proofs.YtfokaoeinpnagaaW.eB Go.Proofs.Ytfokaoeinpnagaa.B
def plL : List ByteArray → Int → ByteArray → Int
 | [],_,_=>-1
 | x :: m,o,r=>if same (enc (x :: m)) r then o else plL m (o + 1 + x.size) r
def wrL (m:List ByteArray) (a:Int):List ByteArray → ByteArray → ByteArray
 | [],p=>p ++ root
 | x :: l,p=>if 0 ≤ plL m 0 (enc (x :: l)) then p ++ ae2 (49152 + a + plL m 0 (enc (x :: l))) 2 else wrL m a l (p ++ (sg x.size ++ x))
def wr (base:ByteArray) (a:Int) (n:ByteArray):ByteArray:=match q8 base,q8 n with
 | some m,some ls=>if 0 ≤ a ∧ a ≤ 16000 then wrL m a ls ⟨#[]⟩ else ⟨#[]⟩
 | _,_=>⟨#[]⟩
theorem QE : root = sg 0:=by
 refine BZ (by rw [iX,mZ]) fun i h0 h1=>?_
 rw [iX] at h1
 have:i = 0:=by omega
 subst this
 rw [Ca,HV 0 (by omega)]
theorem Cm (xs ys:List Int):strOfNums (xs ++ ys) = strOfNums xs ++ strOfNums ys:=by
 refine aiI ?_
 rw [ajd]
 simp [strOfNums]
theorem zm (a b:ByteArray):numsOf (a ++ b) = numsOf a ++ numsOf b:=by
 unfold numsOf;rw [ajd];simp
theorem vB (a b:ByteArray):kg (a ++ b) = kg a ++ kg b:=by
 unfold kg;rw [zm,aiY,Cm]
theorem lQ (a:ByteArray):(kg a).size = a.size:=by unfold kg;rw [strOfNums_size,ahF,numsOf_length]
theorem QF {l:List ByteArray} (hok:∀ x ∈ l,yQ x) (hz:(enc l).size ≤ 255):je (enc l) = true:=p9.mpr ⟨l,rfl,hok,hz⟩
end
end Go.Proofs.Ytfokaoeinpnagaa.ZQ
namespace Go.Proofs.Ytfokaoeinpnagaa.Mi
open Go Go.Proofs.YtfokaoeinpnagaaW.aR
def ents : Nat → List (Int × Value) → List MapEntry
 | _,[]=>[]
 | i,(k,v) :: l=>{ key:=.int .i64 k,val:=v,born:=i } :: ents (i + 1) l
def rT (k:Int):List (Int × Value) → Option Value
 | []=>none
 | (k',v) :: l=>if k = k' then some v else rT k l
theorem oC (k:Int):∀ (l:List (Int × Value)) (i j:Nat),∃ r,Instr.findNow (.int .i64) (.int .i64 k) (ents i l) j = some r ∧ r.map (·.2) = rT k l
 | [],i,j=>⟨none,rfl,rfl⟩
 | (k',v) :: l,i,j=>by
  obtain ⟨r,h1,h2⟩:=oC k l (i + 1) (j + 1)
  unfold ents rT Instr.findNow
  by_cases h:k = k'
  ·subst h
   exact ⟨some (j,v),by simp [Instr.sameNow],by simp⟩
  ·have hb:(k == k') = false:=by simpa using h
   exact ⟨r,by simp [Instr.sameNow,hb,h1],by simp [h,h2]⟩
theorem Al (k:Int) (v:Value):∀ (l:List (Int × Value)) (i:Nat),ents i (l ++ [(k,v)]) = ents i l ++ [{ key:=.int .i64 k,val:=v,born:=i + l.length }]
 | [],i=>rfl
 | (k',v') :: l,i=>by
  simp only [List.cons_append,ents,Al k v l (i + 1),List.length_cons]
  rw [show i + 1 + l.length = i + (l.length + 1) from by omega]
def At (w:World) (b:Nat) (l:List (Int × Value)):Prop:=w.heap[b]? = some (.map (ents 0 l).toArray l.length)
variable {P : Program}
theorem Gi {w:World} {b:Nat} {l:List (Int × Value)} (h:At w b l) (t kt et:TypeId) (hm:P.underlying t = some (.map kt et)) (hk:P.underlying kt = some (.int .i64)) (k:Int) (v:Value) (hn:rT k l = none) :
  ∃ w',(Instr.mapUpdate t (.map (some b)) (.int .i64 k) v).run P w = .ok () w' ∧ At w' b (l ++ [(k,v)]) ∧ w.grownBy w' (some b):=by
 obtain ⟨r,h1,h2⟩:=oC k l 0 0
 rw [hn] at h2
 obtain rfl:r = none:=by cases r with | none=>rfl | some x=>cases h2
 have hc:(Instr.checkKey false 10000 kt (.int .i64 k)).run P w = .ok () w:=MapKept.run_checkKey (k:=.int .i64 k) hk (by simp [MapKept.IsKey]) false 9999
 refine ⟨{ w with heap:=w.heap.setIfInBounds b (.map (ents 0 (l ++ [(k,v)])).toArray (l ++ [(k,v)]).length) },?_,(MapKept.heap_set h).1,⟨rfl,rfl,rfl,by simp,fun i _ hi=>(MapKept.heap_set h).2 i (fun e=>hi (by rw [e]))⟩⟩
 unfold At at h
 simp [Instr.mapUpdate,run_underlying hm,MapKept.run_getObj_map h,hc,MapKept.run_findKey hk h1,MapKept.run_setObj_map _ h,Result.andThen]
 rw [Al]
 simp
theorem look {w:World} {b:Nat} {l:List (Int × Value)} (h:At w b l) (t kt et:TypeId) (hm:P.underlying t = some (.map kt et)) (hk:P.underlying kt = some (.int .i64)) (z:Value) (hz:(zeroValue et).run P w = .ok z w) (k:Int) :
  (Instr.lookup t (.map (some b)) (.int .i64 k) true).run P w = .ok (.tuple #[(rT k l).getD z,.bool (rT k l).isSome]) w:=by
 obtain ⟨r,h1,h2⟩:=oC k l 0 0
 unfold At at h
 have hc:∀ e,(Instr.checkKey e 10000 kt (.int .i64 k)).run P w = .ok () w:=fun e=>MapKept.run_checkKey (k:=.int .i64 k) hk (by simp [MapKept.IsKey]) e 9999
 rw [← h2]
 cases r with
 | none=>simp [Instr.lookup,run_underlying hm,MapKept.run_getObj_map h,hc,MapKept.run_findKey hk h1,Result.andThen,hz]
 | some x=>obtain ⟨i,v⟩:=x;simp [Instr.lookup,run_underlying hm,MapKept.run_getObj_map h,hc,MapKept.run_findKey hk h1,Result.andThen]
theorem JO (w:World) {ops:Array Oper} {rest:List Oper} {o:Oper} {a:Act} {Q:Exit → Act → World → Prop}
  (hg:o.guard = none) (m x v:Operand) (t:TypeId) (hop:o.op = Op.insert t m x v)
  (kt et:TypeId) (ht:P.underlying t = some (.map kt et)) (hk:P.underlying kt = some (.int .i64)) (b:Nat) (l:List (Int × Value)) (hm:a.eval m = .map (some b)) (hat:At w b l) (k:Int) (val:Value) (hx:a.eval x = .int .i64 k) (hv:a.eval v = val) (hn:rT k l = none)
  (hK:∀ w',At w' b (l ++ [(k,val)]) → w.grownBy w' (some b) → wpList P ops Q rest (a.put o.dst undef) w') :
  wpList P ops Q (o :: rest) a w:=by
 refine wpList_plain hg fun K' hK'=>?_
 obtain ⟨w',hrun,r1,r2⟩:=Gi hat t kt et ht hk k val hn
 unfold Oper.wp
 simp [execOp,hop,hm,hx,hv,hrun,Result.andThen]
 exact hK' _ _ (hK w' r1 r2)
theorem QG (w:World):At (w.alloc (.map #[] 0)) w.heap.size []:=by
 unfold At ents
 exact heap_alloc_new w _
structure In (B0:Nat) (w0 w:World) (b:Nat) (l:List (Int × Value)):Prop where
 at_:At w b l
 ge:B0 ≤ b
 NA:RowKit.Below B0 w0 w
theorem In.made {w:World}:In w.heap.size w (w.alloc (.map #[] 0)) w.heap.size []:=⟨QG w,ahG _,(RowKit.Below.refl _ _).alloc (ahG _) _⟩
theorem In.grown {B0 b:Nat} {w0 w w':World} {l l':List (Int × Value)} (h:In B0 w0 w b l) (h':At w' b l') (hg:w.grownBy w' (some b)):In B0 w0 w' b l':=by
 refine ⟨h',h.ge,h.NA.grown hg ?_ (fun k e=>by cases e;exact h.ge)⟩
 have:=(aiJ.1 h.at_).1
 have:=h.ge
 omega
theorem Et {w:World} {ops:Array Oper} {rest:List Oper} {o:Oper} {a:Act} {Q:Exit → Act → World → Prop} (t:TypeId) (m x v:Operand) (hop:o.op = Op.insert t m x v) (h:wpList P ops Q (o :: rest) a w):wpList P ops Q (o :: rest) a w:=h
theorem aaJ (w:World) {ops:Array Oper} {rest:List Oper} {o:Oper} {a:Act} {Q:Exit → Act → World → Prop}
  (hg:o.guard = none) (m x v:Operand) (t:TypeId) (hop:o.op = Op.insert t m x v)
  (kt et:TypeId) (ht:P.underlying t = some (.map kt et)) (hk:P.underlying kt = some (.int .i64)) (b:Nat) (l:List (Int × Value)) (hm:a.eval m = .map (some b)) {B0:Nat} {w0:World} (hin:In B0 w0 w b l) (k:Int) (val:Value) (hx:a.eval x = .int .i64 k) (hv:a.eval v = val) (hn:rT k l = none)
  (hK:∀ w',ah (In B0 w0 w' b (l ++ [(k,val)])) → wpList P ops Q rest (a.put o.dst undef) w') :
  wpList P ops Q (o :: rest) a w :=
 JO w hg m x v t hop kt et ht hk b l hm hin.at_ k val hx hv hn fun w' h1 h2=>hK w' ⟨hin.grown h1 h2⟩
end Go.Proofs.Ytfokaoeinpnagaa.Mi

/- A part of the proof of SeekDone: cut, joined and given short names by a program of this session (wip/tools/pack.py); Lean checks it. No condition. -/
import Derived.Test.YtfokaoeinpnagaaGreatPSDneg
import Derived.BigRegion
import Derived.Laws.BitsLemmas
import Derived.WalkSpells
import Derived.Test.YtfokaoeinpnagaaGreatProg
import Derived.Shelf.Strings.OnBuilder
import Derived.KernelRfl
import Derived.Laws.Externs
import Derived.LaidEqlPtr
import Derived.WideMake
import Derived.WalkKit
import Derived.Below
import Derived.Test.YtfokaoeinpnagaaGreatPSDned
set_option linter.unusedSectionVars false
set_option linter.unusedSimpArgs false
set_option linter.unusedVariables false
set_option maxHeartbeats 16000000
set_option maxRecDepth 100000
namespace Go.Proofs.YtfokaoeinpnagaaGreat.ZQ
section
open Go.RowKit Go.Proofs.YtfokaoeinpnagaaGreatW.aT Go.Proofs.YtfokaoeinpnagaaGreatW.dO Go.Proofs.YtfokaoeinpnagaaGreatW.eX
attribute [local go_sem] jM jN kW kX jd je jO jP
mutual
def aC.j0 : Nat → ByteArray → List ByteArray → Bool → Option (List ByteArray × Bool)
 | 0,_,_,_=>none
 | k + 1,x0,x4,x14=>if x14 = true then (some (([]:List ByteArray),false)) else (aC.l0 k x0 x4 0)
def aC.l0 : Nat → ByteArray → List ByteArray → Int → Option (List ByteArray × Bool)
 | 0,_,_,_=>none
 | k + 1,x0,x4,x5=>if x5 < (x0.size:Int) then (if 0 ≤ x5 then (if (wrap64 (bt x0 x5)) = 0 then (some (x4,(x5 == (wrap64 ((x0.size:Int) - 1))))) else (if (wrap64 (bt x0 x5)) > 63 then (some (([]:List ByteArray),false)) else (if (wrap64 (bt x0 x5)) ≥ (wrap64 ((x0.size:Int) - x5)) then (some (([]:List ByteArray),false)) else (if 0 ≤ (wrap64 (x5 + 1)) then (if (wrap64 (x5 + 1)) ≤ (wrap64 ((wrap64 (x5 + 1)) + (wrap64 (bt x0 x5)))) then (if (wrap64 ((wrap64 (x5 + 1)) + (wrap64 (bt x0 x5)))) ≤ (x0.size:Int) then (if x4.length < 8796093022208 then (aC.l0 k x0 (x4 ++ [x0.extract ((wrap64 (x5 + 1)):Int).toNat ((wrap64 ((wrap64 (x5 + 1)) + (wrap64 (bt x0 x5)))):Int).toNat]) (wrap64 ((wrap64 (x5 + 1)) + (wrap64 (bt x0 x5))))) else (none)) else (none)) else (none)) else (none))))) else (none)) else (some (([]:List ByteArray),false))
end
def aC.f (k:Nat) (a0:ByteArray):Option (List ByteArray × Bool):=if (a0.size:Int) < 1 then (aC.j0 k a0 ([]:List ByteArray) true) else (aC.j0 k a0 ([]:List ByteArray) (decide ((a0.size:Int) > 255)))
theorem aC.calls (k:Nat) (a0:ByteArray) (r1:List ByteArray) (r2:Bool) (w:World) (h:aC.f k a0 = some (r1,r2)) :
  Calls Tryz.prog 77 #[.string a0] w fun e w'=>∃ TS:Value,e = .returned (.tuple #[TS,.bool r2]) ∧ Kd.R Kd.string 9 w' w.heap.size (fun _=>True) TS r1 ∧ Below w.heap.size w w':=by
 have HB:=ah.mk (Below.refl w.heap.size w)
 have H:(if (a0.size:Int) < 1 then (aC.j0 k a0 ([]:List ByteArray) true) else (aC.j0 k a0 ([]:List ByteArray) (decide ((a0.size:Int) > 255)))) = some (r1,r2):=h
 clear h
 have HC2:=ah.mk H
 clear H
 go_enter Tryz.func77,Tryz.ntmps77
 go_upto_region 2 with (fail)
 go_cut [14] (fun v14 wc=>∃ (kq:Nat) (IC:Bool),v14 = .bool IC ∧ ah (aC.j0 kq a0 ([]:List ByteArray) IC = some (r1,r2)) ∧ ah (kq ≤ k) ∧ ah (Kd.R Kd.string 9 wc w.heap.size (fun _=>True) (.slice none 0 0) ([]:List ByteArray)) ∧ ah (Below w.heap.size w wc))
 case first =>
  have H:=HC2.out
  clear HC2
  by_cases c3:(a0.size:Int) < 1
  ·rw [ail c3] at H
   have uX:decide ((a0.size:Int) < 1) = true:=aip c3
   have Gt:decide (a0.size < 1) = true:=aip (by omega)
   clear c3
   (first | rw [uX] | rw [NS] | (simp only [iA,iW];rw [uX]) | skip)
   have H':=ah.mk H
   clear H
   go_wp2
   go_meet
   case rel=>exact ⟨_,(true),(by first | rfl | (simp;done) | (simp [*];done) | (simp [B.dS];done) | (simp [B.dU];done)),H',⟨by first | omega | exact aiq _⟩,⟨by first | exact Kd.j3 _ _ _ _ _ | exact Kd.mG _ _ _ _ _ | exact Kd.mH _ _ _ _ _ | exact Kd.mD _ _ _ _ _ | exact Kd.mF _ _ _ _ _⟩,⟨by repeat (first | exact HB.out | apply ak | apply aj | apply ay)⟩⟩
  ·rw [ain c3] at H
   have uX:decide ((a0.size:Int) < 1) = false:=air c3
   have Gt:decide (a0.size < 1) = false:=air (by omega)
   clear c3
   (first | rw [uX] | rw [NS] | (simp only [iA,iW];rw [uX]) | skip)
   have H':=ah.mk H
   clear H
   go_wp2
   go_meet
   case rel=>exact ⟨_,(decide ((a0.size:Int) > 255)),(by first | rfl | (simp;done) | (simp [*];done) | (simp [B.dS];done) | (simp [B.dU];done)),H',⟨by first | omega | exact aiq _⟩,⟨by first | exact Kd.j3 _ _ _ _ _ | exact Kd.mG _ _ _ _ _ | exact Kd.mH _ _ _ _ _ | exact Kd.mD _ _ _ _ _ | exact Kd.mF _ _ _ _ _⟩,⟨by repeat (first | exact HB.out | apply ak | apply aj | apply ay)⟩⟩
 case rest =>
  clear HC2
  try clear p2
  try clear c3
  try clear uX
  try clear Gt
  try clear NS
  obtain ⟨kq,IC,rfl,HA,HJ1,qM,HB⟩:=hcut
  cases kq with
  | zero=>exact absurd HA.out (by simp [aC.j0])
  | succ kj1 =>
   have H:=HA.out
   clear HA
   simp only [aC.j0] at H
   by_cases c4:IC = true
   ·subst c4
    have H1:(some (([]:List ByteArray),false)) = some (r1,r2):=by rw [ail rfl] at H;exact H
    clear H
    have H:=H1
    clear H1
    simp only [aiz,aiE] at H
    obtain ⟨rfl,rfl⟩:=H
    go_wp2
    go_ret2
    exact ⟨_,by first | rfl | (simp [aV,aW] <;> rfl) | (simp [*,aV,aW] <;> rfl),by first | exact Kd.j3 _ _ _ _ _ | exact Kd.mG _ _ _ _ _ | exact Kd.mH _ _ _ _ _ | exact Kd.mD _ _ _ _ _ | exact Kd.mF _ _ _ _ _,by repeat (first | exact HB.out | apply ak | apply aj | apply ay)⟩
   ·replace c4:=ai6.mpr c4
    subst c4
    have H1:(aC.l0 kj1 a0 ([]:List ByteArray) 0) = some (r1,r2):=by rw [ain (show ¬ (false = true) by decide)] at H;exact H
    clear H
    have H:=H1
    clear H1
    have H':=ah.mk H
    clear H
    go_wp2
    go_loopg [4,5] kj1 (fun kq v4 v5 w'=>∃ (EI:List ByteArray) (eY:Int),v5 = .int .i64 eY ∧ ah (aC.l0 kq a0 EI eY = some (r1,r2)) ∧ ah (kq ≤ kj1) ∧ ah (Kd.R Kd.string 9 w' w.heap.size (fun _=>True) v4 EI) ∧ ah (Below w.heap.size w w'))
    case atStart=>exact ⟨(([]:List ByteArray)),(0),(by first | rfl | (simp;done) | (simp [*];done) | (simp [B.dS];done) | (simp [B.dU];done)),H',⟨aiq _⟩,⟨by (with_reducible repeat (first | apply Kd.gq | apply Kd.gU | apply Kd.gZ));exact qM.out⟩,⟨by repeat (first | exact HB.out | apply ak | apply aj | apply ay)⟩⟩
    case round =>
     clear H'
     try clear p2
     try clear c3
     try clear uX
     try clear Gt
     try clear NS
     try clear c4
     try clear p2
     obtain ⟨EI,eY,rfl,HA,HK2,qM,HB⟩:=hrel
     cases gk with
     | zero=>exact absurd HA.out (by simp [aC.l0])
     | succ k2 =>
      have H:=HA.out
      clear HA
      simp only [aC.l0] at H
      by_cases c5:eY < (a0.size:Int)
      ·rw [ail c5] at H
       have J3:decide (eY < (a0.size:Int)) = true:=aip c5
       clear c5
       by_cases c6:0 ≤ eY
       ·rw [ail c6] at H
        have Gr:decide (0 ≤ eY) = true:=aip c6
        clear c6
        by_cases c8:(wrap64 (bt a0 eY)) = 0
        ·rw [ail c8] at H
         have JX:((wrap64 (bt a0 eY)) == 0) = true:=aiY.mpr c8
         have JY:((wrap64 (bt a0 eY)) != 0) = false:=ajT.mpr c8
         (try (have afC:(((bt a0 eY)) == 0) = true:=by have h_:((wrap64 (bt a0 eY)) == 0) = true:=aiY.mpr c8;rw [B.jQ (by omega) (by omega)] at h_;exact h_))
         (try (have afD:(((bt a0 eY)) != 0) = false:=by have h_:((wrap64 (bt a0 eY)) != 0) = false:=ajT.mpr c8;rw [B.jQ (by omega) (by omega)] at h_;exact h_))
         clear c8
         simp only [aiz,aiE] at H
         obtain ⟨rfl,rfl⟩:=H
         have p7:0 ≤ (eY:Int):=aiI (by first | (with_reducible assumption) | assumption)
         have q7:eY < (a0.size:Int):=aiI (by first | (with_reducible assumption) | assumption)
         have hx7:=oJ a0 eY
         replace p7:=aix p7
         replace q7:=aix q7
         go_wp2
         go_ret2
         exact ⟨_,by first | rfl | (simp [aV,aW] <;> rfl) | (simp [*,aV,aW] <;> rfl),by (with_reducible repeat (first | apply Kd.gq | apply Kd.gU | apply Kd.gZ));exact qM.out,by repeat (first | exact HB.out | apply ak | apply aj | apply ay)⟩
        ·rw [ain c8] at H
         have JX:((wrap64 (bt a0 eY)) == 0) = false:=ajo.mpr c8
         have JY:((wrap64 (bt a0 eY)) != 0) = true:=ajC.mpr c8
         (try (have afC:(((bt a0 eY)) == 0) = false:=by have h_:((wrap64 (bt a0 eY)) == 0) = false:=ajo.mpr c8;rw [B.jQ (by omega) (by omega)] at h_;exact h_))
         (try (have afD:(((bt a0 eY)) != 0) = true:=by have h_:((wrap64 (bt a0 eY)) != 0) = true:=ajC.mpr c8;rw [B.jQ (by omega) (by omega)] at h_;exact h_))
         by_cases c9:(wrap64 (bt a0 eY)) > 63
         ·rw [ail c9] at H
          have Gs:decide (63 < (wrap64 (bt a0 eY))) = true:=aip c9
          (try (have NK:decide (63 < ((bt a0 eY))) = true:=by have h_:decide (63 < (wrap64 (bt a0 eY))) = true:=aip c9;rw [B.jQ (by omega) (by omega)] at h_;exact h_))
          clear c9
          simp only [aiz,aiE] at H
          obtain ⟨rfl,rfl⟩:=H
          have p7:0 ≤ (eY:Int):=aiI (by first | (with_reducible assumption) | assumption)
          have q7:eY < (a0.size:Int):=aiI (by first | (with_reducible assumption) | assumption)
          have hx7:=oJ a0 eY
          replace p7:=aix p7
          replace q7:=aix q7
          go_wp2
          go_ret2
          exact ⟨_,by first | rfl | (simp [aV,aW] <;> rfl) | (simp [*,aV,aW] <;> rfl),by first | exact Kd.j3 _ _ _ _ _ | exact Kd.mG _ _ _ _ _ | exact Kd.mH _ _ _ _ _ | exact Kd.mD _ _ _ _ _ | exact Kd.mF _ _ _ _ _,by repeat (first | exact HB.out | apply ak | apply aj | apply ay)⟩
         ·rw [ain c9] at H
          have Gs:decide (63 < (wrap64 (bt a0 eY))) = false:=air c9
          (try (have NK:decide (63 < ((bt a0 eY))) = false:=by have h_:decide (63 < (wrap64 (bt a0 eY))) = false:=air c9;rw [B.jQ (by omega) (by omega)] at h_;exact h_))
          clear c9
          by_cases c10:(wrap64 (bt a0 eY)) ≥ (wrap64 ((a0.size:Int) - eY))
          ·rw [ail c10] at H
           have EH:decide ((wrap64 ((a0.size:Int) - eY)) ≤ (wrap64 (bt a0 eY))) = true:=aip c10
           (try (have Iz:decide ((((a0.size:Int) - eY)) ≤ ((bt a0 eY))) = true:=by have h_:decide ((wrap64 ((a0.size:Int) - eY)) ≤ (wrap64 (bt a0 eY))) = true:=aip c10;rw [B.jQ (by omega) (by omega)] at h_;rw [B.jQ (by omega) (by omega)] at h_;exact h_))
           clear c10
           simp only [aiz,aiE] at H
           obtain ⟨rfl,rfl⟩:=H
           have p7:0 ≤ (eY:Int):=aiI (by first | (with_reducible assumption) | assumption)
           have q7:eY < (a0.size:Int):=aiI (by first | (with_reducible assumption) | assumption)
           have hx7:=oJ a0 eY
           replace p7:=aix p7
           replace q7:=aix q7
           go_wp2
           go_ret2
           exact ⟨_,by first | rfl | (simp [aV,aW] <;> rfl) | (simp [*,aV,aW] <;> rfl),by first | exact Kd.j3 _ _ _ _ _ | exact Kd.mG _ _ _ _ _ | exact Kd.mH _ _ _ _ _ | exact Kd.mD _ _ _ _ _ | exact Kd.mF _ _ _ _ _,by repeat (first | exact HB.out | apply ak | apply aj | apply ay)⟩
          ·rw [ain c10] at H
           have EH:decide ((wrap64 ((a0.size:Int) - eY)) ≤ (wrap64 (bt a0 eY))) = false:=air c10
           (try (have Iz:decide ((((a0.size:Int) - eY)) ≤ ((bt a0 eY))) = false:=by have h_:decide ((wrap64 ((a0.size:Int) - eY)) ≤ (wrap64 (bt a0 eY))) = false:=air c10;rw [B.jQ (by omega) (by omega)] at h_;rw [B.jQ (by omega) (by omega)] at h_;exact h_))
           clear c10
           obtain ⟨lU,IE⟩:∃ j_:Int,(wrap64 (eY + 1)) = j_:=⟨_,rfl⟩
           replace H:(if 0 ≤ (lU) then (if (lU) ≤ (wrap64 ((lU) + (wrap64 (bt a0 eY)))) then (if (wrap64 ((lU) + (wrap64 (bt a0 eY)))) ≤ (a0.size:Int) then (if EI.length < 8796093022208 then (aC.l0 k2 a0 (EI ++ [a0.extract ((lU):Int).toNat ((wrap64 ((lU) + (wrap64 (bt a0 eY)))):Int).toNat]) (wrap64 ((lU) + (wrap64 (bt a0 eY))))) else (none)) else (none)) else (none)) else (none)) = some (r1,r2):=by first | (rw [IE] at H;exact H) | (simp only [IE] at H ⊢;exact H)
           have afE:(IntKind.i64.wrap (eY + 1)) = lU:=(iA _).trans IE
           by_cases c12:0 ≤ (lU)
           ·rw [ail c12] at H
            have TU:=aix c12
            have TW:decide (0 ≤ (lU)) = true:=aip c12
            clear c12
            by_cases c13:(lU) ≤ (wrap64 ((lU) + (wrap64 (bt a0 eY))))
            ·rw [ail c13] at H
             have ahg:=aix c13
             have ahh:decide ((lU) ≤ (wrap64 ((lU) + (wrap64 (bt a0 eY))))) = true:=aip c13
             by_cases c14:(wrap64 ((lU) + (wrap64 (bt a0 eY)))) ≤ (a0.size:Int)
             ·rw [ail c14] at H
              have ahi:=aix c14
              have ahj:decide ((wrap64 ((lU) + (wrap64 (bt a0 eY)))) ≤ (a0.size:Int)) = true:=aip c14
              by_cases c15:EI.length < 8796093022208
              ·rw [ail c15] at H
               have aaV:=ah.mk c15
               clear c15
               obtain ⟨aaW,EJ⟩:∃ y_:List ByteArray,y_ = (EI ++ [a0.extract ((lU):Int).toNat ((wrap64 ((lU) + (wrap64 (bt a0 eY)))):Int).toNat]):=⟨_,rfl⟩
               replace H:(aC.l0 k2 a0 aaW (wrap64 ((lU) + (wrap64 (bt a0 eY))))) = some (r1,r2):=by first | (rw [EJ];with_reducible exact H) | (have NM:=(Option.bind_some _ _).symm.trans H;rw [EJ];with_reducible exact NM) | (have NM:=(Option.bind_some _ _).symm.trans H;with_reducible exact NM) | with_reducible exact H | (rw [EJ];exact H) | exact H
               have aaX:=ah.mk EJ
               clear EJ
               have H':=ah.mk H
               clear H
               have p7:0 ≤ (eY:Int):=aiI (by first | (with_reducible assumption) | assumption)
               have q7:eY < (a0.size:Int):=aiI (by first | (with_reducible assumption) | assumption)
               have hx7:=oJ a0 eY
               replace p7:=aix p7
               replace q7:=aix q7
               go_wp2_with (first | ((with_reducible refine tT (b:=.append) (xs:=#[.tmp 41,.tmp 50]) rfl ?_);(try (refine Gq (by rfl) ?_;dsimp only));at_builtin;refine Kd.Ey Kd.string (w0:=w) w.heap.size rfl (.tmp 41) (.tmp 50) 40 9 (.string ⟨#[]⟩) 16 rfl Tryz.underlying40 NI rfl (by decide) (by omega) u4 EI (a0.extract ((lU):Int).toNat ((wrap64 ((lU) + (wrap64 (bt a0 eY)))):Int).toNat) [.string (a0.extract ((lU):Int).toNat ((wrap64 ((lU) + (wrap64 (bt a0 eY)))):Int).toNat)] (fun _=>True) (fun _=>False) rfl rfl ?aP (fun _ hk=>hk.elim) ?aF ?aO ?aB ?aS ?aL ?_;(case aP=>exact rfl);(case aB=>exact (by repeat first | exact HB.out | apply ak | apply aj | apply ay));(case aF=>exact (fun _ _=>trivial));(case aO=>exact (by (with_reducible repeat (first | apply Kd.gq | apply Kd.gU | apply Kd.gZ));exact qM.out));(case aS=>exact (dN (by repeat first | exact HB.out | apply ak | apply aj | apply ay)));(case aL=>have:=aaV.out;omega);intro ah9 w16 ho hb hg hat;rw [← aaX.out] at ho;have iq:=ah.mk (hb);have kH:=ah.mk (ho);clear HB;clear qM;have HB:=iq;have aaY:=kH;clear iq kH;clear ho hb hg hat))
               go_roundg k2
               case measure=>have:=HJ1.out;have:=HK2.out;omega
               case rel=>exact ⟨(aaW),(wrap64 ((lU) + (wrap64 (bt a0 eY)))),(by first | rfl | (simp;done) | (simp only [← IE] <;> (first | rfl | simp)) | (simp [*];done)),H',⟨by have:=HJ1.out;have:=HK2.out;omega⟩,⟨by (with_reducible repeat (first | apply Kd.gq | apply Kd.gU | apply Kd.gZ));exact aaY.out⟩,⟨by repeat (first | exact HB.out | apply ak | apply aj | apply ay)⟩⟩
              ·rw [ain c15] at H
               exact absurd H (by simp)
             ·rw [ain c14] at H
              exact absurd H (by simp)
            ·rw [ain c13] at H
             exact absurd H (by simp)
           ·rw [ain c12] at H
            exact absurd H (by simp)
       ·rw [ain c6] at H
        exact absurd H (by simp)
      ·rw [ain c5] at H
       have J3:decide (eY < (a0.size:Int)) = false:=air c5
       clear c5
       simp only [aiz,aiE] at H
       obtain ⟨rfl,rfl⟩:=H
       go_wp2
       go_ret2
       exact ⟨_,by first | rfl | (simp [aV,aW] <;> rfl) | (simp [*,aV,aW] <;> rfl),by first | exact Kd.j3 _ _ _ _ _ | exact Kd.mG _ _ _ _ _ | exact Kd.mH _ _ _ _ _ | exact Kd.mD _ _ _ _ _ | exact Kd.mF _ _ _ _ _,by repeat (first | exact HB.out | apply ak | apply aj | apply ay)⟩
def dK.f (k:Nat) (a0:ByteArray):Option (Bool):=(aC.f k a0).bind fun NT=>(some NT.2)
theorem dK.calls (k:Nat) (a0:ByteArray) (r:Bool) (w:World) (h:dK.f k a0 = some r) :
  Calls Tryz.prog 42 #[.string a0] w fun e w'=>e = .returned (.bool r) ∧ Below w.heap.size w w':=by
 have HB:=ah.mk (Below.refl w.heap.size w)
 have H:((aC.f k a0).bind fun NT=>(some NT.2)) = some r:=h
 clear h
 replace H:=zbm H
 obtain ⟨⟨afF,aaZ⟩,IB,H⟩:=H
 replace H:(some aaZ) = some r:=H
 have A2:=ah.mk IB
 clear IB
 obtain rfl:=aiS H
 go_enter Tryz.func42,Tryz.ntmps42
 go_wp2_with (first | ((with_reducible refine dJ (f:=77) rfl ?_);refine jh (some 7) rfl rfl Tryz.func77 (by kernel_rfl) rfl #[.string a0] rfl (by (try simp only [ai8,aiy,aiF]) <;> rfl) ?_;(with_reducible refine (aC.calls k a0 afF aaZ _ A2.out).mono ?_);rintro e w3 ⟨aia,rfl,ho0,hb⟩;refine ⟨_,rfl,?_⟩;have iq:=ah.mk (Kd.tJ ho0 (dN (by repeat first | exact HB.out | apply ak | apply aj | apply ay)));have kH:=ah.mk (cZ (by repeat first | exact HB.out | apply ak | apply aj | apply ay) hb);clear HB;have ahk:=iq;have HB:=kH;clear iq kH;(try clear hb);(try clear hb2);(try clear hk);(try clear hi);(try clear ho0)))
 go_ret
 exact ⟨by first | rfl | (simp [aV,aW] <;> rfl) | (simp [*,aV,aW] <;> rfl),by repeat (first | exact HB.out | apply ak | apply aj | apply ay)⟩
def bX.f (a0:ByteArray):Option ByteArray:=if a0.size ≤ 140737488355328 then some (B.qL a0) else none
theorem bX.calls (a0:ByteArray) (r:ByteArray) (w:World) (h:bX.f a0 = some r) :
  Calls Tryz.prog 76 #[.string a0] w fun e w'=>e = .returned (.string r) ∧ Below w.heap.size w w':=by
 unfold bX.f at h
 by_cases hs:a0.size ≤ 140737488355328
 ·rw [ail hs] at h
  obtain rfl:=aiS h
  clear h
  have kc:=fun (W:World)=>Lib.run_convert_string_bytes (P:=Tryz.prog) W 9 189 5 a0 Tryz.underlying9 Tryz.underlying189 Tryz.underlying5
  have hb0:=ah.mk (B.yD (Below.refl w.heap.size w) (aiq _) 5 a0)
  have hr0:=ah.mk (B.yC w 5 a0)
  go_enter Tryz.func76,Tryz.ntmps76
  go_wp2
  generalize Lib.bytesWorld w 5 a0 = w1 at hb0 hr0 ⊢
  generalize grownCap w a0.size 0 5 = C
  have hz:=ah.mk (B.numsOf_length a0)
  have hg:=ah.mk (aiq w.heap.size)
  generalize hgg:w.heap.size = g at hb0 hr0 hg ⊢
  have hg':=ah.mk hgg
  clear hgg
  go_loopw [4] (fun v wr=>∃ k:Nat,k ≤ a0.size ∧ v = .int .i64 k ∧ ah (B.vL wr g (B.iX k (B.numsOf a0))) ∧ ah (Below g w wr)) (fun v _=>a0.size - (intOf v).toNat)
  case atStart=>exact ⟨0,aiU _,rfl,⟨by rw [B.yB];exact hr0.out⟩,hb0⟩
  case round =>
   obtain ⟨k,hk,rfl,hrow,hbel⟩:=hrel
   clear hr0 hb0 kc
   by_cases hlt:k < a0.size
   ·have hkl:k < (B.numsOf a0).length:=by rw [hz.out];exact hlt
    have hc:=(hrow.out k (by rw [B.gK];exact hkl))
    rw [B.EB k _ hkl,B.numsOf_at] at hc
    obtain ⟨hc1,hc2⟩:=hc
    have hrange:=B.AB a0 k
    have hset:=ah.mk (B.rowAt_set hrow.out k (B.iQ (bt a0 k)) (by rw [B.gK];exact hkl))
    have hset':=ah.mk (show B.vL (wr.setCell ⟨g,k,none⟩ (.int .u8 (B.iQ (bt a0 k)))) g (B.iX (k + 1) (B.numsOf a0)) by
     have h1:=hset.out
     rw [← B.numsOf_at,B.uV k _ hkl] at h1
     rw [← B.numsOf_at]
     exact h1)
    have lC:=ah.mk (hbel.out.setCell (p:=⟨g,k,none⟩) (aiq _) (.int .u8 (B.iQ (bt a0 k))))
    have hsame:=ah.mk (show B.iQ (bt a0 k) = bt a0 k → B.vL wr g (B.iX (k + 1) (B.numsOf a0)) by
     intro he j hj
     have h1:=hrow.out j (by rw [B.gK] at hj ⊢;exact hj)
     rw [← B.uV k _ hkl,B.numsOf_at,he]
     by_cases e:j = k
     ·subst e
      rw [aiL,List.getElem?_set_self (by rw [B.gK];exact hkl)]
      exact ⟨hc1,hc2⟩
     ·rw [aiL,List.getElem?_set_ne (fun h=>e h.symm),← aiL]
      exact h1)
    clear hset hrow hkl
    generalize bt a0 k = c at *
    by_cases c1:65 ≤ c
    ·by_cases c2:c ≤ 90
     ·have d1:decide (65 ≤ c) = true:=aip c1
      have d2:decide (c ≤ 90) = true:=aip c2
      have e1:B.iQ c = c + 32:=by unfold B.iQ;rw [ail ⟨c1,c2⟩]
      have e2:(c + 32) % 256 = c + 32:=by omega
      rw [e1] at hset' lC
      have e2':=ah.mk e2
      clear hsame hbel e1 e2 c1 c2
      go_wp2
      all_goals
       go_roundw
       case rel=>exact ⟨k + 1,by omega,by go_num,⟨fun j hj=>by first | exact hset'.out j hj | (rw [e2'.out];exact hset'.out j hj)⟩,⟨by first | exact lC.out | (rw [e2'.out];exact lC.out) | exact ⟨lC.out.os,lC.out.tape,lC.out.output,lC.out.size,lC.out.block⟩⟩⟩
       case measure=>simp [intOf];omega
     ·have d1:decide (65 ≤ c) = true:=aip c1
      have d2:decide (c ≤ 90) = false:=air c2
      have e1:B.iQ c = c:=by unfold B.iQ;rw [ain (by omega)]
      have hr2:=ah.mk (hsame.out e1)
      clear hsame hset' lC e1 c1 c2
      go_wp2
      go_roundw
      case rel=>exact ⟨k + 1,by omega,by go_num,hr2,hbel⟩
      case measure=>simp [intOf];omega
    ·have d1:decide (65 ≤ c) = false:=air c1
     have e1:B.iQ c = c:=by unfold B.iQ;rw [ain (by omega)]
     have hr2:=ah.mk (hsame.out e1)
     clear hsame hset' lC e1 c1
     go_wp2
     go_roundw
     case rel=>exact ⟨k + 1,by omega,by go_num,hr2,hbel⟩
     case measure=>simp [intOf];omega
   ·obtain rfl:k = a0.size:=by omega
    have hl:(B.iX a0.size (B.numsOf a0)).length = a0.size:=by rw [B.gK];exact hz.out
    have kd:=fun (dst:TypeId) (hd:Tryz.prog.underlying dst = some .string)=>run_convert_bytes_arg (P:=Tryz.prog) wr 189 5 Tryz.underlying189 Tryz.underlying5 g 0 a0.size C (B.iX a0.size (B.numsOf a0)) hl (fun i hi=>by rw [aiP];exact (hrow.out i (by rw [hl];exact hi)).1) dst hd
    replace kd:=kd 9 Tryz.underlying9
    have he:=ah.mk (show strOfNums (B.iX a0.size (B.numsOf a0)) = B.qL a0 by
     have:=B.AA (B.numsOf a0)
     rw [hz.out] at this
     rw [this];rfl)
    generalize strOfNums (B.iX a0.size (B.numsOf a0)) = q at kd he
    clear hrow hl hlt
    have he':=he.out
    clear he
    subst he'
    go_wp2
    go_ret
    exact ⟨rfl,by rw [hg'.out];exact hbel.out⟩
 ·rw [ain hs] at h
  exact absurd h (by simp)
def gG.f (k:Nat) (a0:ByteArray):Option (ByteArray):=(dK.f k a0).bind fun t117=>(if t117 = true then ((bX.f a0).bind fun zL=>(some zL)) else (some (⟨#[]⟩:ByteArray)))
theorem gG.calls (k:Nat) (a0:ByteArray) (r:ByteArray) (w:World) (h:gG.f k a0 = some r) :
  Calls Tryz.prog 41 #[.string a0] w fun e w'=>e = .returned (.string r) ∧ Below w.heap.size w w':=by
 have HB:=ah.mk (Below.refl w.heap.size w)
 have H:((dK.f k a0).bind fun t117=>(if t117 = true then ((bX.f a0).bind fun zL=>(some zL)) else (some (⟨#[]⟩:ByteArray)))) = some r:=h
 clear h
 replace H:=zbm H
 obtain ⟨t117,IB,H⟩:=H
 replace H:(if t117 = true then ((bX.f a0).bind fun zL=>(some zL)) else (some (⟨#[]⟩:ByteArray))) = some r:=H
 have A2:=ah.mk IB
 clear IB
 by_cases c3:t117 = true
 ·subst c3
  have H1:((bX.f a0).bind fun zL=>(some zL)) = some r:=by rw [ail rfl] at H;exact H
  clear H
  have H:=H1
  clear H1
  replace H:=zbm H
  obtain ⟨zL,NQ,H⟩:=H
  replace H:(some zL) = some r:=H
  have A4:=ah.mk NQ
  clear NQ
  obtain rfl:=aiS H
  go_enter Tryz.func41,Tryz.ntmps41
  go_wp2_with (first | ((with_reducible refine dJ (f:=42) rfl ?_);refine jh (some 4) rfl rfl Tryz.func42 (by kernel_rfl) rfl #[.string a0] rfl (by (try simp only [ai8,aiy,aiF]) <;> rfl) ?_;(with_reducible refine (dK.calls k a0 true _ A2.out).mono ?_);rintro e w5 ⟨rfl,hb⟩;refine ⟨_,rfl,?_⟩;have iq:=ah.mk (cZ (by repeat first | exact HB.out | apply ak | apply aj | apply ay) hb);clear HB;have HB:=iq;clear iq;(try clear hb);(try clear hb2);(try clear hk);(try clear hi)) | ((with_reducible refine dJ (f:=76) rfl ?_);refine jh (some 7) rfl rfl Tryz.func76 (by kernel_rfl) rfl #[.string a0] rfl (by (try simp only [ai8,aiy,aiF]) <;> rfl) ?_;(with_reducible refine (bX.calls a0 zL _ A4.out).mono ?_);rintro e w6 ⟨rfl,hb⟩;refine ⟨_,rfl,?_⟩;have iq:=ah.mk (cZ (by repeat first | exact HB.out | apply ak | apply aj | apply ay) hb);clear HB;have HB:=iq;clear iq;(try clear hb);(try clear hb2);(try clear hk);(try clear hi)))
  go_ret
  exact ⟨by first | rfl | (simp [aV,aW] <;> rfl) | (simp [*,aV,aW] <;> rfl),by repeat (first | exact HB.out | apply ak | apply aj | apply ay)⟩
 ·replace c3:=ai6.mpr c3
  subst c3
  have H1:(some (⟨#[]⟩:ByteArray)) = some r:=by rw [ain (show ¬ (false = true) by decide)] at H;exact H
  clear H
  have H:=H1
  clear H1
  obtain rfl:=aiS H
  go_enter Tryz.func41,Tryz.ntmps41
  go_wp2_with (first | ((with_reducible refine dJ (f:=42) rfl ?_);refine jh (some 4) rfl rfl Tryz.func42 (by kernel_rfl) rfl #[.string a0] rfl (by (try simp only [ai8,aiy,aiF]) <;> rfl) ?_;(with_reducible refine (dK.calls k a0 false _ A2.out).mono ?_);rintro e w7 ⟨rfl,hb⟩;refine ⟨_,rfl,?_⟩;have iq:=ah.mk (cZ (by repeat first | exact HB.out | apply ak | apply aj | apply ay) hb);clear HB;have HB:=iq;clear iq;(try clear hb);(try clear hb2);(try clear hk);(try clear hi)))
  go_ret
  exact ⟨by first | rfl | (simp [aV,aW] <;> rfl) | (simp [*,aV,aW] <;> rfl),by repeat (first | exact HB.out | apply ak | apply aj | apply ay)⟩
end
section
open Go.RowKit Go.Proofs.YtfokaoeinpnagaaGreatW.aT Go.Proofs.YtfokaoeinpnagaaGreatW.dO Go.Proofs.YtfokaoeinpnagaaGreatW.eX Go.Proofs.YtfokaoeinpnagaaGreat.B
theorem j6 {n:ByteArray}:n.toList = ([0]:List UInt8) ↔ n = root:=by
 have:root.toList = ([0]:List UInt8):=by rw [Lib.toList_data];rfl
 rw [← this,toList_inj]
theorem NU (d:Nat):∀ (k:Nat) (n:ByteArray) (acc:List ByteArray),n.size ≤ d → 1 ≤ n.size → d ≤ 255 → acc.length + d ≤ 1000 → 2 * d + 2 ≤ k →
  bF.l0 k n acc = some (match jR n.size n with | some l=>(acc ++ l,true) | none=>([],false)):=by
 induction d with
 | zero=>intro k n acc h1 h2;omega
 | succ d ih =>
  intro k n acc h1 h2 h3 h4 hk
  obtain ⟨k,rfl⟩:∃ m,k = m + 2:=⟨k - 2,by omega⟩
  rw [bF.l0,ail (by omega),bF.j1,yG h2]
  by_cases hr:n = root
  ·have hb:(n.toList != ([0]:List UInt8)) = false:=ajT.mpr (j6.mpr hr)
   have hb2:(n.toList == ([0]:List UInt8)) = true:=aiY.mpr (j6.mpr hr)
   rw [hb,ain ajl,ail hr,hb2]
   simp
  ·have hb:(n.toList != ([0]:List UInt8)) = true:=ajC.mpr fun h=>hr (j6.mp h)
   have hbr:=gD n 0
   rw [hb,ail rfl,ail (by omega),ain hr,jQ (n:=bt n 0) (by omega) (by omega),jQ (n:=bt n 0 + 1) (by omega) (by omega),jQ (n:=1 + bt n 0) (by omega) (by omega)]
   by_cases c1:bt n 0 < 1
   ·rw [ail c1,ain (by omega)]
   ·rw [ain c1]
    by_cases c2:bt n 0 > 63
    ·rw [ail c2,ain (by omega)]
    ·rw [ain c2]
     by_cases c3:bt n 0 + 1 ≥ (n.size:Int)
     ·rw [ail c3,ain (by omega)]
     ·rw [ain c3,ail (by omega),ail (by omega),ail (by omega),ail (by omega),ail (by omega)]
      have e:(1 + bt n 0).toNat = 1 + (bt n 0).toNat:=by omega
      rw [e,ih k _ _ (by rw [aiW];omega) (by rw [aiW];omega) (by omega) (by simp;omega) (by omega)]
      cases jR (n.extract (1 + (bt n 0).toNat) n.size).size (n.extract (1 + (bt n 0).toNat) n.size) with
      | none=>rfl
      | some l=>simp
def CK (n:ByteArray):List ByteArray × Bool:=match rT n with | some l=>(l,true) | none=>([],false)
theorem NV (k:Nat) (hk:600 ≤ k) (n:ByteArray) (hs:n.size ≤ 1000000000):bF.f k n = some (CK n):=by
 unfold bF.f CK rT
 by_cases h:n.size ≤ 255
 ·rw [ain (by omega),ail h]
  by_cases h0:n.size = 0
  ·obtain ⟨k,rfl⟩:∃ m,k = m + 2:=⟨k - 2,by omega⟩
   have hb2:(n.toList == ([0]:List UInt8)) = false:=ajo.mpr fun h=>by rw [j6] at h;rw [h,j5] at h0;omega
   rw [bF.l0,ain (by omega),bF.j1,ain ajl,hb2,jR,ail h0]
  ·rw [NU 255 k n [] h (by omega) (by omega) (by simp) (by omega),yF 255 n h]
   simp
 ·rw [ail (by omega),ain h]
theorem Gu (n:ByteArray):(CK n).2 = jJ n:=by
 unfold CK jJ
 cases rT n <;> rfl
theorem yL (k:Nat) (hk:600 ≤ k) (n:ByteArray) (hs:n.size ≤ 1000000000):fM.f k n = some (jJ n):=by
 unfold fM.f
 rw [NV k hk n hs]
 simp only [Option.bind_some,Gu]
theorem aa0 (k:Nat) (hk:600 ≤ k) (n:ByteArray) (hs:n.size ≤ 1000000000):tY.f k n = some (up n):=by
 unfold tY.f
 rw [yL k hk n hs]
 simp only [Option.bind_some]
 cases hn:jJ n with
 | false=>rw [ain ajl,WG hn]
 | true =>
  rw [ail rfl]
  obtain ⟨l,rfl,hok,hz⟩:=wH.mp hn
  cases l with
  | nil=>rw [tX,ail (j6.mpr rfl),Rq]
  | cons x l =>
   have hx:=hok x (by simp)
   have hr:=vM x l hx
   rw [ain (fun h=>hr (j6.mp h)),WE hok hz]
   obtain ⟨hx1,hx2⟩:=hx
   rw [pV] at hz ⊢
   rw [lq] at hz
   have h1:=lT l
   rw [NG (by omega),lq,ail (by omega),jQ (n:=(x.size:Int)) (by omega) (by omega),jQ (n:=1 + (x.size:Int)) (by omega) (by omega),ail (by omega),ail (by omega)]
   have e:(1 + (x.size:Int)).toNat = 1 + x.size:=by omega
   have hc:=@ED (x.size:Int) x (enc l)
   rw [lq] at hc
   rw [e,hc]
theorem WJ (n:ByteArray) (hs:n.size ≤ 1000000000):iY.f n = some (qL n):=by unfold iY.f;rw [ail (by omega)]
theorem NW (n:ByteArray) (hs:n.size ≤ 1000000000):bX.f n = some (qL n):=by unfold bX.f;rw [ail (by omega)]
theorem Gv (a b:ByteArray):(a.toList == b.toList) = decide (a = b):=by
 rw [Bool.eq_iff_iff]
 simp only [aiY,aiG]
 exact toList_inj
theorem NY (n:ByteArray):n.extract 0 n.size = n:=akg
theorem J4 (d:Nat):∀ (k:Nat) (n:ByteArray) (i:Nat) (acc:List ByteArray),i < n.size → n.size - i ≤ d → n.size ≤ 255 → acc.length + d ≤ 1000 → d + 2 ≤ k →
  ∃ o,aC.l0 k n acc i = some o ∧ (match jR (n.extract i n.size).size (n.extract i n.size) with | some l=>o = (acc ++ l,true) | none=>o.2 = false):=by
 induction d with
 | zero=>intro k n i acc h1 h2;omega
 | succ d ih =>
  intro k n i acc h1 h2 h3 h4 hk
  obtain ⟨k,rfl⟩:∃ m,k = m + 1:=⟨k - 1,by omega⟩
  have hz:(n.extract i n.size).size = n.size - i:=by rw [aiW];omega
  have hb:bt (n.extract i n.size) 0 = bt n i:=by
   rw [mI (by omega) (by rw [hz];omega)]
   congr 1
  have hbr:=gD n i
  rw [aC.l0,ail (by omega),ail (by omega),yG (by rw [hz];omega),hb,jQ (n:=bt n i) (by omega) (by omega)]
  by_cases c0:bt n i = 0
  ·rw [ail c0]
   refine ⟨_,rfl,?_⟩
   by_cases hr:n.extract i n.size = root
   ·have h5:=aiK ByteArray.size hr
    rw [hz,j5] at h5
    rw [ail hr,jQ (by omega) (by omega)]
    have:(i:Int) = (n.size:Int) - 1:=by omega
    simp [this]
   ·have h5:n.size - i ≠ 1:=by
     intro h6
     refine hr (Gh (by rw [hz,j5];exact h6) fun j j0 j1=>?_)
     rw [hz] at j1
     have:j = 0:=by omega
     subst this
     rw [hb,c0,Ir]
    rw [ain hr,ain (by omega),jQ (by omega) (by omega)]
    simp
    omega
  ·have hr:n.extract i n.size ≠ root:=by
    intro h5
    rw [h5,Ir] at hb
    exact c0 hb.symm
   rw [ain c0,ain hr]
   by_cases c2:bt n i > 63
   ·rw [ail c2,ain (by omega)]
    exact ⟨_,rfl,rfl⟩
   ·rw [ain c2,jQ (n:=(n.size:Int) - i) (by omega) (by omega)]
    by_cases c3:bt n i ≥ (n.size:Int) - i
    ·rw [ail c3,ain (by rw [hz];omega)]
     exact ⟨_,rfl,rfl⟩
    ·rw [ain c3,jQ (n:=(i:Int) + 1) (by omega) (by omega),jQ (n:=(i:Int) + 1 + bt n i) (by omega) (by omega),ail (by omega),ail (by omega),ail (by omega),ail (by omega)]
     have e:((i:Int) + 1 + bt n i) = ((i + 1 + (bt n i).toNat:Nat):Int):=by omega
     have e1:((i:Int) + 1).toNat = i + 1:=by omega
     rw [e,e1,Int.toNat_natCast]
     by_cases c4:i + 1 + (bt n i).toNat < n.size
     ·obtain ⟨o,ho,hm⟩:=ih k n (i + 1 + (bt n i).toNat) (acc ++ [n.extract (i + 1) (i + 1 + (bt n i).toNat)]) (by omega) (by omega) h3 (by simp;omega) (by omega)
      refine ⟨o,ho,?_⟩
      rw [ail (by rw [hz];omega)]
      have x1:(n.extract i n.size).extract 1 (1 + (bt n i).toNat) = n.extract (i + 1) (i + 1 + (bt n i).toNat):=by
       rw [ByteArray.extract_extract];congr 1;omega
      have x2:(n.extract i n.size).extract (1 + (bt n i).toNat) (n.extract i n.size).size = n.extract (i + 1 + (bt n i).toNat) n.size:=by
       rw [hz,ByteArray.extract_extract];congr 1 <;> omega
      rw [x1,x2]
      cases hl:jR (n.extract (i + 1 + (bt n i).toNat) n.size).size (n.extract (i + 1 + (bt n i).toNat) n.size) with
      | none=>rw [hl] at hm;simpa using hm
      | some l=>rw [hl] at hm;simpa using hm
     ·obtain ⟨k,rfl⟩:∃ m,k = m + 1:=⟨k - 1,by omega⟩
      rw [ain (by rw [hz];omega),aC.l0,ain (by omega)]
      exact ⟨_,rfl,rfl⟩
theorem J5 (k:Nat) (hk:600 ≤ k) (n:ByteArray) (hs:n.size ≤ 1000000000) :
  ∃ o,aC.f k n = some o ∧ (match rT n with | some l=>o = (l,true) | none=>o.2 = false):=by
 obtain ⟨k,rfl⟩:∃ m,k = m + 1:=⟨k - 1,by omega⟩
 unfold aC.f rT
 by_cases h0:n.size = 0
 ·rw [ail (by omega),aC.j0,ail rfl,ail (by omega),jR,ail h0]
  exact ⟨_,rfl,rfl⟩
 ·rw [ain (by omega)]
  by_cases h:n.size ≤ 255
  ·have hd:decide ((n.size:Int) > 255) = false:=air (by omega)
   rw [hd,aC.j0,ain ajl,ail h,yF 255 n h]
   have:=J4 255 k n 0 [] (by omega) (by omega) h (by simp) (by omega)
   rw [NY] at this
   simpa using this
  ·have hd:decide ((n.size:Int) > 255) = true:=aip (by omega)
   rw [hd,aC.j0,ail rfl,ain h]
   exact ⟨_,rfl,rfl⟩
theorem CO (k:Nat) (hk:600 ≤ k) (n:ByteArray) (hs:n.size ≤ 1000000000):dK.f k n = some (jJ n):=by
 obtain ⟨o,ho,hm⟩:=J5 k hk n hs
 unfold dK.f jJ
 rw [ho]
 simp only [Option.bind_some]
 cases hl:rT n with
 | none=>rw [hl] at hm;simpa using hm
 | some l=>rw [hl] at hm;simp at hm;rw [hm];rfl
end
section
open Go.RowKit Go.Proofs.YtfokaoeinpnagaaGreatW.aT Go.Proofs.YtfokaoeinpnagaaGreatW.dO Go.Proofs.YtfokaoeinpnagaaGreatW.eX
attribute [local go_sem] jM jN kW kX jd je jO jP
def eT.f (a0:ByteArray) (a1:Int) (a2:Int):Option (ByteArray × Bool) :=
 if (a0.size:Int) ≤ 9223372036854775807 then
  (if 0 ≤ a1 ∧ 0 ≤ a2 ∧ a1 + a2 ≤ (a0.size:Int) then some (a0.extract a1.toNat (a1 + a2).toNat,true) else some ((⟨#[]⟩:ByteArray),false))
 else none
theorem eT.mid (s:ByteArray) (a b:Int) (h0:0 ≤ a) (h1:0 ≤ b) (h2:a + b ≤ (s.size:Int)) :
  (s.extract a.toNat s.size).extract 0 b.toNat = s.extract a.toNat (a + b).toNat:=by
 rw [ByteArray.extract_extract]
 congr 1
 omega
theorem eT.calls (a0:ByteArray) (a1:Int) (a2:Int) (r1:ByteArray) (r2:Bool) (w:World) (h:eT.f a0 a1 a2 = some (r1,r2)) :
  Calls Tryz.prog 136 #[.string a0,.int .i64 a1,.int .i64 a2] w fun e w'=>e = .returned (.tuple #[.string r1,.bool r2]) ∧ bM w w':=by
 unfold eT.f at h
 by_cases hs:(a0.size:Int) ≤ 9223372036854775807
 ·rw [ail hs] at h
  by_cases hc:0 ≤ a1 ∧ 0 ≤ a2 ∧ a1 + a2 ≤ (a0.size:Int)
  ·rw [ail hc] at h
   simp only [aiz,aiE] at h
   obtain ⟨rfl,rfl⟩:=h
   obtain ⟨h0,h1,h2⟩:=hc
   have hw:wrap64 ((a0.size:Int) - a1) = (a0.size:Int) - a1:=by unfold wrap64;omega
   have hm:=ah.mk (eT.mid a0 a1 a2 h0 h1 h2)
   have c1:decide (a1 < 0) = false:=air (by omega)
   have c2:decide (a2 < 0) = false:=air (by omega)
   have c3:decide ((a0.size:Int) < a1) = false:=air (by omega)
   have c4:decide (wrap64 ((a0.size:Int) - a1) < a2) = false:=air (by omega)
   have c5:=aix h0
   have c6:(a1 ≤ (a0.size:Int)) = True:=aix (by omega)
   have c7:=aix h1
   have c8:(a2 ≤ ((a0.extract a1.toNat a0.size).size:Int)) = True:=aix (by simp only [aiW];omega)
   have c9:(a2 ≤ (a0.size:Int) - (a1.toNat:Int)) = True:=aix (by omega)
   have c10:(a2 ≤ ((a0.size - a1.toNat:Nat):Int)) = True:=aix (by omega)
   clear hs hw h0 h1 h2
   go_enter Tryz.func136,Tryz.ntmps136
   go_wp2
   go_ret2
   exact ⟨by rw [hm.out];rfl,by repeat (first | exact bM.refl _ | apply bM.step)⟩
  ·rw [ain hc] at h
   simp only [aiz,aiE] at h
   obtain ⟨rfl,rfl⟩:=h
   by_cases c1:a1 < 0
   ·have c1':decide (a1 < 0) = true:=aip c1
    clear hs hc c1
    go_enter Tryz.func136,Tryz.ntmps136
    go_wp2
    go_ret2
    exact ⟨rfl,by repeat (first | exact bM.refl _ | apply bM.step)⟩
   ·by_cases c2:a2 < 0
    ·have c1':decide (a1 < 0) = false:=air c1
     have c2':decide (a2 < 0) = true:=aip c2
     clear hs hc c1 c2
     go_enter Tryz.func136,Tryz.ntmps136
     go_wp2
     go_ret2
     exact ⟨rfl,by repeat (first | exact bM.refl _ | apply bM.step)⟩
    ·by_cases c3:(a0.size:Int) < a1
     ·have c1':decide (a1 < 0) = false:=air c1
      have c2':decide (a2 < 0) = false:=air c2
      have c3':decide ((a0.size:Int) < a1) = true:=aip c3
      clear hs hc c1 c2 c3
      go_enter Tryz.func136,Tryz.ntmps136
      go_wp2
      go_ret2
      exact ⟨rfl,by repeat (first | exact bM.refl _ | apply bM.step)⟩
     ·have hw:wrap64 ((a0.size:Int) - a1) = (a0.size:Int) - a1:=by unfold wrap64;omega
      have c1':decide (a1 < 0) = false:=air c1
      have c2':decide (a2 < 0) = false:=air c2
      have c3':decide ((a0.size:Int) < a1) = false:=air c3
      have c4':decide (wrap64 ((a0.size:Int) - a1) < a2) = true:=aip (by omega)
      clear hs hc c1 c2 c3 hw
      go_enter Tryz.func136,Tryz.ntmps136
      go_wp2
      go_ret2
      exact ⟨rfl,by repeat (first | exact bM.refl _ | apply bM.step)⟩
 ·rw [ain hs] at h
  exact absurd h (by simp)
def gu.f (a0:Int):Option (Bool):=if a0 ≥ 1 then (some (decide (a0 ≤ 4))) else (some false)
theorem gu.calls (a0:Int) (r:Bool) (w:World) (h:gu.f a0 = some r) :
  Calls Tryz.prog 137 #[.int .i64 a0] w fun e w'=>e = .returned (.bool r) ∧ bM w w':=by
 have H:(if a0 ≥ 1 then (some (decide (a0 ≤ 4))) else (some false)) = some r:=h
 clear h
 by_cases c2:a0 ≥ 1
 ·rw [ail c2] at H
  have zK:decide (1 ≤ a0) = true:=aip c2
  clear c2
  obtain rfl:=aiS H
  go_enter Tryz.func137,Tryz.ntmps137
  go_wp2
  go_ret
  exact ⟨by first | rfl | (simp;done) | (simp [*];done),by repeat (first | exact bM.refl _ | apply bM.step)⟩
 ·rw [ain c2] at H
  have zK:decide (1 ≤ a0) = false:=air c2
  clear c2
  obtain rfl:=aiS H
  go_enter Tryz.func137,Tryz.ntmps137
  go_wp2
  go_ret
  exact ⟨by first | rfl | (simp;done) | (simp [*];done),by repeat (first | exact bM.refl _ | apply bM.step)⟩
mutual
def aI.j0 : Nat → Int → ByteArray → Bool → Option (Int × Bool)
 | 0,_,_,_=>none
 | k + 1,x2,x8,x25=>if x25 = true then (some (0,false)) else (aI.l0 k x8 0 x2 0)
def aI.l0 : Nat → ByteArray → Int → Int → Int → Option (Int × Bool)
 | 0,_,_,_,_=>none
 | k + 1,x8,x10,x26,x27=>if x27 < x26 then (if 0 ≤ x27 then (if x27 < (x8.size:Int) then (aI.l0 k x8 (Go.bits .or .i64 (wrap64 (x10 * 256)) (wrap64 (bt x8 x27))) x26 (wrap64 (x27 + 1))) else (none)) else (none)) else (some (x10,true))
end
def aI.f (k:Nat) (a0:ByteArray) (a1:Int) (a2:Int):Option (Int × Bool):=(eT.f a0 a1 a2).bind fun yM=>(if yM.2 = true then ((gu.f a2).bind fun yN=>(aI.j0 k a2 yM.1 (!yN))) else (aI.j0 k a2 yM.1 true))
theorem aI.yO : ∀ k,(∀ y0 y1 y2,mU (aI.j0 k y0 y1 y2) (aI.j0 (k + 1) y0 y1 y2)) ∧ (∀ y0 y1 y2 y3,mU (aI.l0 k y0 y1 y2 y3) (aI.l0 (k + 1) y0 y1 y2 y3))
 | 0=>⟨fun _ _ _ r h=>by simp [aI.j0] at h,fun _ _ _ _ r h=>by simp [aI.l0] at h⟩
 | k + 1=>by
  obtain ⟨ih0,ih1⟩:=aI.yO k
  refine ⟨?_,?_⟩
  ·intro y0 y1 y2
   unfold aI.j0
   repeat' first
   | (with_reducible exact mU.refl _)
   | exact ih0 _ _ _
   | exact ih1 _ _ _ _
   | exact mU.none _
   | refine mU.ite ?_ ?_
   | refine mU.bind ?_ (fun _=>?_)
  ·intro y0 y1 y2 y3
   unfold aI.l0
   repeat' first
   | (with_reducible exact mU.refl _)
   | exact ih0 _ _ _
   | exact ih1 _ _ _ _
   | exact mU.none _
   | refine mU.ite ?_ ?_
   | refine mU.bind ?_ (fun _=>?_)
theorem aI.mono : ∀ a0 a1 a2 k,mU (aI.f k a0 a1 a2) (aI.f (k + 1) a0 a1 a2):=by
 intro a0 a1 a2 k
 obtain ⟨ih0,ih1⟩:=aI.yO k
 unfold aI.f
 repeat' first
   | (with_reducible exact mU.refl _)
   | exact ih0 _ _ _
   | exact ih1 _ _ _ _
   | exact mU.none _
   | refine mU.ite ?_ ?_
   | refine mU.bind ?_ (fun _=>?_)
theorem aI.calls (k:Nat) (a0:ByteArray) (a1:Int) (a2:Int) (r1:Int) (r2:Bool) (w:World) (h:aI.f k a0 a1 a2 = some (r1,r2)) :
  Calls Tryz.prog 117 #[.string a0,.int .i64 a1,.int .i64 a2] w fun e w'=>e = .returned (.tuple #[.int .i64 r1,.bool r2]) ∧ bM w w':=by
 have H:((eT.f a0 a1 a2).bind fun yM=>(if yM.2 = true then ((gu.f a2).bind fun yN=>(aI.j0 k a2 yM.1 (!yN))) else (aI.j0 k a2 yM.1 true))) = some (r1,r2):=h
 clear h
 replace H:=zbm H
 obtain ⟨⟨t119,WK⟩,NQ,H⟩:=H
 replace H:(if WK = true then ((gu.f a2).bind fun yN=>(aI.j0 k a2 t119 (!yN))) else (aI.j0 k a2 t119 true)) = some (r1,r2):=H
 have A4:=ah.mk NQ
 clear NQ
 have HC5:=ah.mk H
 clear H
 go_enter Tryz.func117,Tryz.ntmps117
 go_upto_region 2 with (first | ((with_reducible refine dJ (f:=136) rfl ?_);refine jh (some 16) rfl rfl Tryz.func136 (by kernel_rfl) rfl #[.string a0,.int .i64 a1,.int .i64 a2] rfl (by (try simp only [ai8,aiy,aiF]) <;> rfl) ?_;(with_reducible refine (eT.calls a0 a1 a2 t119 WK _ A4.out).mono ?_);rintro e w' ⟨rfl,⟨nd,rfl⟩⟩;refine ⟨_,rfl,?_⟩))
 (try simp only [Act.put,ai1,List.set_cons_zero,List.set_cons_succ])
 go_cut [25] (fun v25 wc=>∃ (kq:Nat) (IG:Bool),v25 = .bool IG ∧ ah (aI.j0 kq a2 t119 IG = some (r1,r2)) ∧ ah (kq ≤ k) ∧ bM w wc)
 case first =>
  have H:=HC5.out
  clear HC5
  by_cases c6:WK = true
  ·subst c6
   have H1:((gu.f a2).bind fun yN=>(aI.j0 k a2 t119 (!yN))) = some (r1,r2):=by rw [ail rfl] at H;exact H
   clear H
   have H:=H1
   clear H1
   replace H:=zbm H
   obtain ⟨yN,A70,H⟩:=H
   replace H:(aI.j0 k a2 t119 (!yN)) = some (r1,r2):=H
   have A7:=ah.mk A70
   clear A70
   have H':=ah.mk H
   clear H
   go_wp2_with (first | (go_at_call 137;(with_reducible refine (gu.calls a2 yN _ A7.out).mono ?_);rintro e w' ⟨rfl,⟨nd,rfl⟩⟩))
   go_meet
   case rel=>exact ⟨_,(!yN),(by first | rfl | (simp;done) | (simp [*];done) | (simp [B.dS];done) | (simp [B.dU];done)),H',⟨by first | omega | exact aiq _⟩,by repeat (first | exact bM.refl _ | apply bM.step)⟩
  ·replace c6:=ai6.mpr c6
   subst c6
   have H1:(aI.j0 k a2 t119 true) = some (r1,r2):=by rw [ain (show ¬ (false = true) by decide)] at H;exact H
   clear H
   have H:=H1
   clear H1
   have H':=ah.mk H
   clear H
   go_wp2
   go_meet
   case rel=>exact ⟨_,(true),(by first | rfl | (simp;done) | (simp [*];done) | (simp [B.dS];done) | (simp [B.dU];done)),H',⟨by first | omega | exact aiq _⟩,by repeat (first | exact bM.refl _ | apply bM.step)⟩
 case rest =>
  clear HC5
  try clear c1
  try clear p2
  try clear c6
  obtain ⟨kq,IG,rfl,HA,HJ4,⟨mc4,rfl⟩⟩:=hcut
  cases kq with
  | zero=>exact absurd HA.out (by simp [aI.j0])
  | succ kj4 =>
   have H:=HA.out
   clear HA
   simp only [aI.j0] at H
   by_cases c8:IG = true
   ·subst c8
    have H1:(some (0,false)) = some (r1,r2):=by rw [ail rfl] at H;exact H
    clear H
    have H:=H1
    clear H1
    simp only [aiz,aiE] at H
    obtain ⟨rfl,rfl⟩:=H
    go_wp2
    go_ret2
    exact ⟨by first | rfl | (simp;done) | (simp [*];done),by repeat (first | exact bM.refl _ | apply bM.step)⟩
   ·replace c8:=ai6.mpr c8
    subst c8
    have H1:(aI.l0 kj4 t119 0 a2 0) = some (r1,r2):=by rw [ain (show ¬ (false = true) by decide)] at H;exact H
    clear H
    have H:=H1
    clear H1
    have H':=ah.mk H
    clear H
    go_wp2
    go_loopg [10,27] kj4 (fun kq v10 v27 w'=>∃ (II:Int) (mM:Int),v10 = .int .i64 II ∧ v27 = .int .i64 mM ∧ ah (aI.l0 kq t119 II a2 mM = some (r1,r2)) ∧ ah (kq ≤ kj4) ∧ bM w w')
    case atStart=>exact ⟨(0),(0),(by first | rfl | (simp;done) | (simp [*];done) | (simp [B.dS];done) | (simp [B.dU];done)),(by first | rfl | (simp;done) | (simp [*];done) | (simp [B.dS];done) | (simp [B.dU];done)),H',⟨aiq _⟩,by repeat (first | exact bM.refl _ | apply bM.step)⟩
    case round =>
     clear H'
     try clear c1
     try clear p2
     try clear c4
     try clear c6
     try clear c8
     try clear p2
     obtain ⟨II,mM,rfl,rfl,HA,HK2,⟨m2,rfl⟩⟩:=hrel
     cases gk with
     | zero=>exact absurd HA.out (by simp [aI.l0])
     | succ k2 =>
      have H:=HA.out
      clear HA
      simp only [aI.l0] at H
      by_cases c9:mM < a2
      ·rw [ail c9] at H
       have Gs:decide (mM < a2) = true:=aip c9
       clear c9
       by_cases c10:0 ≤ mM
       ·rw [ail c10] at H
        have EH:decide (0 ≤ mM) = true:=aip c10
        clear c10
        by_cases c11:mM < (t119.size:Int)
        ·rw [ail c11] at H
         have TT:decide (mM < (t119.size:Int)) = true:=aip c11
         clear c11
         have H':=ah.mk H
         clear H
         have p12:0 ≤ (mM:Int):=aiI (by first | (with_reducible assumption) | assumption)
         have q12:mM < (t119.size:Int):=aiI (by first | (with_reducible assumption) | assumption)
         have aib:=oJ t119 mM
         replace p12:=aix p12
         replace q12:=aix q12
         go_wp2
         go_roundg k2
         case measure=>have:=HJ4.out;have:=HK2.out;omega
         case rel=>exact ⟨(Go.bits .or .i64 (wrap64 (II * 256)) (wrap64 (bt t119 mM))),(wrap64 (mM + 1)),(by first | rfl | (simp;done) | (simp [*];done) | (simp [B.dS];done) | (simp [B.dU];done)),(by first | rfl | (simp;done) | (simp [*];done) | (simp [B.dS];done) | (simp [B.dU];done)),H',⟨by have:=HJ4.out;have:=HK2.out;omega⟩,by repeat (first | exact bM.refl _ | apply bM.step)⟩
        ·rw [ain c11] at H
         exact absurd H (by simp)
       ·rw [ain c10] at H
        exact absurd H (by simp)
      ·rw [ain c9] at H
       have Gs:decide (mM < a2) = false:=air c9
       clear c9
       simp only [aiz,aiE] at H
       obtain ⟨rfl,rfl⟩:=H
       go_wp2
       go_ret2
       exact ⟨by first | rfl | (simp;done) | (simp [*];done),by repeat (first | exact bM.refl _ | apply bM.step)⟩
end
section
open Go.RowKit Go.Proofs.YtfokaoeinpnagaaGreatW.aT Go.Proofs.YtfokaoeinpnagaaGreatW.dO Go.Proofs.YtfokaoeinpnagaaGreatW.eX Go.Proofs.YtfokaoeinpnagaaGreat.B
def aa1 : Nat → Int → List Int
 | 0,_=>[]
 | s + 1,n=>n / 256 ^ s % 256 :: aa1 s n
def NZ (n size:Int):Prop:=1 ≤ size ∧ size ≤ 4 ∧ 0 ≤ n ∧ n < 256 ^ size.toNat
instance (n size:Int):Decidable (NZ n size):=by unfold NZ;infer_instance
def afG (n size:Int):ByteArray:=if NZ n size then strOfNums (aa1 size.toNat n) else ⟨#[]⟩
def iG (s:ByteArray) (i n:Int):Prop:=0 ≤ i ∧ 0 ≤ n ∧ i + n ≤ (s.size:Int)
instance (s : ByteArray) (i n:Int):Decidable (iG s i n):=by unfold iG;infer_instance
def ig : Nat → ByteArray → Int → Int
 | 0,_,_=>0
 | k + 1,s,i=>ig k s i * 256 + bt s (i + k)
def kg (s:ByteArray) (i n:Int):Prop:=0 ≤ i ∧ 1 ≤ n ∧ n ≤ 4 ∧ i + n ≤ (s.size:Int)
instance (s : ByteArray) (i n:Int):Decidable (kg s i n):=by unfold kg;infer_instance
theorem tZ (s:ByteArray) (i n:Int) (hs:s.size ≤ 9223372036854775807) :
  eT.f s i n = some (if iG s i n then (s.extract i.toNat (i + n).toNat,true) else (⟨#[]⟩,false)):=by
 unfold eT.f iG
 rw [ail (by omega)]
 split <;> rename_i h <;> simp [h]
theorem kY (x b:Int) (hx0:0 ≤ x) (hx:x < 16777216) (hb0:0 ≤ b) (hb:b ≤ 255):Go.bits .or .i64 (wrap64 (x * 256)) (wrap64 b) = x * 256 + b:=by
 rw [jQ (by omega) (by omega),jQ (by omega) (by omega)]
 refine Go.bits_join .i64 62 (by decide) ?_ 8 (x * 256) b (by omega) (by omega) (by omega) hb0 (by omega) (by omega)
 intro n h0 h1
 rw [IntKind.wrap_i64]
 omega
theorem get_eq (k:Nat) (hk:9 ≤ k) (s:ByteArray) (i n:Int) (hs:s.size ≤ 9223372036854775807) :
  aI.f k s i n = some (if kg s i n then (ig n.toNat s i,true) else (0,false)):=by
 refine uT (fun k=>aI.mono s i n k) hk ?_
 unfold aI.f
 rw [tZ s i n hs]
 by_cases ht:iG s i n
 ·rw [ail ht]
  simp only [Option.bind_some,aiV]
  obtain ⟨h0,h1,h2⟩:=ht
  by_cases hz:1 ≤ n ∧ n ≤ 4
  ·have hf:gu.f n = some true:=by unfold gu.f;rw [ail (by omega)];simp;omega
   rw [ail (show kg s i n from ⟨h0,hz.1,hz.2,h2⟩),hf]
   have hz':=size_ext h0 h1 h2
   have hb:∀ j,0 ≤ j → j < n → bt (s.extract i.toNat (i + n).toNat) j = bt s (i + j):=fun j a b=>Nz h0 a b h2
   have e0:=hb 0
   have e1:=hb 1
   have e2:=hb 2
   have e3:=hb 3
   have r0:=gD s (i + 0)
   have r1:=gD s (i + 1)
   have r2:=gD s (i + 2)
   have r3:=gD s (i + 3)
   generalize s.extract i.toNat (i + n).toNat = t at *
   clear hb
   obtain ⟨hz1,hz4⟩:=hz
   have hn:n = 1 ∨ n = 2 ∨ n = 3 ∨ n = 4:=by omega
   have y0:wrap64 (0 + 1) = 1:=jQ (by omega) (by omega)
   have y1:wrap64 (1 + 1) = 2:=jQ (by omega) (by omega)
   have y2:wrap64 (2 + 1) = 3:=jQ (by omega) (by omega)
   have y3:wrap64 (3 + 1) = 4:=jQ (by omega) (by omega)
   rcases hn with rfl | rfl | rfl | rfl
   ·have o0:=kY 0 (bt s (i + 0)) (by omega) (by omega) r0.1 r0.2
    simp only [aI.j0,aI.l0,Option.bind_some,ajQ,aiO,aiJ,hz',e0 (by omega) (by omega),o0,y0]
    simp [ig]
   ·have o0:=kY 0 (bt s (i + 0)) (by omega) (by omega) r0.1 r0.2
    have o1:=kY (0 * 256 + bt s (i + 0)) (bt s (i + 1)) (by omega) (by omega) r1.1 r1.2
    simp only [aI.j0,aI.l0,Option.bind_some,ajQ,aiO,aiJ,hz',e0 (by omega) (by omega),e1 (by omega) (by omega),o0,o1,y0,y1]
    simp [ig]
   ·have o0:=kY 0 (bt s (i + 0)) (by omega) (by omega) r0.1 r0.2
    have o1:=kY (0 * 256 + bt s (i + 0)) (bt s (i + 1)) (by omega) (by omega) r1.1 r1.2
    have o2:=kY ((0 * 256 + bt s (i + 0)) * 256 + bt s (i + 1)) (bt s (i + 2)) (by omega) (by omega) r2.1 r2.2
    simp only [aI.j0,aI.l0,Option.bind_some,ajQ,aiO,aiJ,hz',e0 (by omega) (by omega),e1 (by omega) (by omega),e2 (by omega) (by omega),o0,o1,o2,y0,y1,y2]
    simp [ig]
   ·have o0:=kY 0 (bt s (i + 0)) (by omega) (by omega) r0.1 r0.2
    have o1:=kY (0 * 256 + bt s (i + 0)) (bt s (i + 1)) (by omega) (by omega) r1.1 r1.2
    have o2:=kY ((0 * 256 + bt s (i + 0)) * 256 + bt s (i + 1)) (bt s (i + 2)) (by omega) (by omega) r2.1 r2.2
    have o3:=kY (((0 * 256 + bt s (i + 0)) * 256 + bt s (i + 1)) * 256 + bt s (i + 2)) (bt s (i + 3)) (by omega) (by omega) r3.1 r3.2
    simp only [aI.j0,aI.l0,Option.bind_some,ajQ,aiO,aiJ,hz',e0 (by omega) (by omega),e1 (by omega) (by omega),e2 (by omega) (by omega),e3 (by omega) (by omega),o0,o1,o2,o3,y0,y1,y2,y3]
    simp [ig]
  ·have hf:gu.f n = some false:=by
    unfold gu.f
    by_cases h2:1 ≤ n
    ·rw [ail (by omega)];simp;omega
    ·rw [ain (by omega)]
   rw [ain (show ¬ kg s i n from fun h=>hz ⟨h.2.1,h.2.2.1⟩),hf]
   simp [aI.j0]
 ·rw [ain ht,ain (show ¬ kg s i n from fun h=>ht ⟨h.1,by have:=h.2.1;omega,h.2.2.2⟩)]
  simp [aI.j0]
theorem EK (s:ByteArray) (i:Int):ig 1 s i = bt s i:=by simp [ig]
theorem Gw (k:Nat) (s t:ByteArray) (i j:Int) (h:∀ m:Nat,m < k → bt s (i + m) = bt t (j + m)):ig k s i = ig k t j:=by
 induction k with
 | zero=>rfl
 | succ k ih=>simp only [ig];rw [ih fun m hm=>h m (by omega),h k (by omega)]
theorem oz (k:Nat) (s:ByteArray) (i:Int):0 ≤ ig k s i ∧ ig k s i < 256 ^ k:=by
 induction k with
 | zero=>simp [ig]
 | succ k ih =>
  have:=gD s (i + k)
  simp only [ig]
  rw [Int.pow_succ]
  omega
end
section
open Go.RowKit Go.Proofs.YtfokaoeinpnagaaGreatW.aT Go.Proofs.YtfokaoeinpnagaaGreatW.dO Go.Proofs.YtfokaoeinpnagaaGreatW.eX
attribute [local go_sem] jM jN kW kX jd je jO jP
def iB.f (a0:ByteArray) (a1:Int) (a2:Int):Option (ByteArray × Bool):=if a1 < 0 then (some ((⟨#[]⟩:ByteArray),false)) else (if a2 < 0 then (some ((⟨#[]⟩:ByteArray),false)) else (if a1 > (a0.size:Int) then (some ((⟨#[]⟩:ByteArray),false)) else (if a2 > (wrap64 ((a0.size:Int) - a1)) then (some ((⟨#[]⟩:ByteArray),false)) else (if 0 ≤ a1 then (if a1 ≤ (wrap64 (a1 + a2)) then (if (wrap64 (a1 + a2)) ≤ (a0.size:Int) then (some (a0.extract (a1:Int).toNat ((wrap64 (a1 + a2)):Int).toNat,true)) else (none)) else (none)) else (none)))))
mutual
def bC.j0 : Nat → Int → ByteArray → Bool → Option (Int × Bool)
 | 0,_,_,_=>none
 | k + 1,x2,x8,x28=>if x28 = true then (some (0,false)) else (bC.l0 k x2 x8 0 0)
def bC.l0 : Nat → Int → ByteArray → Int → Int → Option (Int × Bool)
 | 0,_,_,_,_=>none
 | k + 1,x2,x8,x10,x11=>if x11 < x2 then (if 0 ≤ x11 then (if x11 < (x8.size:Int) then (bC.l0 k x2 x8 (wrap64 ((wrap64 (256 * x10)) + (wrap64 (bt x8 x11)))) (wrap64 (x11 + 1))) else (none)) else (none)) else (some (x10,true))
end
def bC.f (k:Nat) (a0:ByteArray) (a1:Int) (a2:Int):Option (Int × Bool):=(iB.f a0 a1 a2).bind fun IJ=>(if IJ.2 = true then (if a2 < 1 then (bC.j0 k a2 IJ.1 true) else (bC.j0 k a2 IJ.1 (decide (a2 > 4)))) else (bC.j0 k a2 IJ.1 true))
end
section
open Go.RowKit Go.Proofs.YtfokaoeinpnagaaGreatW.aT Go.Proofs.YtfokaoeinpnagaaGreatW.dO Go.Proofs.YtfokaoeinpnagaaGreatW.eX Go.Proofs.YtfokaoeinpnagaaGreat.B
theorem vO (s:ByteArray) (i n:Int) (hs:s.size ≤ 1000000) :
  iB.f s i n = some (if iG s i n then (s.extract i.toNat (i + n).toNat,true) else (⟨#[]⟩,false)):=by
 have u:iG s i n = (0 ≤ i ∧ 0 ≤ n ∧ i + n ≤ (s.size:Int)):=rfl
 unfold iB.f
 by_cases h0:i < 0
 ·rw [ail h0,ain (by rw [u];omega)]
 ·by_cases h1:n < 0
  ·rw [ain h0,ail h1,ain (by rw [u];omega)]
  ·by_cases h2:i > (s.size:Int)
   ·rw [ain h0,ain h1,ail h2,ain (by rw [u];omega)]
   ·rw [ain h0,ain h1,ain h2]
    have e1:wrap64 ((s.size:Int) - i) = s.size - i:=jQ (by omega) (by omega)
    rw [e1]
    by_cases h3:n > (s.size:Int) - i
    ·rw [ail h3,ain (by rw [u];omega)]
    ·have e2:wrap64 (i + n) = i + n:=jQ (by omega) (by omega)
     rw [ain h3,e2,ail (by omega),ail (by omega),ail (by omega),ail (by rw [u];omega)]
theorem Gx (n:Nat) (hn:n ≤ 4) (t:ByteArray) (ht:t.size = n) (d:Nat):∀ k j,n - j = d → j ≤ n → d < k →
  bC.l0 k n t (ig j t 0) j = some (ig n t 0,true):=by
 induction d with
 | zero =>
  intro k j hd hj hk
  obtain rfl:j = n:=by omega
  obtain ⟨k,rfl⟩:∃ m,k = m + 1:=⟨k - 1,by omega⟩
  rw [bC.l0,ain (by omega)]
 | succ d ih =>
  intro k j hd hj hk
  obtain ⟨k,rfl⟩:∃ m,k = m + 1:=⟨k - 1,by omega⟩
  have hr:=oz j t 0
  have hp:(256:Int) ^ j ≤ 16777216:=by
   have:j = 0 ∨ j = 1 ∨ j = 2 ∨ j = 3:=by omega
   rcases this with rfl | rfl | rfl | rfl <;> simp
  have hb:=gD t j
  rw [bC.l0,ail (by omega),ail (by omega),ail (by omega),jQ (n:=bt t j) (by omega) (by omega),jQ (n:=256 * ig j t 0) (by omega) (by omega),jQ (n:=256 * ig j t 0 + bt t j) (by omega) (by omega),jQ (n:=(j:Int) + 1) (by omega) (by omega)]
  have e:256 * ig j t 0 + bt t j = ig (j + 1) t 0:=by
   simp only [ig]
   rw [show (0:Int) + (j:Int) = j from by omega]
   omega
  rw [e,show ((j:Int) + 1) = ((j + 1:Nat):Int) from by omega]
  exact ih k (j + 1) (by omega) (by omega) (by omega)
theorem yP (k:Nat) (hk:9 ≤ k) (s:ByteArray) (i n:Int) (hs:s.size ≤ 1000000) :
  bC.f k s i n = some (if kg s i n then (ig n.toNat s i,true) else (0,false)):=by
 obtain ⟨k,rfl⟩:∃ m,k = m + 1:=⟨k - 1,by omega⟩
 unfold bC.f
 rw [vO s i n hs]
 simp only [Option.bind_some]
 by_cases ht:iG s i n
 ·simp only [ail ht,aiV]
  obtain ⟨h0,h1,h2⟩:=ht
  by_cases c1:n < 1
  ·rw [ail c1,bC.j0,ail rfl,ain (fun h=>by have:=h.2.1;omega)]
  ·rw [ain c1]
   by_cases c2:n > 4
   ·rw [aip c2,bC.j0,ail rfl,ain (fun h=>by have:=h.2.2.1;omega)]
   ·rw [air c2,bC.j0,ain ajl,ail ⟨h0,by omega,by omega,h2⟩]
    have hz:=size_ext h0 h1 h2
    have e:((n.toNat:Nat):Int) = n:=by omega
    have:=Gx n.toNat (by omega) (s.extract i.toNat (i + n).toNat) (by omega) n.toNat k 0 (by omega) (by omega) (by omega)
    rw [e] at this
    rw [show (0:Int) = ((0:Nat):Int) from rfl]
    refine Eq.trans this ?_
    congr 2
    refine Gw _ _ _ _ _ fun m hm=>?_
    rw [show (0:Int) + (m:Int) = m from by omega,Nz h0 (by omega) (by omega) h2]
 ·simp only [ain ht,aiO,aiJ]
  rw [bC.j0,ail rfl,ain (fun h=>ht ⟨h.1,by have:=h.2.1;omega,h.2.2.2⟩)]
end
section
open Go.Shelf Go.RowKit
def vP : Go.Shelf.Ren:=⟨fun | 156=>156 | 165=>160 | 166=>159 | 169=>157 | 240=>161 | 241=>162 | 276=>163 | 277=>164 | n=>n,fun | 0=>0 | 3=>3 | 4=>4 | 5=>5 | 9=>9 | 20=>20 | 31=>40 | 37=>189 | 70=>224 | 72=>226 | 75=>234 | 76=>235 | 80=>219 | 127=>238 | 164=>239 | n=>n,fun n=>n⟩
theorem IK : Lays.n156 Tryz.prog vP where
 mixed:=by kernel_rfl
 f156:=by kernel_rfl
 f165:=by kernel_rfl
 f166:=by kernel_rfl
 f169:=by kernel_rfl
 f240:=by kernel_rfl
 f241:=by kernel_rfl
 f276:=by kernel_rfl
 f277:=by kernel_rfl
 t0:=Tryz.underlying0
 a0:=Tryz.isAgg0
 z0:=Tryz.sizeOf0
 v0:=Tryz.zeroValue0
 t3:=Tryz.underlying3
 a3:=Tryz.isAgg3
 z3:=Tryz.sizeOf3
 v3:=Tryz.zeroValue3
 t4:=Tryz.underlying4
 a4:=Tryz.isAgg4
 z4:=Tryz.sizeOf4
 v4:=Tryz.zeroValue4
 t9:=Tryz.underlying9
 a9:=Tryz.isAgg9
 z9:=Tryz.sizeOf9
 v9:=Tryz.zeroValue9
 t20:=Tryz.underlying20
 a20:=Tryz.isAgg20
 z20:=Tryz.sizeOf20
 v20:=Tryz.zeroValue20
 t31:=Tryz.underlying40
 a31:=Tryz.isAgg40
 z31:=Tryz.sizeOf40
 v31:=Tryz.zeroValue40
 t37:=Tryz.underlying189
 a37:=Tryz.isAgg189
 z37:=Tryz.sizeOf189
 v37:=Tryz.zeroValue189
 t70:=Tryz.underlying224
 a70:=Tryz.isAgg224
 z70:=Tryz.sizeOf224
 v70:=Tryz.zeroValue224
 t72:=Tryz.underlying226
 a72:=Tryz.isAgg226
 z72:=Tryz.sizeOf226
 v72:=Tryz.zeroValue226
 t75:=Tryz.underlying234
 a75:=Tryz.isAgg234
 z75:=Tryz.sizeOf234
 v75:=Tryz.zeroValue234
 t76:=Tryz.underlying235
 a76:=Tryz.isAgg235
 z76:=Tryz.sizeOf235
 v76:=Tryz.zeroValue235
 t127:=Tryz.underlying238
 a127:=Tryz.isAgg238
 z127:=Tryz.sizeOf238
 v127:=Tryz.zeroValue238
 t164:=Tryz.underlying239
 a164:=Tryz.isAgg239
 z164:=Tryz.sizeOf239
 v164:=Tryz.zeroValue239
theorem vQ : Builder.Extra Tryz.prog vP where
 sizeBuilder:=by kernel_rfl
 liesBuilder:=by kernel_rfl
 t5:=Tryz.underlying5
 a5:=Tryz.isAgg5
 z5:=Tryz.sizeOf5
 v5:=Tryz.zeroValue5
 infoByte:=by kernel_rfl
 cellsByte:=by kernel_rfl
 sizeByte:=by kernel_rfl
 neB5:=by decide
end
section
open Go.RowKit Go.Proofs.YtfokaoeinpnagaaGreatW.aT Go.Proofs.YtfokaoeinpnagaaGreatW.dO Go.Proofs.YtfokaoeinpnagaaGreatW.eX
attribute [local go_sem] jM jN kW kX jd je jO jP
theorem aH.told (T:TypeId) (B0 b o:Nat) (cs:Array Value) (p v:Value) (l:List UInt8) (w:World) (h:B.uY T 5 B0 b o cs p v (Lib.byteCells l) w) (h0:l ≠ []) :
  Calls Tryz.prog 157 #[.pointer (some ⟨b,o,none⟩)] w fun e w'=>e = .returned (.string ⟨l.toArray⟩) ∧ ∃ g,B0 ≤ g ∧ g ≠ b ∧ w' = w.drew.freeze ⟨g,0,none⟩ l.length:=by
 have hl0:l.length ≠ 0:=by simpa using h0
 have hown:=h.own
 rw [Lib.byteCells_length] at hown
 obtain ⟨g,cap,cur,rfl,hbg,hg,hnc,hcm,hcs,htake⟩:∃ g cap cur,v = .slice (some ⟨g,0,none⟩) l.length cap ∧ B0 ≤ g ∧ w.heap[g]? = some (.cells cur 5 (0,0)) ∧ l.length ≤ cap ∧ cap ≤ maxLen ∧ cur.size = cap * 1 ∧ cur.toList.take (l.length * 1) = Lib.byteCells l:=by
  rcases hown.2 with ⟨_,hz⟩ | ⟨g,cap,cur,hv,r⟩
  ·exact absurd hz hl0
  ·exact ⟨g,cap,cur,hv,r⟩
 have hgb:g ≠ b:=fun e=>h.ne (by rw [e];rfl)
 have c1:w.drew.cell? ⟨b,o + 1,none⟩ = some (.slice (some ⟨g,0,none⟩) l.length cap):=by
  have:w.drew.heap[b]? = some (.cells cs T (0,0)):=h.blk
  rw [Lib.cell_of_heap this];exact h.v_
 have hSD:(Builtin.unsafeSliceData_ #[189] 238 #[.slice (some ⟨g,0,none⟩) l.length cap]).run Tryz.prog w.drew = .ok (.pointer (some ⟨g,0,none⟩)) w.drew :=
  Lib.run_unsafeSliceData_row _ _ _ _ _ _ (by omega)
 have hUS:(Builtin.unsafeString_ #[238,3] 9 #[.pointer (some ⟨g,0,none⟩),.int .i64 l.length]).run Tryz.prog w.drew = .ok (.string ⟨l.toArray⟩) (w.drew.freeze ⟨g,0,none⟩ l.length):=by
  refine Lib.run_unsafeString_row w.drew 238 3 9 5 Tryz.underlying238 (by kernel_rfl) g cur.size (by have hg':w.drew.heap[g]? = some (.cells cur 5 (0,0)):=hg;simp [World.shape?,hg']) l h0 (by omega) (by unfold maxLen at hcm;omega) ?_
  intro j x hx
  have:=hown.cells (g:=g) rfl j (.int .u8 x.toNat) (by simp [Lib.byteCells,hx])
  exact this
 have afH:=ah.mk hbg
 have hgb':=ah.mk hgb
 clear hbg hgb h hown hg hnc hcm hcs htake hl0 h0
 go_enter Tryz.func157,Tryz.ntmps157
 go_wp2
 go_region
 all_goals (go_wp2;go_ret;exact ⟨rfl,_,afH.out,hgb'.out,rfl⟩)
def aH.Kept (b:Nat) (w w':World):Prop:=∀ a:Addr,a.block = b → w'.cell? a = w.cell? a ∧ w'.frozen? a = w.frozen? a
theorem aH.Kept.of_block {b:Nat} {w w':World} (h:w'.heap[b]? = w.heap[b]?):aH.Kept b w w':=by
 rintro a rfl
 exact ⟨World.cell?_of_block h,World.frozen?_of_block h⟩
theorem aH.CP (W:World) (q:Option Addr):(Builtin.unsafeString_ #[238,3] 9 #[.pointer q,.int .i64 0]).run Tryz.prog W = .ok (.string .empty) W :=
 Lib.run_unsafeString_none W _ _ _ q
theorem aH.of_nil (B0 b o:Nat) (w:World) (c1:w.drew.cell? ⟨b,o + 1,none⟩ = some (.slice none 0 0)) :
  Calls Tryz.prog 157 #[.pointer (some ⟨b,o,none⟩)] w fun e w'=>e = .returned (.string ⟨#[]⟩) ∧ aH.Kept b w w' ∧ Below B0 w w':=by
 have hUS:=aH.CP
 have hSD:(Builtin.unsafeSliceData_ #[189] 238 #[.slice none 0 0]).run Tryz.prog w.drew = .ok (.pointer none) w.drew:=rfl
 go_enter Tryz.func157,Tryz.ntmps157
 go_wp2
 go_region
 all_goals (go_wp2;go_ret;exact ⟨rfl,aH.Kept.of_block rfl,Below.drew (Below.refl B0 w)⟩)
theorem aH.J6 (B0 b o g:Nat) (cur:Array Value) (w:World) (hBw:B0 ≤ w.heap.size) (hlt:b < w.heap.size) (c0:w.cell? ⟨b,o + 1,none⟩ = some (.slice (some ⟨g,0,none⟩) 0 0)) (hg:w.heap[g]? = some (.cells cur 5 (0,0))) :
  Calls Tryz.prog 157 #[.pointer (some ⟨b,o,none⟩)] w fun e w'=>e = .returned (.string ⟨#[]⟩) ∧ aH.Kept b w w' ∧ Below B0 w w':=by
 have hUS:=aH.CP
 have hSD:(Builtin.unsafeSliceData_ #[189] 238 #[.slice (some ⟨g,0,none⟩) 0 0]).run Tryz.prog w.drew = .ok (.pointer (some ⟨w.drew.heap.size,0,none⟩)) (w.drew.alloc (.view ⟨g,0,none⟩ 5)) :=
  Lib.run_unsafeSliceData_zero w.drew _ _ 5 Tryz.underlying238 ⟨g,0,none⟩ 0 (5,cur.size) (by have hg':w.drew.heap[g]? = some (.cells cur 5 (0,0)):=hg;simp [World.shape?,hg'])
 have hold:(w.drew.alloc (.view ⟨g,0,none⟩ 5)).heap[b]? = w.heap[b]?:=(Lib.alloc_old w.drew _ b hlt)
 have c2:(w.drew.alloc (.view ⟨g,0,none⟩ 5)).cell? ⟨b,o + 1,none⟩ = some (.slice (some ⟨g,0,none⟩) 0 0):=by
  rw [World.cell?_of_block (w:=w) (a:=⟨b,o + 1,none⟩) hold];exact c0
 have c3:(w.alloc (.view ⟨g,0,none⟩ 5)).drew.cell? ⟨b,o + 1,none⟩ = some (.slice (some ⟨g,0,none⟩) 0 0):=c2
 have hold':=ah.mk hold
 have hBw':=ah.mk hBw
 clear hold hBw hlt
 go_enter Tryz.func157,Tryz.ntmps157
 go_wp2
 go_region
 all_goals (go_wp2;go_ret;exact ⟨rfl,aH.Kept.of_block hold'.out,(Below.drew (Below.refl B0 w)).alloc hBw'.out _⟩)
theorem aH.Rw (B0 b o g cap:Nat) (w:World) (hc0:cap ≠ 0) (c1:w.drew.cell? ⟨b,o + 1,none⟩ = some (.slice (some ⟨g,0,none⟩) 0 cap)) :
  Calls Tryz.prog 157 #[.pointer (some ⟨b,o,none⟩)] w fun e w'=>e = .returned (.string ⟨#[]⟩) ∧ aH.Kept b w w' ∧ Below B0 w w':=by
 have hUS:=aH.CP
 have hSD:(Builtin.unsafeSliceData_ #[189] 238 #[.slice (some ⟨g,0,none⟩) 0 cap]).run Tryz.prog w.drew = .ok (.pointer (some ⟨g,0,none⟩)) w.drew :=
  Lib.run_unsafeSliceData_row _ _ _ _ _ _ hc0
 clear hc0
 go_enter Tryz.func157,Tryz.ntmps157
 go_wp2
 go_region
 all_goals (go_wp2;go_ret;exact ⟨rfl,aH.Kept.of_block rfl,Below.drew (Below.refl B0 w)⟩)
theorem aH.any (T:TypeId) (B0 b o:Nat) (cs:Array Value) (p v:Value) (t:ByteArray) (w:World) (h:B.uY T 5 B0 b o cs p v (Lib.strCells t) w) (hBw:B0 ≤ w.heap.size) :
  Calls Tryz.prog 157 #[.pointer (some ⟨b,o,none⟩)] w fun e w'=>e = .returned (.string t) ∧ aH.Kept b w w' ∧ Below B0 w w':=by
 have c1:∀ W:World,W.heap = w.heap → W.cell? ⟨b,o + 1,none⟩ = some v:=by
  intro W hW
  have:W.heap[b]? = some (.cells cs T (0,0)):=by rw [hW];exact h.blk
  rw [Lib.cell_of_heap this];exact h.v_
 by_cases h0:t.data.toList = []
 ·have ht:t = ⟨#[]⟩:=ajv (Array.toList_inj.mp h0)
  subst ht
  rcases h.own.2 with ⟨rfl,_⟩ | ⟨g,cap,cur,rfl,hbg,hg,_,_,_,_⟩
  ·exact aH.of_nil B0 b o w (c1 _ rfl)
  ·by_cases hc:cap = 0
   ·subst hc
    exact aH.J6 B0 b o g cur w hBw h.lt (c1 _ rfl) hg
   ·exact aH.Rw B0 b o g cap w hc (c1 _ rfl)
 ·refine (aH.told T B0 b o cs p v t.data.toList w (by rw [← B.yK];exact h) h0).mono ?_
  rintro e w' ⟨rfl,g,h1,h2,rfl⟩
  refine ⟨rfl,aH.Kept.of_block ?_,Lib.below_freeze (Below.drew (Below.refl B0 w)) (p:=⟨g,0,none⟩) h1 _⟩
  unfold World.freeze
  split
  ·rfl
  ·simp [Array.getElem?_modify,h2]
   rfl
theorem qN.any (T:TypeId) (B0 b o:Nat) (cs:Array Value) (p v:Value) (bs:List Value) (w:World) (h:B.uY T 5 B0 b o cs p v bs w) :
  Calls Tryz.prog 158 #[.pointer (some ⟨b,o,none⟩)] w fun e w'=>e = .returned (.int .i64 bs.length) ∧ w = w':=by
 obtain ⟨ao,cap,rfl⟩:∃ ao cap,v = .slice ao bs.length cap:=by
  rcases h.own.2 with ⟨hv,h0⟩ | ⟨g,cap,cur,hv,_⟩
  ·exact ⟨none,0,by rw [hv,h0]⟩
  ·exact ⟨_,_,hv⟩
 have c1:w.cell? ⟨b,o + 1,none⟩ = some (.slice ao bs.length cap):=by rw [Lib.cell_of_heap h.blk];exact h.v_
 clear h
 go_enter Tryz.func158,Tryz.ntmps158
 go_wp2
 go_ret
 exact ⟨rfl,rfl⟩
theorem bZ.info : (Tryz.prog.info? 226).map (·.size) = some 2:=by kernel_rfl
theorem bZ.used (b o:Nat) (w:World) (h0:w.cell? ⟨b,o,none⟩ = some (.pointer (some ⟨b,o,none⟩))) :
  Calls Tryz.prog 161 #[.pointer (some ⟨b,o,none⟩)] w fun e w'=>e = .returned (.tuple #[]) ∧ w' = w:=by
 obtain ⟨j,hj,_⟩:=ajS.1 bZ.info
 go_enter Tryz.func161,Tryz.ntmps161
 go_wp2
 rw [Lib.run_neq_ptr_same w _ Tryz.underlying224 hj]
 go_wp2
 go_end0
 exact ⟨rfl,rfl⟩
theorem bZ.fresh (b o:Nat) (T:TypeId) (n:Nat) (w:World) (h0:w.cell? ⟨b,o,none⟩ = some (.pointer none)) (hsh:w.shape? b = some (T,n)) (hn:o < n)
  (hlies:liesAt Tryz.prog Tryz.prog.depth T (n / Tryz.prog.cellsOf T) o 226 1 = true) (hfz:w.frozen? ⟨b,o,none⟩ = false) :
  Calls Tryz.prog 161 #[.pointer (some ⟨b,o,none⟩)] w fun e w'=>e = .returned (.tuple #[]) ∧ w' = w.setCell ⟨b,o,none⟩ (.pointer (some ⟨b,o,none⟩)):=by
 obtain ⟨j,hj,hjs⟩:=ajS.1 bZ.info
 have afI:j.size ≠ 0:=by rw [hjs];decide
 clear hjs
 have hn':=ah.mk hn
 clear hn
 go_enter Tryz.func161,Tryz.ntmps161
 go_wp2
 rw [Lib.run_to_unsafe w ⟨b,o,none⟩ Tryz.underlying224 Tryz.underlying239 hj afI hsh hn'.out]
 simp only [Result.andThen]
 rw [Oper.upon_value]
 go_wp2
 rw [run_callFunc_extern Tryz.func163 (by kernel_rfl) (by kernel_rfl) (by kernel_rfl) (e:=Extern.AbiNoEscape.same) (by kernel_rfl)]
 rw [Lib.run_noEscape]
 simp only [Result.andThen]
 rw [Oper.upon_value]
 go_wp2
 rw [Lib.run_from_unsafe w ⟨b,o,none⟩ Tryz.underlying239 Tryz.underlying224 hj hsh hlies]
 simp only [Result.andThen]
 rw [Oper.upon_value]
 go_wp2
 go_end0
 exact ⟨rfl,rfl⟩
theorem bZ.any (T:TypeId) (B0 b o:Nat) (cs:Array Value) (p v:Value) (bs:List Value) (w:World) (h:B.uY T 5 B0 b o cs p v bs w)
  (hlies:liesAt Tryz.prog Tryz.prog.depth T (cs.size / Tryz.prog.cellsOf T) o 226 1 = true) :
  Calls Tryz.prog 161 #[.pointer (some ⟨b,o,none⟩)] w fun e w'=>e = .returned (.tuple #[]) ∧
   B.uY T 5 B0 b o (cs.setIfInBounds o (.pointer (some ⟨b,o,none⟩))) (.pointer (some ⟨b,o,none⟩)) v bs w' ∧ Below B0 w w':=by
 have ho:o < cs.size:=by
  rcases ajA o cs.size with h' | h'
  ·exact h'
  ·have:=h.p_;rw [ajt h'] at this;cases this
 have hsh:w.shape? b = some (T,cs.size):=by simp [World.shape?,h.blk]
 have hc:w.cell? ⟨b,o,none⟩ = some p:=by rw [Lib.cell_of_heap h.blk];exact h.p_
 rcases h.self with rfl | rfl
 ·refine (bZ.fresh b o T cs.size w hc hsh ho hlies (Lib.frozen_of_heap h.blk o)).mono ?_
  rintro e w' ⟨rfl,rfl⟩
  exact ⟨rfl,h.used,(Below.refl B0 w).setCell (p:=⟨b,o,none⟩) h.base _⟩
 ·refine (bZ.used b o w hc).mono ?_
  rintro e w' ⟨rfl,rfl⟩
  exact ⟨rfl,by rw [h.J2];exact h,Below.refl B0 _⟩
theorem gL.infoByte : (Tryz.prog.info? 5).map (fun i=>(i.zero,i.size,i.bytes)) = some (some (.int .u8 0),1,1):=by kernel_rfl
theorem gL.any (T:TypeId) (B0 b o:Nat) (cs:Array Value) (p v:Value) (t:ByteArray) (s:ByteArray) (w:World) (h:B.uY T 5 B0 b o cs p v (Lib.strCells t) w)
  (hlies:liesAt Tryz.prog Tryz.prog.depth T (cs.size / Tryz.prog.cellsOf T) o 226 1 = true) (hT:T ≠ 5) (hlen:t.size + s.size ≤ 140737488355328) (hBw:B0 ≤ w.heap.size) :
  Calls Tryz.prog 159 #[.pointer (some ⟨b,o,none⟩),.string s] w fun e w'=>e = .returned (.tuple #[.int .i64 s.size,.nilIface]) ∧
   (∃ v',B.uY T 5 B0 b o ((cs.setIfInBounds o (.pointer (some ⟨b,o,none⟩))).setIfInBounds (o + 1) v') (.pointer (some ⟨b,o,none⟩)) v' (Lib.strCells (t ++ s)) w') ∧ Below B0 w w':=by
 obtain ⟨i0,hi,hz0,hz1,hz2⟩:=info_parts gL.infoByte
 have hL:=Lib.strCells_length t
 have WL:=ah.mk hlies
 clear hlies
 have hC:=ah.mk h
 clear h
 have hT':=ah.mk hT
 clear hT
 have hlen':=ah.mk hlen
 clear hlen
 go_enter Tryz.func159,Tryz.ntmps159
 go_wp2_with (go_at_call 161;refine (bZ.any T B0 b o cs p v _ _ hC.out WL.out).mono ?_)
 rintro e w1 ⟨rfl,h1,hb1⟩
 have c1:w1.cell? ⟨b,o + 1,none⟩ = some v:=by rw [Lib.cell_of_heap h1.blk];exact h1.v_
 have hown:=h1.own
 go_wp2_with (at_builtin;refine Lib.wpList_append_own_string _ rfl _ _ 189 9 rfl B0 5 i0 Tryz.underlying189 Tryz.underlying9 hi hz0 hz1 hz2 _ _ _ rfl hown s rfl ?c3 ?c4 ?c5 ?_)
 case c3=>rw [hL];unfold maxLen;have:=hlen'.out;omega
 case c4=>rw [hL];have:=hlen'.out;omega
 case c5=>have:=hb1.size;omega
 intro v' w2 hown' hgrow _
 have hlt:=h1.lt
 have hb2:w2.heap[b]? = some (.cells (cs.setIfInBounds o (.pointer (some ⟨b,o,none⟩))) T (0,0)):=by
  rw [hgrow.block b hlt (fun e=>h1.ne e.symm)]
  exact h1.blk
 have d1:w2.cell? ⟨b,o + 1,none⟩ = some v:=by rw [Lib.cell_of_heap hb2];exact h1.v_
 have f1:w2.frozen? ⟨b,o + 1,none⟩ = false:=Lib.frozen_of_heap hb2 (o + 1)
 obtain ⟨ao,n',cap,rfl⟩:∃ ao n' cap,v' = .slice ao n' cap:=by
  rcases hown'.2 with ⟨hv,_⟩ | ⟨g,cap,cur,hv,_⟩
  ·exact ⟨_,_,_,hv⟩
  ·exact ⟨_,_,_,hv⟩
 have hown2:w2.ownsRow B0 5 1 (.slice ao n' cap) (Lib.strCells (t ++ s)).length (Lib.strCells (t ++ s)):=by
  rw [← B.wC]
  simpa [Lib.strCells_length] using hown'
 have hput:=ah.mk (h1.put hb2 hown2 hT'.out)
 have hbel:=ah.mk ((hb1.grown hgrow (by have:=hb1.size;omega) (fun k hk=>(hown.lt k hk).1)).setCell (p:=⟨b,o + 1,none⟩) h1.base (.slice ao n' cap))
 clear hb2 hown2 hown' hgrow h1 hown hL hb1 c1
 go_wp2
 go_ret2
 exact ⟨rfl,⟨_,hput.out⟩,hbel.out⟩
def strings_Join.cat : List ByteArray → ByteArray
 | []=>⟨#[]⟩
 | x :: l=>x ++ strings_Join.cat l
theorem strings_Join.yQ : ∀ l:List ByteArray,(⟨(Lib.join (l.map (·.data.toList)) (⟨#[]⟩:ByteArray).data.toList).toArray⟩:ByteArray) = strings_Join.cat l
 | []=>rfl
 | [x]=>by
  rw [aiy,aiF,Lib.join_one]
  refine ajv ?_
  simp [strings_Join.cat,ake]
 | x :: y :: l=>by
  have h:=strings_Join.yQ (y :: l)
  refine ajv ?_
  rw [strings_Join.cat,ake,← h]
  simp [Lib.join,List.intercalate]
theorem strings_Join.calls (v:Value) (l:List ByteArray) (base:Nat) (ok:Nat → Prop) (w:World) (hr:Kd.R Kd.string 9 w base ok v l) (hl:l.length ≤ 1000000) (hz:(strings_Join.cat l).size ≤ 140737488355328) :
  Calls Tryz.prog 156 #[v,.string ⟨#[]⟩] w fun e w'=>e = .returned (.string (strings_Join.cat l)) ∧ Below w.heap.size w w':=by
 have ho:=Kd.tN hr
 rcases ho.2 with ⟨rfl,h0⟩ | ⟨g,cap,cur,rfl,hg,hh,hc,_,_,ht⟩
 ·obtain rfl:=List.length_eq_zero_iff.mp h0
  exact (Any.strings_Join_none IK vQ none 0 ⟨#[]⟩ w).mono fun e w' ⟨he,hw⟩=>⟨he,hw ▸ Below.refl _ _⟩
 ·have hlt:g < w.heap.size:=(ajp.1 hh).1
  have hcells:∀ (j:Nat) x,l[j]? = some x → w.cell? ⟨g,0 + j,none⟩ = some (.string x):=by
   intro j x hx
   have hj:j < l.length:=(ajb.1 hx).1
   have h:=(Kd.Nr ByteArray.empty hr (j:Int) (by omega) (by omega)).1
   rw [aiP]
   rw [Int.toNat_natCast] at h
   rw [h]
   unfold Gf
   rw [Int.toNat_natCast,aiL,hx]
   rfl
  have hlen:(Lib.join (l.map (·.data.toList)) (⟨#[]⟩:ByteArray).data.toList).length ≤ 140737488355328:=by
   have h:=aiK ByteArray.size (strings_Join.yQ l)
   rw [← h] at hz
   simpa [ByteArray.size] using hz
  refine (Any.strings_Join IK vQ g 0 cap l ⟨#[]⟩ w hcells hlt (by omega) hc hlen).mono fun e w' ⟨he,hw⟩=>⟨?_,hw⟩
  rw [he,strings_Join.yQ]
end
section
open Go.RowKit Go.Proofs.YtfokaoeinpnagaaGreatW.aT Go.Proofs.YtfokaoeinpnagaaGreatW.dO Go.Proofs.YtfokaoeinpnagaaGreatW.eX
attribute [local go_sem] jM jN kW kX jd je jO jP
def av.cs (msg:ByteArray) (i l n:Int) (p v:Value):Array Value:=#[.string msg,.int .i64 i,.int .i64 l,.int .i64 n,p,v]
def av.Rd (B0 g:Nat) (msg:ByteArray) (i l n:Int) (t:ByteArray) (w:World):Prop :=
 ∃ p v,B.uY 228 5 B0 g 4 (av.cs msg i l n p v) p v (Lib.strCells t) w
theorem av.Rd.cells {B0 g:Nat} {msg:ByteArray} {i l n:Int} {t:ByteArray} {w:World} (h:av.Rd B0 g msg i l n t w) :
  w.cell? ⟨g,0,none⟩ = some (.string msg) ∧ w.cell? ⟨g,1,none⟩ = some (.int .i64 i) ∧ w.cell? ⟨g,2,none⟩ = some (.int .i64 l) ∧ w.cell? ⟨g,3,none⟩ = some (.int .i64 n) ∧
  w.frozen? ⟨g,1,none⟩ = false ∧ w.frozen? ⟨g,2,none⟩ = false ∧ w.frozen? ⟨g,3,none⟩ = false:=by
 obtain ⟨p,v,h⟩:=h
 exact ⟨by rw [Lib.cell_of_heap h.blk];rfl,by rw [Lib.cell_of_heap h.blk];rfl,by rw [Lib.cell_of_heap h.blk];rfl,by rw [Lib.cell_of_heap h.blk];rfl,Lib.frozen_of_heap h.blk 1,Lib.frozen_of_heap h.blk 2,Lib.frozen_of_heap h.blk 3⟩
theorem av.Rd.base {B0 g:Nat} {msg:ByteArray} {i l n:Int} {t:ByteArray} {w:World} (h:av.Rd B0 g msg i l n t w):B0 ≤ g ∧ g < w.heap.size:=by
 obtain ⟨p,v,h⟩:=h
 exact ⟨h.base,h.lt⟩
theorem av.Rd.drewN {B0 g:Nat} {msg:ByteArray} {i l n:Int} {t:ByteArray} {w:World} (h:av.Rd B0 g msg i l n t w) (m:Nat):av.Rd B0 g msg i l n t (w.drewN m):=by
 obtain ⟨p,v,h⟩:=h
 exact ⟨p,v,h.drewN m⟩
theorem av.Rd.set1 {B0 g:Nat} {msg:ByteArray} {i l n:Int} {t:ByteArray} {w:World} (h:av.Rd B0 g msg i l n t w) (x:Int):av.Rd B0 g msg x l n t (w.setCell ⟨g,1,none⟩ (.int .i64 x)):=by
 obtain ⟨p,v,h⟩:=h
 exact ⟨p,v,h.set 1 _ (by omega) (by omega)⟩
theorem av.Rd.set2 {B0 g:Nat} {msg:ByteArray} {i l n:Int} {t:ByteArray} {w:World} (h:av.Rd B0 g msg i l n t w) (x:Int):av.Rd B0 g msg i x n t (w.setCell ⟨g,2,none⟩ (.int .i64 x)):=by
 obtain ⟨p,v,h⟩:=h
 exact ⟨p,v,h.set 2 _ (by omega) (by omega)⟩
theorem av.Rd.aa2 {B0 g:Nat} {msg:ByteArray} {i l n:Int} {t:ByteArray} {w:World} (h:av.Rd B0 g msg i l n t w) (x:Int):av.Rd B0 g msg i l x t (w.setCell ⟨g,3,none⟩ (.int .i64 x)):=by
 obtain ⟨p,v,h⟩:=h
 exact ⟨p,v,h.set 3 _ (by omega) (by omega)⟩
theorem av.cut (B0 g:Nat) (msg:ByteArray) (i l n:Int) (t:ByteArray) (w:World) (h:av.Rd B0 g msg i l n t w) (hs:msg.size ≤ 140737488355328) (hg:¬ kg msg i 2) :
  Calls Tryz.prog 154 #[.pointer (some ⟨g,0,none⟩)] w fun e w'=>e = .returned (.int .i64 2) ∧ av.Rd B0 g msg i l n t w' ∧ Below B0 w w':=by
 have hget:=get_eq 9 (aiq _) msg i 2 (by omega)
 rw [ain hg] at hget
 have nA:=ah.mk hget
 obtain ⟨c0,c1,c2,c3,f1,f2,f3⟩:=h.cells
 have hR:=ah.mk h
 clear hget h hs hg
 go_enter Tryz.func154,Tryz.ntmps154
 go_wp2
 go_quiet ((go_at_call 117;exact Calls.quiet_of ((aI.calls 9 msg i 2 _ _ _ nA.out).mono fun _ _ h=>⟨h.1,h.2.out⟩)))
 go_wp2
 go_ret
 exact ⟨rfl,hR.out.drewN _,aj (Below.refl B0 w) _⟩
theorem av.name (B0 g:Nat) (msg:ByteArray) (i l n:Int) (t:ByteArray) (w:World) (h:av.Rd B0 g msg i l n t w) (hs:msg.size ≤ 140737488355328) (hg:kg msg i 2) (hl:l ≤ ig 2 msg i - 49152) :
  Calls Tryz.prog 154 #[.pointer (some ⟨g,0,none⟩)] w fun e w'=>e = .returned (.int .i64 3) ∧ av.Rd B0 g msg i l n t w' ∧ Below B0 w w':=by
 have hget:=get_eq 9 (aiq _) msg i 2 (by omega)
 rw [ail hg] at hget
 have hr:=oz 2 msg i
 have nA:=ah.mk (show aI.f 9 msg i 2 = some (ig 2 msg i,true) from hget)
 obtain ⟨c0,c1,c2,c3,f1,f2,f3⟩:=h.cells
 have hR:=ah.mk h
 generalize ig 2 msg i = q at nA hr hl
 have hb0:0 ≤ q:=hr.1
 have hb1:q ≤ 65535:=by have:=hr.2;simp at this;omega
 have d1:decide (l ≤ q - 49152) = true:=aip hl
 clear hget h hs hg hr hl
 go_enter Tryz.func154,Tryz.ntmps154
 go_wp2
 go_quiet ((go_at_call 117;exact Calls.quiet_of ((aI.calls 9 msg i 2 _ _ _ nA.out).mono fun _ _ h=>⟨h.1,h.2.out⟩)))
 go_wp2
 go_ret
 exact ⟨rfl,hR.out.drewN _,aj (Below.refl B0 w) _⟩
theorem av.ok (B0 g:Nat) (msg:ByteArray) (i l n:Int) (t:ByteArray) (w:World) (h:av.Rd B0 g msg i l n t w) (hs:msg.size ≤ 140737488355328) (hg:kg msg i 2) (hl:ig 2 msg i - 49152 < l) (n':Int) (hn0:ah (n' = if n = -1 then i + 2 else n)) :
  Calls Tryz.prog 154 #[.pointer (some ⟨g,0,none⟩)] w fun e w'=>e = .returned (.int .i64 0) ∧ av.Rd B0 g msg (ig 2 msg i - 49152) (ig 2 msg i - 49152) n' t w' ∧ Below B0 w w':=by
 have hget:=get_eq 9 (aiq _) msg i 2 (by omega)
 rw [ail hg] at hget
 have hr:=oz 2 msg i
 have nA:=ah.mk (show aI.f 9 msg i 2 = some (ig 2 msg i,true) from hget)
 obtain ⟨c0,c1,c2,c3,f1,f2,f3⟩:=h.cells
 have hR:=ah.mk h
 have hi0:=hg.1
 have hi1:i ≤ 140737488355328:=by have:=hg.2.2.2;omega
 have hB:=ah.mk h.base.1
 generalize ig 2 msg i = q at nA hr hl ⊢
 have hb0:0 ≤ q:=hr.1
 have hb1:q ≤ 65535:=by have:=hr.2;simp at this;omega
 have d1:decide (l ≤ q - 49152) = false:=air (by omega)
 by_cases hn:n = -1
 ·subst hn
  have e':=hn0.out
  rw [ail rfl] at e'
  subst e'
  clear hn0
  have KG:=ah.mk (((hR.out.aa2 (i + 2)).set1 (q - 49152)).set2 (q - 49152))
  have hBl:=ah.mk ((((Below.refl B0 w).setCell (p:=⟨g,3,none⟩) hB.out (.int .i64 (i + 2))).setCell (p:=⟨g,1,none⟩) hB.out (.int .i64 (q - 49152))).setCell (p:=⟨g,2,none⟩) hB.out (.int .i64 (q - 49152)))
  clear hget h hs hg hr hl hR
  go_enter Tryz.func154,Tryz.ntmps154
  go_wp2
  go_quiet ((go_at_call 117;exact Calls.quiet_of ((aI.calls 9 msg i 2 _ _ _ nA.out).mono fun _ _ h=>⟨h.1,h.2.out⟩)))
  go_wp2
  go_ret
  exact ⟨rfl,KG.out.drewN _,aj hBl.out _⟩
 ·have e':=hn0.out
  have d2:(n == -1) = false:=by simpa using hn
  rw [ain hn] at e'
  subst e'
  clear hn0
  have KG:=ah.mk ((hR.out.set1 (q - 49152)).set2 (q - 49152))
  have hBl:=ah.mk (((Below.refl B0 w).setCell (p:=⟨g,1,none⟩) hB.out (.int .i64 (q - 49152))).setCell (p:=⟨g,2,none⟩) hB.out (.int .i64 (q - 49152)))
  clear hget h hs hg hr hl hR hn
  go_enter Tryz.func154,Tryz.ntmps154
  go_wp2
  go_quiet ((go_at_call 117;exact Calls.quiet_of ((aI.calls 9 msg i 2 _ _ _ nA.out).mono fun _ _ h=>⟨h.1,h.2.out⟩)))
  go_wp2
  go_ret
  exact ⟨rfl,KG.out.drewN _,aj hBl.out _⟩
theorem jU.str (B0 g:Nat) (msg:ByteArray) (i l n:Int) (t:ByteArray) (w:World) (h:av.Rd B0 g msg i l n t w) (hw:B0 ≤ w.heap.size) :
  Calls Tryz.prog 157 #[.pointer (some ⟨g,4,none⟩)] w fun e w'=>e = .returned (.string t) ∧ (w'.cell? ⟨g,3,none⟩ = some (.int .i64 n)) ∧ Below B0 w w':=by
 have hc:=h.cells.2.2.2.1
 obtain ⟨p,v,h⟩:=h
 refine (aH.any _ B0 g 4 _ p v t w h hw).mono ?_
 rintro e w' ⟨rfl,hk,hb⟩
 exact ⟨rfl,by rw [(hk ⟨g,3,none⟩ rfl).1];exact hc,hb⟩
theorem jU.any (B0 g:Nat) (msg:ByteArray) (i l n:Int) (t:ByteArray) (w:World) (h:av.Rd B0 g msg i l n t w) (hw:B0 ≤ w.heap.size) (ht:t.size ≤ 140737488355328) (hi:0 ≤ i) (hi2:i ≤ 140737488355328)
  (n':Int) (hn0:ah (n' = if n = -1 then i + 1 else n)) :
  Calls Tryz.prog 153 #[.pointer (some ⟨g,0,none⟩)] w fun e w'=>e = .returned (.tuple #[.string (t ++ (⟨#[0]⟩:ByteArray)),.int .i64 n',.int .i64 0]) ∧ Below B0 w w':=by
 obtain ⟨c0,c1,c2,c3,f1,f2,f3⟩:=h.cells
 have hR:=ah.mk h
 have hB:=ah.mk h.base.1
 have hw':=ah.mk hw
 have ht1:(t.size + 1 ≤ 9223372036854775807) = True:=aix (by omega)
 have ht2:(9223372036854775807 < t.size + 1) = False:=eq_false (by omega)
 have ht3:decide (t.size + 1 ≤ 9223372036854775807) = true:=aip (by omega)
 by_cases hn:n = -1
 ·subst hn
  have e':=hn0.out
  rw [ail rfl] at e'
  subst e'
  clear hn0
  have KG:=ah.mk (hR.out.aa2 (i + 1))
  have hc3:=KG.out.cells.2.2.2.1
  have hBl:=ah.mk ((Below.refl B0 w).setCell (p:=⟨g,3,none⟩) hB.out (.int .i64 (i + 1)))
  have hsz:=ah.mk (show B0 ≤ (w.setCell ⟨g,3,none⟩ (.int .i64 (i + 1))).heap.size by have:=hBl.out.size;omega)
  clear h hw hR ht hB hw'
  go_enter Tryz.func153,Tryz.ntmps153
  go_wp2
  generalize w.setCell ⟨g,3,none⟩ (.int .i64 (i + 1)) = w1 at *
  clear c0 c1 c2 c3 f1 f2 f3
  go_region_with (go_at_call 157;refine (jU.str B0 g msg i l (i + 1) t _ (by first | exact KG.out | exact KG.out.drewN 1 | exact KG.out.drewN _) (by first | exact hsz.out | (simp;exact hsz.out))).mono ?_;rintro e w' ⟨rfl,hk3,hb⟩;have hb':=ah.mk hb;clear hb)
  all_goals
   go_wp2
   go_ret3
   exact ⟨rfl,by first | exact hBl.out.trans hb'.out | exact (jr hBl.out).trans hb'.out | exact jr (hBl.out.trans hb'.out) | exact hBl.out.trans (jr hb'.out)⟩
 ·have e':=hn0.out
  have d2:(n == -1) = false:=by simpa using hn
  rw [ain hn] at e'
  subst e'
  clear hn0
  clear h hw ht hB
  go_enter Tryz.func153,Tryz.ntmps153
  go_wp2
  clear c0 c1 c2 f1 f2 f3
  go_region_with (go_at_call 157;refine (jU.str B0 g msg i l n' t _ (by first | exact hR.out | exact hR.out.drewN 1 | exact hR.out.drewN _) (by first | exact hw'.out | (simp;exact hw'.out))).mono ?_;rintro e w' ⟨rfl,hk3,hb⟩;have hb':=ah.mk hb;clear hb)
  all_goals
   go_wp2
   go_ret3
   exact ⟨rfl,by first | exact hb'.out | exact (jr (Below.refl B0 w)).trans hb'.out | exact jr hb'.out⟩
theorem dw.cut (B0 g:Nat) (msg:ByteArray) (i l n z:Int) (t:ByteArray) (w:World) (h:av.Rd B0 g msg i l n t w) (hs:msg.size ≤ 140737488355328) (hz0:0 ≤ z) (hz1:z ≤ 255) (hg:¬ iG msg i (1 + z)) :
  Calls Tryz.prog 155 #[.pointer (some ⟨g,0,none⟩),.int .i64 z] w fun e w'=>e = .returned (.int .i64 2) ∧ av.Rd B0 g msg i l n t w' ∧ Below B0 w w':=by
 have hget:=tZ msg i (1 + z) (by omega)
 rw [ain hg] at hget
 have nA:=ah.mk hget
 obtain ⟨c0,c1,c2,c3,f1,f2,f3⟩:=h.cells
 have hR:=ah.mk h
 clear hget h hs hg
 go_enter Tryz.func155,Tryz.ntmps155
 go_wp2
 go_quiet ((go_at_call 136;exact Calls.quiet_of ((eT.calls msg i (1 + z) _ _ _ nA.out).mono fun _ _ h=>⟨h.1,h.2.out⟩)))
 go_wp2
 go_ret
 exact ⟨rfl,hR.out.drewN _,aj (Below.refl B0 w) _⟩
theorem dw.len (B0 g:Nat) (msg:ByteArray) (i l n:Int) (t:ByteArray) (w:World) (h:av.Rd B0 g msg i l n t w) :
  Calls Tryz.prog 158 #[.pointer (some ⟨g,4,none⟩)] w fun e w'=>e = .returned (.int .i64 t.size) ∧ w = w':=by
 obtain ⟨p,v,h⟩:=h
 have:=qN.any _ B0 g 4 _ p v _ w h
 rw [Lib.strCells_length] at this
 exact this
theorem dw.lies : liesAt Tryz.prog Tryz.prog.depth 228 (6 / Tryz.prog.cellsOf 228) 4 226 1 = true:=by kernel_rfl
theorem dw.write (B0 g:Nat) (msg:ByteArray) (i l n:Int) (t s:ByteArray) (w:World) (h:av.Rd B0 g msg i l n t w) (hlen:t.size + s.size ≤ 140737488355328) (hBw:B0 ≤ w.heap.size) :
  Calls Tryz.prog 159 #[.pointer (some ⟨g,4,none⟩),.string s] w fun e w'=>e = .returned (.tuple #[.int .i64 s.size,.nilIface]) ∧ av.Rd B0 g msg i l n (t ++ s) w' ∧ Below B0 w w':=by
 obtain ⟨p,v,h⟩:=h
 refine (gL.any _ B0 g 4 _ p v t s w h dw.lies (by decide) hlen hBw).mono ?_
 rintro e w' ⟨rfl,⟨v',h'⟩,hb⟩
 exact ⟨rfl,⟨_,v',h'⟩,hb⟩
theorem dw.name (B0 g:Nat) (msg:ByteArray) (i l n z:Int) (t:ByteArray) (w:World) (h:av.Rd B0 g msg i l n t w) (hs:msg.size ≤ 140737488355328) (hz0:0 ≤ z) (hz1:z ≤ 255) (hg:iG msg i (1 + z)) (ht:t.size ≤ 140737488355328) (hl:255 ≤ (t.size:Int) + (1 + z)) :
  Calls Tryz.prog 155 #[.pointer (some ⟨g,0,none⟩),.int .i64 z] w fun e w'=>e = .returned (.int .i64 3) ∧ av.Rd B0 g msg i l n t w' ∧ Below B0 w w':=by
 have hget:=tZ msg i (1 + z) (by omega)
 rw [ail hg] at hget
 have hsz:=B.size_ext hg.1 hg.2.1 hg.2.2
 have nA:=ah.mk hget
 obtain ⟨c0,c1,c2,c3,f1,f2,f3⟩:=h.cells
 have hR:=ah.mk h
 generalize msg.extract i.toNat (i + (1 + z)).toNat = lb at *
 have hlb:lb.size ≤ 256:=by omega
 have d1:decide (255 ≤ (t.size:Int) + (lb.size:Int)) = true:=aip (by omega)
 have d2:decide (255 ≤ t.size + lb.size) = true:=aip (by omega)
 clear hget h hs hg hsz hl
 go_enter Tryz.func155,Tryz.ntmps155
 go_wp2
 go_quiet ((go_at_call 136;exact Calls.quiet_of ((eT.calls msg i (1 + z) _ _ _ nA.out).mono fun _ _ h=>⟨h.1,h.2.out⟩)))
 go_wp2_with (go_at_call 158;refine (dw.len B0 g msg i l n t _ (hR.out.drewN _)).mono ?_;rintro e w' ⟨rfl,rfl⟩)
 go_ret
 exact ⟨rfl,hR.out.drewN _,aj (Below.refl B0 w) _⟩
theorem dw.ok (B0 g:Nat) (msg:ByteArray) (i l n z:Int) (t:ByteArray) (w:World) (h:av.Rd B0 g msg i l n t w) (hw:B0 ≤ w.heap.size) (hs:msg.size ≤ 140737488355328) (hz0:0 ≤ z) (hz1:z ≤ 255) (hg:iG msg i (1 + z)) (hl:(t.size:Int) + (1 + z) < 255) :
  Calls Tryz.prog 155 #[.pointer (some ⟨g,0,none⟩),.int .i64 z] w fun e w'=>e = .returned (.int .i64 0) ∧ av.Rd B0 g msg (i + (1 + z)) l n (t ++ msg.extract i.toNat (i + (1 + z)).toNat) w' ∧ Below B0 w w':=by
 have hget:=tZ msg i (1 + z) (by omega)
 rw [ail hg] at hget
 have hsz:=B.size_ext hg.1 hg.2.1 hg.2.2
 have nA:=ah.mk hget
 obtain ⟨c0,c1,c2,c3,f1,f2,f3⟩:=h.cells
 have hR:=ah.mk h
 have hi0:=hg.1
 have hi1:i ≤ 140737488355328:=by have:=hg.2.2;omega
 have hB:=ah.mk h.base.1
 generalize msg.extract i.toNat (i + (1 + z)).toNat = lb at *
 have hlb:lb.size ≤ 256:=by omega
 have htb:t.size ≤ 256:=by omega
 have d1:decide (255 ≤ (t.size:Int) + (lb.size:Int)) = false:=air (by omega)
 have d2:decide (255 ≤ t.size + lb.size) = false:=air (by omega)
 have hsum:=ah.mk (show i + (lb.size:Int) = i + (1 + z) by omega)
 have hw':=ah.mk hw
 clear hget h hs hg hsz hl hw
 go_enter Tryz.func155,Tryz.ntmps155
 go_wp2
 go_quiet ((go_at_call 136;exact Calls.quiet_of ((eT.calls msg i (1 + z) _ _ _ nA.out).mono fun _ _ h=>⟨h.1,h.2.out⟩)))
 go_wp2_with (first | (go_at_call 158;refine (dw.len B0 g msg i l n t _ (hR.out.drewN _)).mono ?_;rintro e w' ⟨rfl,rfl⟩) | (go_at_call 159;refine (dw.write B0 g msg i l n t lb _ (hR.out.drewN _) (by omega) (by simpa using hw'.out)).mono ?_))
 rintro e w1 ⟨rfl,KG,hb1⟩
 obtain ⟨e0,e1,e2,e3,g1,g2,g3⟩:=KG.cells
 have hR2:=ah.mk (KG.set1 (i + (1 + z)))
 rw [← hsum.out] at hR2
 have hBl:=ah.mk ((aj (Below.refl B0 w) _).trans (hb1.setCell (p:=⟨g,1,none⟩) hB.out (.int .i64 (i + (lb.size:Int)))))
 clear KG hb1 c0 c1 c2 c3 f1 f2 f3
 go_wp2
 go_ret
 exact ⟨rfl,by rw [← hsum.out];exact hR2.out,hBl.out⟩
def bg.l : Nat → ByteArray → Int → Int → Int → ByteArray → Option (ByteArray × Int × Int)
 | 0,_,_,_,_,_=>none
 | k + 1,msg,i,least,next,t =>
  if kg msg i 1 then
   (if bt msg i = 0 then some (t ++ (⟨#[0]⟩:ByteArray),(if next = -1 then i + 1 else next),0)
   else if 192 ≤ bt msg i then
    (if kg msg i 2 then
     (if ig 2 msg i - 49152 ≥ least then some (⟨#[]⟩,0,3)
     else bg.l k msg (ig 2 msg i - 49152) (ig 2 msg i - 49152) (if next = -1 then i + 2 else next) t)
    else some (⟨#[]⟩,0,2))
   else if 63 < bt msg i then some (⟨#[]⟩,0,3)
   else if iG msg i (1 + bt msg i) then
    (if (t.size:Int) + (1 + bt msg i) ≥ 255 then some (⟨#[]⟩,0,3)
    else bg.l k msg (i + (1 + bt msg i)) least next (t ++ msg.extract i.toNat (i + (1 + bt msg i)).toNat))
   else some (⟨#[]⟩,0,2))
  else some (⟨#[]⟩,0,2)
def bg.f (k:Nat) (a0:ByteArray) (a1:Int):Option (ByteArray × Int × Int):=if a0.size ≤ 140737488355328 then bg.l k a0 a1 a1 (-1) ⟨#[]⟩ else none
theorem bg.yO : ∀ k m i l n t,mU (bg.l k m i l n t) (bg.l (k + 1) m i l n t)
 | 0,_,_,_,_,_=>fun r h=>by simp [bg.l] at h
 | k + 1,m,i,l,n,t=>by
  have ih:=bg.yO k
  rw [bg.l,bg.l]
  repeat' first
   | (with_reducible exact ih _ _ _ _ _)
   | (with_reducible exact mU.refl _)
   | (with_reducible refine mU.ite ?_ ?_)
theorem bg.mono : ∀ a0 a1 k,mU (bg.f k a0 a1) (bg.f (k + 1) a0 a1):=by
 intro a0 a1 k
 unfold bg.f
 exact mU.ite (bg.yO k _ _ _ _ _) (mU.refl _)
theorem bg.afJ (msg:ByteArray) (i:Int) (hs:msg.size ≤ 140737488355328) (hg:kg msg i 1):aI.f 9 msg i 1 = some (bt msg i,true):=by
 have h:=get_eq 9 (aiq _) msg i 1 (by omega)
 rw [ail hg] at h
 rw [h]
 congr 1
 exact aiK (·,true) (EK msg i)
theorem bg.start (w:World) (msg:ByteArray) (i:Int) :
  av.Rd w.heap.size w.heap.size msg i i (-1) ⟨#[]⟩ (w.alloc (.cells #[.string msg,.int .i64 i,.int .i64 i,.int .i64 (-1),.pointer none,.slice none 0 0] 228)) :=
 ⟨.pointer none,.slice none 0 0,aiq _,heap_alloc_new w _,rfl,rfl,.inl rfl,World.ownsRow_nil _ _ _ _,by simp [Value.ownBlock]⟩
def bg.St (R:ByteArray × Int × Int) (B0 g:Nat) (msg:ByteArray) (k:Nat) (x:Int) (w:World):Prop :=
 (x = 0 ∧ ∃ i l n t,av.Rd B0 g msg i l n t w ∧ bg.l k msg i l n t = some R ∧ t.size ≤ 255) ∨ (x ≠ 0 ∧ R = (⟨#[]⟩,0,x))
theorem bg.calls (k:Nat) (a0:ByteArray) (a1:Int) (r1:ByteArray) (r2 r3:Int) (w:World) (h:bg.f k a0 a1 = some (r1,r2,r3)) :
  Calls Tryz.prog 146 #[.string a0,.int .i64 a1] w fun e w'=>e = .returned (.tuple #[.string r1,.int .i64 r2,.int .i64 r3]) ∧ Below w.heap.size w w':=by
 unfold bg.f at h
 by_cases hs:a0.size ≤ 140737488355328
 ·rw [ail hs] at h
  have hR:=ah.mk (bg.start w a0 a1)
  have hB:=ah.mk (ak (Below.refl w.heap.size w) (.cells #[.string a0,.int .i64 a1,.int .i64 a1,.int .i64 (-1),.pointer none,.slice none 0 0] 228))
  have hH:=ah.mk h
  have hsz:=ah.mk hs
  clear h hs
  go_enter Tryz.func146,Tryz.ntmps146
  go_wp2
  go_step3
  go_wp2
  go_step3
  go_wp2
  have hSt:=ah.mk (show bg.St (r1,r2,r3) w.heap.size w.heap.size a0 k 0 _ from .inl ⟨rfl,a1,a1, -1,⟨#[]⟩,hR.out,hH.out,by decide⟩)
  clear hR hH
  generalize w.alloc (.cells #[.string a0,.int .i64 a1,.int .i64 a1,.int .i64 (-1),.pointer none,.slice none 0 0] 228) = w1 at hSt hB ⊢
  generalize hgg:w.heap.size = g at hSt hB ⊢
  have hg':=ah.mk hgg
  clear hgg
  go_loopg [8] k (fun kq v8 wr=>∃ x:Int,v8 = .int .i64 x ∧ ah (bg.St (r1,r2,r3) g g a0 kq x wr) ∧ ah (kq ≤ k) ∧ ah (Below g w wr))
  case atStart=>exact ⟨0,rfl,hSt,⟨aiq _⟩,hB⟩
  case round =>
   clear hSt hB
   obtain ⟨x,rfl,HS,HK,HB⟩:=hrel
   rcases HS.out with ⟨hx,i,l,n,t,hR0,hH0,ht0⟩ | ⟨hx,hR⟩
   ·subst hx
    clear HS
    cases gk with
    | zero=>exact absurd hH0 (by simp [bg.l])
    | succ k2 =>
     have hR:=ah.mk hR0
     have m0:=hR0.cells.1
     have m1:=hR0.cells.2.1
     have hsz':=hsz.out
     have hBs:=ah.mk (show g ≤ wr.heap.size by have:=hR0.base.2;omega)
     have ht:=ah.mk ht0
     rw [bg.l] at hH0
     clear hR0 ht0
     by_cases hg:kg a0 i 1
     ·rw [ail hg] at hH0
      have hget:=ah.mk (bg.afJ a0 i hsz' hg)
      have hi0:=hg.1
      have hi1:i ≤ 140737488355328:=by have:=hg.2.2.2;omega
      have hii:=ah.mk (And.intro hi0 hi1)
      have hbr:=gD a0 i
      clear hi0 hi1 hsz' hg
      by_cases c1:bt a0 i = 0
      ·rw [ail c1] at hH0
       rw [c1] at hget
       simp only [aiz,aiE] at hH0
       obtain ⟨rfl,h2,rfl⟩:=hH0
       have h2':=ah.mk h2.symm
       clear c1 hbr h2
       go_wp2
       go_quiet ((go_at_call 117;exact Calls.quiet_of ((aI.calls 9 a0 i 1 _ _ _ hget.out).mono fun _ _ h=>⟨h.1,h.2.out⟩)))
       go_wp2_with (go_at_call 153;refine (jU.any g g a0 i l n t _ (hR.out.drewN _) (by simpa using hBs.out) (by have:=ht.out;omega) hii.out.1 hii.out.2 r2 h2').mono ?_;rintro e w' ⟨rfl,hb⟩)
       (try rw [Exit.noGoto_ret])
       go_ret3
       exact ⟨rfl,by rw [hg'.out];exact (aj HB.out _).trans hb⟩
      ·rw [ain c1] at hH0
       have d1:(bt a0 i == 0) = false:=by simpa using c1
       by_cases c2:192 ≤ bt a0 i
       ·rw [ail c2] at hH0
        have d2:decide (192 ≤ bt a0 i) = true:=aip c2
        by_cases c3:kg a0 i 2
        ·rw [ail c3] at hH0
         by_cases c4:ig 2 a0 i - 49152 ≥ l
         ·rw [ail c4] at hH0
          simp only [aiz,aiE] at hH0
          obtain ⟨rfl,rfl,rfl⟩:=hH0
          have hF:=fun (W:World) (hW:av.Rd g g a0 i l n t W)=>av.name g g a0 i l n t W hW hsz.out c3 c4
          have hF':=ah.mk hF
          clear hF c1 c2 c3 c4 hbr
          generalize bt a0 i = c at *
          go_wp2
          go_quiet ((go_at_call 117;exact Calls.quiet_of ((aI.calls 9 a0 i 1 _ _ _ hget.out).mono fun _ _ h=>⟨h.1,h.2.out⟩)))
          go_wp2_with (go_at_call 154;refine (hF'.out _ (hR.out.drewN _)).mono ?_;rintro e w' ⟨rfl,hR',hb⟩)
          go_roundg k2
          case measure=>have:=HK.out;omega
          case rel=>exact ⟨3,rfl,⟨.inr ⟨by decide,rfl⟩⟩,⟨by have:=HK.out;omega⟩,⟨(aj HB.out _).trans hb⟩⟩
         ·rw [ain c4] at hH0
          have hF:=fun (W:World) (hW:av.Rd g g a0 i l n t W)=>av.ok g g a0 i l n t W hW hsz.out c3 (by omega) _ ⟨rfl⟩
          have hF':=ah.mk hF
          have hH1:=ah.mk hH0
          clear hF c1 c2 c3 c4 hbr hH0
          generalize bt a0 i = c at *
          go_wp2
          go_quiet ((go_at_call 117;exact Calls.quiet_of ((aI.calls 9 a0 i 1 _ _ _ hget.out).mono fun _ _ h=>⟨h.1,h.2.out⟩)))
          go_wp2_with (go_at_call 154;refine (hF'.out _ (hR.out.drewN _)).mono ?_;rintro e w' ⟨rfl,hR',hb⟩)
          go_roundg k2
          case measure=>have:=HK.out;omega
          case rel=>exact ⟨0,rfl,⟨.inl ⟨rfl,_,_,_,_,hR',hH1.out,ht.out⟩⟩,⟨by have:=HK.out;omega⟩,⟨(aj HB.out _).trans hb⟩⟩
        ·rw [ain c3] at hH0
         simp only [aiz,aiE] at hH0
         obtain ⟨rfl,rfl,rfl⟩:=hH0
         have hF:=fun (W:World) (hW:av.Rd g g a0 i l n t W)=>av.cut g g a0 i l n t W hW hsz.out c3
         have hF':=ah.mk hF
         clear hF c1 c2 c3 hbr
         generalize bt a0 i = c at *
         go_wp2
         go_quiet ((go_at_call 117;exact Calls.quiet_of ((aI.calls 9 a0 i 1 _ _ _ hget.out).mono fun _ _ h=>⟨h.1,h.2.out⟩)))
         go_wp2_with (go_at_call 154;refine (hF'.out _ (hR.out.drewN _)).mono ?_;rintro e w' ⟨rfl,hR',hb⟩)
         go_roundg k2
         case measure=>have:=HK.out;omega
         case rel=>exact ⟨2,rfl,⟨.inr ⟨by decide,rfl⟩⟩,⟨by have:=HK.out;omega⟩,⟨(aj HB.out _).trans hb⟩⟩
       ·rw [ain c2] at hH0
        have d2:decide (192 ≤ bt a0 i) = false:=air c2
        by_cases c3:63 < bt a0 i
        ·rw [ail c3] at hH0
         have d3:decide (63 < bt a0 i) = true:=aip c3
         simp only [aiz,aiE] at hH0
         obtain ⟨rfl,rfl,rfl⟩:=hH0
         clear c1 c2 c3 hbr
         generalize bt a0 i = c at *
         go_wp2
         go_quiet ((go_at_call 117;exact Calls.quiet_of ((aI.calls 9 a0 i 1 _ _ _ hget.out).mono fun _ _ h=>⟨h.1,h.2.out⟩)))
         go_wp2
         go_roundg k2
         case measure=>have:=HK.out;omega
         case rel=>exact ⟨3,rfl,⟨.inr ⟨by decide,rfl⟩⟩,⟨by have:=HK.out;omega⟩,⟨aj HB.out _⟩⟩
        ·rw [ain c3] at hH0
         have d3:decide (63 < bt a0 i) = false:=air c3
         by_cases c4:iG a0 i (1 + bt a0 i)
         ·rw [ail c4] at hH0
          by_cases c5:(t.size:Int) + (1 + bt a0 i) ≥ 255
          ·rw [ail c5] at hH0
           simp only [aiz,aiE] at hH0
           obtain ⟨rfl,rfl,rfl⟩:=hH0
           have hF:=fun (W:World) (hW:av.Rd g g a0 i l n t W)=>dw.name g g a0 i l n (bt a0 i) t W hW hsz.out hbr.1 hbr.2 c4 (by have:=ht.out;omega) c5
           have hF':=ah.mk hF
           clear hF c1 c2 c3 c4 c5 hbr
           generalize bt a0 i = c at *
           go_wp2
           go_quiet ((go_at_call 117;exact Calls.quiet_of ((aI.calls 9 a0 i 1 _ _ _ hget.out).mono fun _ _ h=>⟨h.1,h.2.out⟩)))
           go_wp2_with (go_at_call 155;refine (hF'.out _ (hR.out.drewN _)).mono ?_;rintro e w' ⟨rfl,hR',hb⟩)
           go_roundg k2
           case measure=>have:=HK.out;omega
           case rel=>exact ⟨3,rfl,⟨.inr ⟨by decide,rfl⟩⟩,⟨by have:=HK.out;omega⟩,⟨(aj HB.out _).trans hb⟩⟩
          ·rw [ain c5] at hH0
           have hF:=fun (W:World) (hw:g ≤ W.heap.size) (hW:av.Rd g g a0 i l n t W)=>dw.ok g g a0 i l n (bt a0 i) t W hW hw hsz.out hbr.1 hbr.2 c4 (by omega)
           have hF':=ah.mk hF
           have hH1:=ah.mk hH0
           have hz:=B.size_ext c4.1 c4.2.1 c4.2.2
           have ht2:=ah.mk (show (t ++ a0.extract i.toNat (i + (1 + bt a0 i)).toNat).size ≤ 255 by rw [aiT];omega)
           clear hF c1 c2 c3 c4 c5 hbr hH0 hz
           generalize bt a0 i = c at *
           go_wp2
           go_quiet ((go_at_call 117;exact Calls.quiet_of ((aI.calls 9 a0 i 1 _ _ _ hget.out).mono fun _ _ h=>⟨h.1,h.2.out⟩)))
           go_wp2_with (go_at_call 155;refine (hF'.out _ (by simpa using hBs.out) (hR.out.drewN _)).mono ?_;rintro e w' ⟨rfl,hR',hb⟩)
           go_roundg k2
           case measure=>have:=HK.out;omega
           case rel=>exact ⟨0,rfl,⟨.inl ⟨rfl,_,_,_,_,hR',hH1.out,ht2.out⟩⟩,⟨by have:=HK.out;omega⟩,⟨(aj HB.out _).trans hb⟩⟩
         ·rw [ain c4] at hH0
          simp only [aiz,aiE] at hH0
          obtain ⟨rfl,rfl,rfl⟩:=hH0
          have hF:=fun (W:World) (hW:av.Rd g g a0 i l n t W)=>dw.cut g g a0 i l n (bt a0 i) t W hW hsz.out hbr.1 hbr.2 c4
          have hF':=ah.mk hF
          clear hF c1 c2 c3 c4 hbr
          generalize bt a0 i = c at *
          go_wp2
          go_quiet ((go_at_call 117;exact Calls.quiet_of ((aI.calls 9 a0 i 1 _ _ _ hget.out).mono fun _ _ h=>⟨h.1,h.2.out⟩)))
          go_wp2_with (go_at_call 155;refine (hF'.out _ (hR.out.drewN _)).mono ?_;rintro e w' ⟨rfl,hR',hb⟩)
          go_roundg k2
          case measure=>have:=HK.out;omega
          case rel=>exact ⟨2,rfl,⟨.inr ⟨by decide,rfl⟩⟩,⟨by have:=HK.out;omega⟩,⟨(aj HB.out _).trans hb⟩⟩
     ·rw [ain hg] at hH0
      have h:=get_eq 9 (aiq _) a0 i 1 (by omega)
      rw [ain hg] at h
      have hget:=ah.mk h
      simp only [aiz,aiE] at hH0
      obtain ⟨rfl,rfl,rfl⟩:=hH0
      clear hg h hsz'
      go_wp2
      go_quiet ((go_at_call 117;exact Calls.quiet_of ((aI.calls 9 a0 i 1 _ _ _ hget.out).mono fun _ _ h=>⟨h.1,h.2.out⟩)))
      go_wp2
      (try rw [Exit.noGoto_ret])
      go_ret3
      exact ⟨rfl,by rw [hg'.out];exact aj HB.out _⟩
   ·simp only [aiE] at hR
    obtain ⟨rfl,rfl,rfl⟩:=hR
    have d1:(r3 == 0) = false:=by simpa using hx
    clear HS hx
    go_wp2
    (try rw [Exit.noGoto_ret])
    go_ret3
    exact ⟨rfl,by rw [hg'.out];exact HB.out⟩
 ·rw [ain hs] at h
  exact absurd h (by simp)
end
section
open Go.RowKit Go.Proofs.YtfokaoeinpnagaaGreatW.aT Go.Proofs.YtfokaoeinpnagaaGreatW.dO Go.Proofs.YtfokaoeinpnagaaGreatW.eX
attribute [local go_sem] jM jN kW kX jd je jO jP
def fO.f (a0:Int):Option (ByteArray × Int × Int):=some ((⟨#[]⟩:ByteArray),0,a0)
def dV.l0 : Nat → ByteArray → Int → ByteArray → Int → Int → Option (ByteArray × Int × Int)
 | 0,_,_,_,_,_=>none
 | k + 1,x0,x1,x7,x8,x9=>(bC.f k x0 x1 1).bind fun AQ=>(if AQ.2 = true then (if AQ.1 = 0 then (if x8 < 0 then (if x7.size + 1 ≤ 9223372036854775807 then (some (x7 ++ (⟨#[0]⟩:ByteArray),wrap64 (x1 + 1),0)) else (none)) else (if x7.size + 1 ≤ 9223372036854775807 then (some (x7 ++ (⟨#[0]⟩:ByteArray),x8,0)) else (none))) else (if AQ.1 ≥ 192 then ((bC.f k x0 x1 2).bind fun AU=>(if AU.2 = true then (if (wrap64 (AU.1 - 49152)) ≥ x9 then ((fO.f 3).bind fun N7=>(some (N7.1,N7.2.1,N7.2.2))) else (if x8 < 0 then (dV.l0 k x0 (wrap64 (AU.1 - 49152)) x7 (wrap64 (x1 + 2)) (wrap64 (AU.1 - 49152))) else (dV.l0 k x0 (wrap64 (AU.1 - 49152)) x7 x8 (wrap64 (AU.1 - 49152))))) else ((fO.f 2).bind fun N8=>(some (N8.1,N8.2.1,N8.2.2))))) else (if AQ.1 > 63 then ((fO.f 3).bind fun N9=>(some (N9.1,N9.2.1,N9.2.2))) else ((iB.f x0 x1 (wrap64 (AQ.1 + 1))).bind fun IL=>(if IL.2 = true then (if x7.size + IL.1.size ≤ 9223372036854775807 then (if (wrap64 (((x7 ++ IL.1).size:Int) + 1)) > 255 then ((fO.f 3).bind fun Oa=>(some (Oa.1,Oa.2.1,Oa.2.2))) else (dV.l0 k x0 (wrap64 ((wrap64 (x1 + AQ.1)) + 1)) (x7 ++ IL.1) x8 x9)) else (none)) else ((fO.f 2).bind fun Oc=>(some (Oc.1,Oc.2.1,Oc.2.2)))))))) else ((fO.f 2).bind fun Od=>(some (Od.1,Od.2.1,Od.2.2))))
def dV.f (k:Nat) (a0:ByteArray) (a1:Int):Option (ByteArray × Int × Int):=dV.l0 k a0 a1 (⟨#[]⟩:ByteArray) (-1) a1
end
section
open Go.RowKit Go.Proofs.YtfokaoeinpnagaaGreatW.aT Go.Proofs.YtfokaoeinpnagaaGreatW.dO Go.Proofs.YtfokaoeinpnagaaGreatW.eX Go.Proofs.YtfokaoeinpnagaaGreat.B
theorem IQ {msg:ByteArray} {i:Int} (h:192 ≤ bt msg i):49152 ≤ ig 2 msg i ∧ ig 2 msg i ≤ 65535:=by
 have h1:=gD msg i
 have h2:=gD msg (i + 1)
 simp [ig]
 omega
theorem afK (a b:Nat) (c:Int) (h:(b:Int) = 1 + c) (ha:a ≤ 254) (hb:c ≤ 63) (h0:0 ≤ c):wrap64 (((a + b:Nat):Int) + 1) = a + (1 + c) + 1:=by
 rw [jQ (by omega) (by omega)];omega
theorem J7 (d:Nat):∀ (k:Nat) (msg:ByteArray) (i l n:Int) (t:ByteArray),l.toNat + (255 - t.size) < d → d + 10 ≤ k → msg.size ≤ 100000 → t.size ≤ 254 → (n = -1 ∨ 0 ≤ n) →
  ∃ R,bg.l k msg i l n t = some R ∧ dV.l0 k msg i t n l = some R:=by
 induction d with
 | zero=>intro k msg i l n t h;omega
 | succ d ih =>
  intro k msg i l n t hd hk hm ht hn
  obtain ⟨k,rfl⟩:∃ m,k = m + 1:=⟨k - 1,by omega⟩
  rw [bg.l,dV.l0,yP k (by omega) msg i 1 (by omega),yP k (by omega) msg i 2 (by omega)]
  simp only [Option.bind_some]
  by_cases g1:kg msg i 1
  ·have hr:=gD msg i
   have e1:ig (1:Int).toNat msg i = bt msg i:=EK msg i
   have hi0:=g1.1
   have hi1:=g1.2.2.2
   simp only [ail g1,e1,aiV]
   by_cases c0:bt msg i = 0
   ·simp only [ail c0]
    have z:t.size + 1 ≤ 9223372036854775807:=by omega
    simp only [ail z]
    rw [jQ (n:=i + 1) (by omega) (by omega)]
    rcases hn with rfl | hn
    ·rw [ail (show (-1:Int) < 0 by omega),ail rfl];exact ⟨_,rfl,rfl⟩
    ·rw [ain (show ¬ n < 0 by omega),ain (show ¬ n = -1 by omega)];exact ⟨_,rfl,rfl⟩
   ·simp only [ain c0]
    by_cases c1:192 ≤ bt msg i
    ·have hg:=IQ c1
     simp only [ail c1,ail (show bt msg i ≥ 192 from c1)]
     by_cases g2:kg msg i 2
     ·have e2:ig (2:Int).toNat msg i = ig 2 msg i:=rfl
      have hi2:=g2.2.2.2
      simp only [ail g2,e2,aiV]
      rw [jQ (n:=ig 2 msg i - 49152) (by omega) (by omega),jQ (n:=i + 2) (by omega) (by omega)]
      by_cases c2:ig 2 msg i - 49152 ≥ l
      ·rw [ail c2,ail c2]
       exact ⟨_,rfl,rfl⟩
      ·rw [ain c2,ain c2]
       rcases hn with rfl | hn
       ·rw [ail (show (-1:Int) < 0 by omega),ail rfl]
        exact ih k msg _ _ _ t (by omega) (by omega) hm ht (.inr (by omega))
       ·rw [ain (show ¬ n < 0 by omega),ain (show ¬ n = -1 by omega)]
        exact ih k msg _ _ _ t (by omega) (by omega) hm ht (.inr hn)
     ·simp only [ain g2,aiO,aiJ]
      exact ⟨_,rfl,rfl⟩
    ·simp only [ain c1,ain (show ¬ bt msg i ≥ 192 from c1)]
     by_cases c2:63 < bt msg i
     ·rw [ail c2,ail (show bt msg i > 63 from c2)]
      exact ⟨_,rfl,rfl⟩
     ·rw [ain c2,ain (show ¬ bt msg i > 63 from c2),jQ (n:=bt msg i + 1) (by omega) (by omega),vO msg i _ (by omega),show bt msg i + 1 = 1 + bt msg i from by omega]
      simp only [Option.bind_some]
      by_cases g3:iG msg i (1 + bt msg i)
      ·have hz:=size_ext g3.1 g3.2.1 g3.2.2
       simp only [ail g3,aiV]
       have hsz:t.size + (msg.extract i.toNat (i + (1 + bt msg i)).toNat).size ≤ 9223372036854775807:=by omega
       rw [ail hsz,aiT,afK _ _ _ hz ht (by omega) (by omega)]
       clear hsz
       by_cases c3:(t.size:Int) + (1 + bt msg i) ≥ 255
       ·rw [ail c3,ail (show (t.size:Int) + (1 + bt msg i) + 1 > 255 by omega)]
        exact ⟨_,rfl,rfl⟩
       ·have hb:=g3.2.2
        rw [ain c3,ain (show ¬ (t.size:Int) + (1 + bt msg i) + 1 > 255 by omega),jQ (n:=i + bt msg i) (by omega) (by omega),jQ (n:=i + bt msg i + 1) (by omega) (by omega),show i + bt msg i + 1 = i + (1 + bt msg i) from by omega]
        exact ih k msg _ _ _ _ (by rw [aiT];omega) (by omega) hm (by rw [aiT];omega) hn
      ·simp only [ain g3,aiO,aiJ]
       exact ⟨_,rfl,rfl⟩
  ·simp only [ain g1,aiO,aiJ]
   exact ⟨_,rfl,rfl⟩
theorem EL {k k':Nat} (hk:k ≤ k') {msg:ByteArray} {i:Int} {R:ByteArray × Int × Int} (h:bg.f k msg i = some R):bg.f k' msg i = some R:=uT (fun k=>bg.mono msg i k) hk h
def rounds (i:Int):Nat:=i.toNat + 300
theorem J8 (k:Nat) (msg:ByteArray) (i:Int) (hm:msg.size ≤ 100000) (hk:rounds i ≤ k):∃ R,bg.f k msg i = some R ∧ dV.f k msg i = some R:=by
 unfold rounds at hk
 obtain ⟨R,h1,h2⟩:=J7 (i.toNat + 256) k msg i i (-1) ⟨#[]⟩ (by rw [Ny];omega) (by omega) hm (by decide) (.inl rfl)
 refine ⟨R,?_,h2⟩
 unfold bg.f
 rw [ail (by omega)]
 exact h1
def pre (t:ByteArray):Prop:=∃ ls,t = zJ ls ∧ ∀ x ∈ ls,Gi x
theorem pre_nil : pre ⟨#[]⟩:=⟨[],rfl,by simp⟩
theorem Oe {t x:ByteArray} (h:pre t) (hx:Gi x):pre (t ++ (sg x.size ++ x)):=by
 obtain ⟨ls,rfl,hok⟩:=h
 refine ⟨ls ++ [x],?_,?_⟩
 ·rw [EC];simp only [zJ];rw [append_empty]
 ·intro y hy
  rcases aiN.mp hy with hy | hy
  ·exact hok y hy
  ·rw [aje] at hy;subst hy;exact hx
theorem J9 {msg:ByteArray} {i:Int} (h:iG msg i (1 + bt msg i)) (h1:1 ≤ bt msg i) (h2:bt msg i ≤ 63):∃ x,Gi x ∧ msg.extract i.toNat (i + (1 + bt msg i)).toNat = sg x.size ++ x:=by
 obtain ⟨g0,g1,g2⟩:=h
 have hz:=size_ext g0 g1 g2
 refine ⟨msg.extract (i.toNat + 1) (i + (1 + bt msg i)).toNat,?_,?_⟩
 ·unfold Gi;rw [aiW];omega
 ·have e:(msg.extract (i.toNat + 1) (i + (1 + bt msg i)).toNat).size = (bt msg i).toNat:=by rw [aiW];omega
  rw [e]
  have h3:msg.extract i.toNat (i.toNat + 1) = sg ((bt msg i).toNat:Nat):=by
   refine Gh (by rw [ou,aiW];omega) fun j j0 j1=>?_
   rw [aiW] at j1
   have:j = 0:=by omega
   subst this
   rw [mI (by omega) (by rw [aiW];omega),ND _ (by omega)]
   rw [show ((i.toNat:Nat):Int) + 0 = i from by omega]
   omega
  rw [← h3,ByteArray.extract_append_extract]
  congr 1 <;> omega
theorem Ka (k:Nat):∀ (msg:ByteArray) (a i l n:Int) (t:ByteArray) (R:ByteArray × Int × Int),0 ≤ a → pre t → t.size ≤ 254 → ((n = -1 ∧ a ≤ i) ∨ (a < n ∧ n ≤ (msg.size:Int))) → bg.l k msg i l n t = some R →
  (R.2.2 = 0 ∧ jJ R.1 = true ∧ a < R.2.1 ∧ R.2.1 ≤ (msg.size:Int)) ∨ ((R.2.2 = 2 ∨ R.2.2 = 3) ∧ R.1 = ⟨#[]⟩ ∧ R.2.1 = 0):=by
 induction k with
 | zero=>intro msg a i l n t R _ _ _ _ h;simp [bg.l] at h
 | succ k ih =>
  intro msg a i l n t R ha hp ht hn h
  rw [bg.l] at h
  by_cases g1:kg msg i 1
  ·have hr:=gD msg i
   have hi0:=g1.1
   have hi1:=g1.2.2.2
   rw [ail g1] at h
   by_cases c0:bt msg i = 0
   ·rw [ail c0] at h
    cases h
    left
    refine ⟨rfl,?_,?_⟩
    ·obtain ⟨ls,rfl,hok⟩:=hp
     exact wH.mpr ⟨ls,rfl,hok,by rw [aiT];show _ + root.size ≤ 255;rw [j5];omega⟩
    ·rcases hn with ⟨rfl,hn⟩ | hn
     ·rw [ail rfl];exact ⟨(by show a < i + 1;omega),(by show i + 1 ≤ (msg.size:Int);omega)⟩
     ·rw [ain (by omega)];exact hn
   ·rw [ain c0] at h
    by_cases c1:192 ≤ bt msg i
    ·rw [ail c1] at h
     have hg:=IQ c1
     by_cases g2:kg msg i 2
     ·rw [ail g2] at h
      have hi2:=g2.2.2.2
      by_cases c2:ig 2 msg i - 49152 ≥ l
      ·rw [ail c2] at h
       cases h;right;exact ⟨.inr rfl,rfl,rfl⟩
      ·rw [ain c2] at h
       rcases hn with ⟨rfl,hn⟩ | hn
       ·rw [ail rfl] at h
        exact ih msg a _ _ _ t R ha hp ht (.inr ⟨by omega,by omega⟩) h
       ·rw [ain (by omega)] at h
        exact ih msg a _ _ _ t R ha hp ht (.inr hn) h
     ·rw [ain g2] at h
      cases h;right;exact ⟨.inl rfl,rfl,rfl⟩
    ·rw [ain c1] at h
     by_cases c2:63 < bt msg i
     ·rw [ail c2] at h
      cases h;right;exact ⟨.inr rfl,rfl,rfl⟩
     ·rw [ain c2] at h
      by_cases g3:iG msg i (1 + bt msg i)
      ·rw [ail g3] at h
       by_cases c3:(t.size:Int) + (1 + bt msg i) ≥ 255
       ·rw [ail c3] at h
        cases h;right;exact ⟨.inr rfl,rfl,rfl⟩
       ·rw [ain c3] at h
        have hz:=size_ext g3.1 g3.2.1 g3.2.2
        obtain ⟨x,hx,hxe⟩:=J9 g3 (by omega) (by omega)
        refine ih msg a _ _ _ _ R ha ?_ (by rw [aiT];omega) ?_ h
        ·rw [hxe];exact Oe hp hx
        ·rcases hn with ⟨rfl,hn⟩ | hn
         ·exact .inl ⟨rfl,by omega⟩
         ·exact .inr hn
      ·rw [ain g3] at h
       cases h;right;exact ⟨.inl rfl,rfl,rfl⟩
  ·rw [ain g1] at h
   cases h;right;exact ⟨.inl rfl,rfl,rfl⟩
theorem WM {k:Nat} {msg:ByteArray} {i:Int} {R:ByteArray × Int × Int} (hm:msg.size ≤ 100000):bg.f k msg i = some R ↔ bg.l k msg i i (-1) ⟨#[]⟩ = some R:=by
 unfold bg.f;rw [ail (by omega)]
theorem Gy {k:Nat} {msg:ByteArray} {i:Int} {R:ByteArray × Int × Int} (hm:msg.size ≤ 100000) (h:bg.f k msg i = some R) :
  (R.2.2 = 0 ∧ jJ R.1 = true ∧ 0 ≤ i ∧ i < R.2.1 ∧ R.2.1 ≤ (msg.size:Int)) ∨ ((R.2.2 = 2 ∨ R.2.2 = 3) ∧ R.1 = ⟨#[]⟩ ∧ R.2.1 = 0):=by
 rw [WM hm] at h
 by_cases h0:0 ≤ i
 ·rcases Ka k msg i i i (-1) ⟨#[]⟩ R h0 pre_nil (by decide) (.inl ⟨rfl,ajg _⟩) h with ⟨h1,h2,h3,h4⟩ | h1
  ·exact .inl ⟨h1,h2,h0,h3,h4⟩
  ·exact .inr h1
 ·cases k with
  | zero=>simp [bg.l] at h
  | succ k =>
   rw [bg.l,ain (fun g=>h0 g.1)] at h
   cases h;right;exact ⟨.inl rfl,rfl,rfl⟩
end
section
open Go.RowKit Go.Proofs.YtfokaoeinpnagaaGreatW.aT Go.Proofs.YtfokaoeinpnagaaGreatW.dO Go.Proofs.YtfokaoeinpnagaaGreatW.eX Go.Proofs.YtfokaoeinpnagaaGreat.B
def plL : List ByteArray → Int → ByteArray → Int
 | [],_,_=>-1
 | x :: m,o,r=>if same (enc (x :: m)) r then o else plL m (o + 1 + x.size) r
def wrL (m:List ByteArray) (a:Int):List ByteArray → ByteArray → ByteArray
 | [],p=>p ++ root
 | x :: l,p=>if 0 ≤ plL m 0 (enc (x :: l)) then p ++ afG (49152 + a + plL m 0 (enc (x :: l))) 2 else wrL m a l (p ++ (sg x.size ++ x))
def wr (base:ByteArray) (a:Int) (n:ByteArray):ByteArray:=match rT base,rT n with
 | some m,some ls=>if 0 ≤ a ∧ a ≤ 16000 then wrL m a ls ⟨#[]⟩ else ⟨#[]⟩
 | _,_=>⟨#[]⟩
theorem AX (a:ByteArray):(qL a).size = a.size:=by unfold qL;rw [strOfNums_size,aio,numsOf_length]
end
end Go.Proofs.YtfokaoeinpnagaaGreat.ZQ
namespace Go.Proofs.YtfokaoeinpnagaaGreat.Mi
open Go Go.Proofs.YtfokaoeinpnagaaGreatW.aT
def ents : Nat → List (Int × Value) → List MapEntry
 | _,[]=>[]
 | i,(k,v) :: l=>{ key:=.int .i64 k,val:=v,born:=i } :: ents (i + 1) l
def su (k:Int):List (Int × Value) → Option Value
 | []=>none
 | (k',v) :: l=>if k = k' then some v else su k l
theorem oC (k:Int):∀ (l:List (Int × Value)) (i j:Nat),∃ r,Instr.findNow (.int .i64) (.int .i64 k) (ents i l) j = some r ∧ r.map (·.2) = su k l
 | [],i,j=>⟨none,rfl,rfl⟩
 | (k',v) :: l,i,j=>by
  obtain ⟨r,h1,h2⟩:=oC k l (i + 1) (j + 1)
  unfold ents su Instr.findNow
  by_cases h:k = k'
  ·subst h
   exact ⟨some (j,v),by simp [Instr.sameNow],by simp⟩
  ·have hb:(k == k') = false:=by simpa using h
   exact ⟨r,by simp [Instr.sameNow,hb,h1],by simp [h,h2]⟩
theorem AY (k:Int) (v:Value):∀ (l:List (Int × Value)) (i:Nat),ents i (l ++ [(k,v)]) = ents i l ++ [{ key:=.int .i64 k,val:=v,born:=i + l.length }]
 | [],i=>rfl
 | (k',v') :: l,i=>by
  simp only [List.cons_append,ents,AY k v l (i + 1),List.length_cons]
  rw [show i + 1 + l.length = i + (l.length + 1) from by omega]
def At (w:World) (b:Nat) (l:List (Int × Value)):Prop:=w.heap[b]? = some (.map (ents 0 l).toArray l.length)
variable {P : Program}
theorem Gz {w:World} {b:Nat} {l:List (Int × Value)} (h:At w b l) (t kt et:TypeId) (hm:P.underlying t = some (.map kt et)) (hk:P.underlying kt = some (.int .i64)) (k:Int) (v:Value) (hn:su k l = none) :
  ∃ w',(Instr.mapUpdate t (.map (some b)) (.int .i64 k) v).run P w = .ok () w' ∧ At w' b (l ++ [(k,v)]) ∧ w.grownBy w' (some b):=by
 obtain ⟨r,h1,h2⟩:=oC k l 0 0
 rw [hn] at h2
 obtain rfl:r = none:=by cases r with | none=>rfl | some x=>cases h2
 have hc:(Instr.checkKey false 10000 kt (.int .i64 k)).run P w = .ok () w:=MapKept.run_checkKey (k:=.int .i64 k) hk (by simp [MapKept.IsKey]) false 9999
 refine ⟨{ w with heap:=w.heap.setIfInBounds b (.map (ents 0 (l ++ [(k,v)])).toArray (l ++ [(k,v)]).length) },?_,(MapKept.heap_set h).1,⟨rfl,rfl,rfl,by simp,fun i _ hi=>(MapKept.heap_set h).2 i (fun e=>hi (by rw [e]))⟩⟩
 unfold At at h
 simp [Instr.mapUpdate,run_underlying hm,MapKept.run_getObj_map h,hc,MapKept.run_findKey hk h1,MapKept.run_setObj_map _ h,Result.andThen]
 rw [AY]
 simp
theorem look {w:World} {b:Nat} {l:List (Int × Value)} (h:At w b l) (t kt et:TypeId) (hm:P.underlying t = some (.map kt et)) (hk:P.underlying kt = some (.int .i64)) (z:Value) (hz:(zeroValue et).run P w = .ok z w) (k:Int) :
  (Instr.lookup t (.map (some b)) (.int .i64 k) true).run P w = .ok (.tuple #[(su k l).getD z,.bool (su k l).isSome]) w:=by
 obtain ⟨r,h1,h2⟩:=oC k l 0 0
 unfold At at h
 have hc:∀ e,(Instr.checkKey e 10000 kt (.int .i64 k)).run P w = .ok () w:=fun e=>MapKept.run_checkKey (k:=.int .i64 k) hk (by simp [MapKept.IsKey]) e 9999
 rw [← h2]
 cases r with
 | none=>simp [Instr.lookup,run_underlying hm,MapKept.run_getObj_map h,hc,MapKept.run_findKey hk h1,Result.andThen,hz]
 | some x=>obtain ⟨i,v⟩:=x;simp [Instr.lookup,run_underlying hm,MapKept.run_getObj_map h,hc,MapKept.run_findKey hk h1,Result.andThen]
theorem Ke (w:World) {ops:Array Oper} {rest:List Oper} {o:Oper} {a:Act} {Q:Exit → Act → World → Prop}
  (hg:o.guard = none) (m x v:Operand) (t:TypeId) (hop:o.op = Op.insert t m x v)
  (kt et:TypeId) (ht:P.underlying t = some (.map kt et)) (hk:P.underlying kt = some (.int .i64)) (b:Nat) (l:List (Int × Value)) (hm:a.eval m = .map (some b)) (hat:At w b l) (k:Int) (val:Value) (hx:a.eval x = .int .i64 k) (hv:a.eval v = val) (hn:su k l = none)
  (hK:∀ w',At w' b (l ++ [(k,val)]) → w.grownBy w' (some b) → wpList P ops Q rest (a.put o.dst undef) w') :
  wpList P ops Q (o :: rest) a w:=by
 refine wpList_plain hg fun K' hK'=>?_
 obtain ⟨w',hrun,r1,r2⟩:=Gz hat t kt et ht hk k val hn
 unfold Oper.wp
 simp [execOp,hop,hm,hx,hv,hrun,Result.andThen]
 exact hK' _ _ (hK w' r1 r2)
theorem Rx (w:World):At (w.alloc (.map #[] 0)) w.heap.size []:=by
 unfold At ents
 exact heap_alloc_new w _
structure In (B0:Nat) (w0 w:World) (b:Nat) (l:List (Int × Value)):Prop where
 at_:At w b l
 ge:B0 ≤ b
 Og:RowKit.Below B0 w0 w
theorem In.made {w:World}:In w.heap.size w (w.alloc (.map #[] 0)) w.heap.size []:=⟨Rx w,aiq _,(RowKit.Below.refl _ _).alloc (aiq _) _⟩
theorem In.grown {B0 b:Nat} {w0 w w':World} {l l':List (Int × Value)} (h:In B0 w0 w b l) (h':At w' b l') (hg:w.grownBy w' (some b)):In B0 w0 w' b l':=by
 refine ⟨h',h.ge,h.Og.grown hg ?_ (fun k e=>by cases e;exact h.ge)⟩
 have:=(ajp.1 h.at_).1
 have:=h.ge
 omega
theorem EM {w:World} {ops:Array Oper} {rest:List Oper} {o:Oper} {a:Act} {Q:Exit → Act → World → Prop} (t:TypeId) (m x v:Operand) (hop:o.op = Op.insert t m x v) (h:wpList P ops Q (o :: rest) a w):wpList P ops Q (o :: rest) a w:=h
theorem aa3 (w:World) {ops:Array Oper} {rest:List Oper} {o:Oper} {a:Act} {Q:Exit → Act → World → Prop}
  (hg:o.guard = none) (m x v:Operand) (t:TypeId) (hop:o.op = Op.insert t m x v)
  (kt et:TypeId) (ht:P.underlying t = some (.map kt et)) (hk:P.underlying kt = some (.int .i64)) (b:Nat) (l:List (Int × Value)) (hm:a.eval m = .map (some b)) {B0:Nat} {w0:World} (hin:In B0 w0 w b l) (k:Int) (val:Value) (hx:a.eval x = .int .i64 k) (hv:a.eval v = val) (hn:su k l = none)
  (hK:∀ w',ah (In B0 w0 w' b (l ++ [(k,val)])) → wpList P ops Q rest (a.put o.dst undef) w') :
  wpList P ops Q (o :: rest) a w :=
 Ke w hg m x v t hop kt et ht hk b l hm hin.at_ k val hx hv hn fun w' h1 h2=>hK w' ⟨hin.grown h1 h2⟩
end Go.Proofs.YtfokaoeinpnagaaGreat.Mi

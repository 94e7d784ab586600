/- A part of the proof of SeekZones: cut, joined and given short names by a program of this session (wip/tools/pack.py); Lean checks it. No condition. -/
import Derived.Test.YtfokaoeinpnagaaGreatPSZesg
import Derived.BigRegion
import Derived.Laws.BitsLemmas
import Derived.WalkSpells
import Derived.Test.YtfokaoeinpnagaaGreatProg
import Derived.Shelf.Strings.OnBuilder
import Derived.KernelRfl
import Derived.Laws.Externs
import Derived.LaidEqlPtr
import Derived.WideMake
import Derived.WalkKit
import Derived.Below
import Derived.Test.YtfokaoeinpnagaaGreatPSZesd
set_option linter.unusedSectionVars false
set_option linter.unusedSimpArgs false
set_option linter.unusedVariables false
set_option maxHeartbeats 16000000
set_option maxRecDepth 100000
namespace Go.Proofs.YtfokaoeinpnagaaGreat.ZQ
section
open Go.RowKit Go.Proofs.YtfokaoeinpnagaaGreatW.aX Go.Proofs.YtfokaoeinpnagaaGreatW.dL Go.Proofs.YtfokaoeinpnagaaGreatW.eO
attribute [local go_sem] jV jW lF lG jo jq jX jY
mutual
def aC.j0 : Nat → ByteArray → List ByteArray → Bool → Option (List ByteArray × Bool)
 | 0,_,_,_=>none
 | k + 1,x0,x4,x14=>if x14 = true then (some (([]:List ByteArray),false)) else (aC.l0 k x0 x4 0)
def aC.l0 : Nat → ByteArray → List ByteArray → Int → Option (List ByteArray × Bool)
 | 0,_,_,_=>none
 | k + 1,x0,x4,x5=>if x5 < (x0.size:Int) then (if 0 ≤ x5 then (if (wrap64 (bt x0 x5)) = 0 then (some (x4,(x5 == (wrap64 ((x0.size:Int) - 1))))) else (if (wrap64 (bt x0 x5)) > 63 then (some (([]:List ByteArray),false)) else (if (wrap64 (bt x0 x5)) ≥ (wrap64 ((x0.size:Int) - x5)) then (some (([]:List ByteArray),false)) else (if 0 ≤ (wrap64 (x5 + 1)) then (if (wrap64 (x5 + 1)) ≤ (wrap64 ((wrap64 (x5 + 1)) + (wrap64 (bt x0 x5)))) then (if (wrap64 ((wrap64 (x5 + 1)) + (wrap64 (bt x0 x5)))) ≤ (x0.size:Int) then (if x4.length < 8796093022208 then (aC.l0 k x0 (x4 ++ [x0.extract ((wrap64 (x5 + 1)):Int).toNat ((wrap64 ((wrap64 (x5 + 1)) + (wrap64 (bt x0 x5)))):Int).toNat]) (wrap64 ((wrap64 (x5 + 1)) + (wrap64 (bt x0 x5))))) else (none)) else (none)) else (none)) else (none))))) else (none)) else (some (([]:List ByteArray),false))
end
def aC.f (k:Nat) (a0:ByteArray):Option (List ByteArray × Bool):=if (a0.size:Int) < 1 then (aC.j0 k a0 ([]:List ByteArray) true) else (aC.j0 k a0 ([]:List ByteArray) (decide ((a0.size:Int) > 255)))
theorem aC.calls (k:Nat) (a0:ByteArray) (r1:List ByteArray) (r2:Bool) (w:World) (h:aC.f k a0 = some (r1,r2)) :
  Calls Tryz.prog 77 #[.string a0] w fun e w'=>∃ UK:Value,e = .returned (.tuple #[UK,.bool r2]) ∧ Kd.R Kd.string 9 w' w.heap.size (fun _=>True) UK r1 ∧ Below w.heap.size w w':=by
 have HB:=ah.mk (Below.refl w.heap.size w)
 have H:(if (a0.size:Int) < 1 then (aC.j0 k a0 ([]:List ByteArray) true) else (aC.j0 k a0 ([]:List ByteArray) (decide ((a0.size:Int) > 255)))) = some (r1,r2):=h
 clear h
 have HC2:=ah.mk H
 clear H
 go_enter Tryz.func77,Tryz.ntmps77
 go_upto_region 2 with (fail)
 go_cut [14] (fun v14 wc=>∃ (kq:Nat) (Jm:Bool),v14 = .bool Jm ∧ ah (aC.j0 kq a0 ([]:List ByteArray) Jm = some (r1,r2)) ∧ ah (kq ≤ k) ∧ ah (Kd.R Kd.string 9 wc w.heap.size (fun _=>True) (.slice none 0 0) ([]:List ByteArray)) ∧ ah (Below w.heap.size w wc))
 case first =>
  have H:=HC2.out
  clear HC2
  by_cases c3:(a0.size:Int) < 1
  ·rw [ai8 c3] at H
   have vE:decide ((a0.size:Int) < 1) = true:=aja c3
   have Ht:decide (a0.size < 1) = true:=aja (by omega)
   clear c3
   (first | rw [vE] | rw [OC] | (simp only [iI,jh];rw [vE]) | skip)
   have H':=ah.mk H
   clear H
   go_wp2
   go_meet
   case rel=>exact ⟨_,(true),(by first | rfl | (simp;done) | (simp [*];done) | (simp [B.dV];done) | (simp [B.dW];done)),H',⟨by first | omega | exact ajd _⟩,⟨by first | exact Kd.kC _ _ _ _ _ | exact Kd.mW _ _ _ _ _ | exact Kd.mX _ _ _ _ _ | exact Kd.mR _ _ _ _ _ | exact Kd.mV _ _ _ _ _⟩,⟨by repeat (first | exact HB.out | apply ak | apply aj | apply au)⟩⟩
  ·rw [ai9 c3] at H
   have vE:decide ((a0.size:Int) < 1) = false:=ajc c3
   have Ht:decide (a0.size < 1) = false:=ajc (by omega)
   clear c3
   (first | rw [vE] | rw [OC] | (simp only [iI,jh];rw [vE]) | skip)
   have H':=ah.mk H
   clear H
   go_wp2
   go_meet
   case rel=>exact ⟨_,(decide ((a0.size:Int) > 255)),(by first | rfl | (simp;done) | (simp [*];done) | (simp [B.dV];done) | (simp [B.dW];done)),H',⟨by first | omega | exact ajd _⟩,⟨by first | exact Kd.kC _ _ _ _ _ | exact Kd.mW _ _ _ _ _ | exact Kd.mX _ _ _ _ _ | exact Kd.mR _ _ _ _ _ | exact Kd.mV _ _ _ _ _⟩,⟨by repeat (first | exact HB.out | apply ak | apply aj | apply au)⟩⟩
 case rest =>
  clear HC2
  try clear p2
  try clear c3
  try clear vE
  try clear Ht
  try clear OC
  obtain ⟨kq,Jm,rfl,HA,HJ1,qY,HB⟩:=hcut
  cases kq with
  | zero=>exact absurd HA.out (by simp [aC.j0])
  | succ kj1 =>
   have H:=HA.out
   clear HA
   simp only [aC.j0] at H
   by_cases c4:Jm = true
   ·subst c4
    have H1:(some (([]:List ByteArray),false)) = some (r1,r2):=by rw [ai8 rfl] at H;exact H
    clear H
    have H:=H1
    clear H1
    simp only [ajl,ajm] at H
    obtain ⟨rfl,rfl⟩:=H
    go_wp2
    go_ret2
    exact ⟨_,by first | rfl | (simp [aJ,aK] <;> rfl) | (simp [*,aJ,aK] <;> rfl),by first | exact Kd.kC _ _ _ _ _ | exact Kd.mW _ _ _ _ _ | exact Kd.mX _ _ _ _ _ | exact Kd.mR _ _ _ _ _ | exact Kd.mV _ _ _ _ _,by repeat (first | exact HB.out | apply ak | apply aj | apply au)⟩
   ·replace c4:=ajP.mpr c4
    subst c4
    have H1:(aC.l0 kj1 a0 ([]:List ByteArray) 0) = some (r1,r2):=by rw [ai9 (show ¬ (false = true) by decide)] at H;exact H
    clear H
    have H:=H1
    clear H1
    have H':=ah.mk H
    clear H
    go_wp2
    go_loopg [4,5] kj1 (fun kq v4 v5 w'=>∃ (Fx:List ByteArray) (fq:Int),v5 = .int .i64 fq ∧ ah (aC.l0 kq a0 Fx fq = some (r1,r2)) ∧ ah (kq ≤ kj1) ∧ ah (Kd.R Kd.string 9 w' w.heap.size (fun _=>True) v4 Fx) ∧ ah (Below w.heap.size w w'))
    case atStart=>exact ⟨(([]:List ByteArray)),(0),(by first | rfl | (simp;done) | (simp [*];done) | (simp [B.dV];done) | (simp [B.dW];done)),H',⟨ajd _⟩,⟨by (with_reducible repeat (first | apply Kd.gq | apply Kd.gT | apply Kd.iq));exact qY.out⟩,⟨by repeat (first | exact HB.out | apply ak | apply aj | apply au)⟩⟩
    case round =>
     clear H'
     try clear p2
     try clear c3
     try clear vE
     try clear Ht
     try clear OC
     try clear c4
     try clear p2
     obtain ⟨Fx,fq,rfl,HA,HK2,qY,HB⟩:=hrel
     cases gk with
     | zero=>exact absurd HA.out (by simp [aC.l0])
     | succ k2 =>
      have H:=HA.out
      clear HA
      simp only [aC.l0] at H
      by_cases c5:fq < (a0.size:Int)
      ·rw [ai8 c5] at H
       have KJ:decide (fq < (a0.size:Int)) = true:=aja c5
       clear c5
       by_cases c6:0 ≤ fq
       ·rw [ai8 c6] at H
        have Ho:decide (0 ≤ fq) = true:=aja c6
        clear c6
        by_cases c8:(wrap64 (bt a0 fq)) = 0
        ·rw [ai8 c8] at H
         have KF:((wrap64 (bt a0 fq)) == 0) = true:=ajI.mpr c8
         have KG:((wrap64 (bt a0 fq)) != 0) = false:=akz.mpr c8
         (try (have agq:(((bt a0 fq)) == 0) = true:=by have h_:((wrap64 (bt a0 fq)) == 0) = true:=ajI.mpr c8;rw [B.jQ (by omega) (by omega)] at h_;exact h_))
         (try (have agr:(((bt a0 fq)) != 0) = false:=by have h_:((wrap64 (bt a0 fq)) != 0) = false:=akz.mpr c8;rw [B.jQ (by omega) (by omega)] at h_;exact h_))
         clear c8
         simp only [ajl,ajm] at H
         obtain ⟨rfl,rfl⟩:=H
         have p7:0 ≤ (fq:Int):=ajw (by first | (with_reducible assumption) | assumption)
         have q7:fq < (a0.size:Int):=ajw (by first | (with_reducible assumption) | assumption)
         have hx7:=pE a0 fq
         replace p7:=ajj p7
         replace q7:=ajj q7
         go_wp2
         go_ret2
         exact ⟨_,by first | rfl | (simp [aJ,aK] <;> rfl) | (simp [*,aJ,aK] <;> rfl),by (with_reducible repeat (first | apply Kd.gq | apply Kd.gT | apply Kd.iq));exact qY.out,by repeat (first | exact HB.out | apply ak | apply aj | apply au)⟩
        ·rw [ai9 c8] at H
         have KF:((wrap64 (bt a0 fq)) == 0) = false:=aj7.mpr c8
         have KG:((wrap64 (bt a0 fq)) != 0) = true:=aki.mpr c8
         (try (have agq:(((bt a0 fq)) == 0) = false:=by have h_:((wrap64 (bt a0 fq)) == 0) = false:=aj7.mpr c8;rw [B.jQ (by omega) (by omega)] at h_;exact h_))
         (try (have agr:(((bt a0 fq)) != 0) = true:=by have h_:((wrap64 (bt a0 fq)) != 0) = true:=aki.mpr c8;rw [B.jQ (by omega) (by omega)] at h_;exact h_))
         by_cases c9:(wrap64 (bt a0 fq)) > 63
         ·rw [ai8 c9] at H
          have Hq:decide (63 < (wrap64 (bt a0 fq))) = true:=aja c9
          (try (have Oy:decide (63 < ((bt a0 fq))) = true:=by have h_:decide (63 < (wrap64 (bt a0 fq))) = true:=aja c9;rw [B.jQ (by omega) (by omega)] at h_;exact h_))
          clear c9
          simp only [ajl,ajm] at H
          obtain ⟨rfl,rfl⟩:=H
          have p7:0 ≤ (fq:Int):=ajw (by first | (with_reducible assumption) | assumption)
          have q7:fq < (a0.size:Int):=ajw (by first | (with_reducible assumption) | assumption)
          have hx7:=pE a0 fq
          replace p7:=ajj p7
          replace q7:=ajj q7
          go_wp2
          go_ret2
          exact ⟨_,by first | rfl | (simp [aJ,aK] <;> rfl) | (simp [*,aJ,aK] <;> rfl),by first | exact Kd.kC _ _ _ _ _ | exact Kd.mW _ _ _ _ _ | exact Kd.mX _ _ _ _ _ | exact Kd.mR _ _ _ _ _ | exact Kd.mV _ _ _ _ _,by repeat (first | exact HB.out | apply ak | apply aj | apply au)⟩
         ·rw [ai9 c9] at H
          have Hq:decide (63 < (wrap64 (bt a0 fq))) = false:=ajc c9
          (try (have Oy:decide (63 < ((bt a0 fq))) = false:=by have h_:decide (63 < (wrap64 (bt a0 fq))) = false:=ajc c9;rw [B.jQ (by omega) (by omega)] at h_;exact h_))
          clear c9
          by_cases c10:(wrap64 (bt a0 fq)) ≥ (wrap64 ((a0.size:Int) - fq))
          ·rw [ai8 c10] at H
           have Fv:decide ((wrap64 ((a0.size:Int) - fq)) ≤ (wrap64 (bt a0 fq))) = true:=aja c10
           (try (have Jl:decide ((((a0.size:Int) - fq)) ≤ ((bt a0 fq))) = true:=by have h_:decide ((wrap64 ((a0.size:Int) - fq)) ≤ (wrap64 (bt a0 fq))) = true:=aja c10;rw [B.jQ (by omega) (by omega)] at h_;rw [B.jQ (by omega) (by omega)] at h_;exact h_))
           clear c10
           simp only [ajl,ajm] at H
           obtain ⟨rfl,rfl⟩:=H
           have p7:0 ≤ (fq:Int):=ajw (by first | (with_reducible assumption) | assumption)
           have q7:fq < (a0.size:Int):=ajw (by first | (with_reducible assumption) | assumption)
           have hx7:=pE a0 fq
           replace p7:=ajj p7
           replace q7:=ajj q7
           go_wp2
           go_ret2
           exact ⟨_,by first | rfl | (simp [aJ,aK] <;> rfl) | (simp [*,aJ,aK] <;> rfl),by first | exact Kd.kC _ _ _ _ _ | exact Kd.mW _ _ _ _ _ | exact Kd.mX _ _ _ _ _ | exact Kd.mR _ _ _ _ _ | exact Kd.mV _ _ _ _ _,by repeat (first | exact HB.out | apply ak | apply aj | apply au)⟩
          ·rw [ai9 c10] at H
           have Fv:decide ((wrap64 ((a0.size:Int) - fq)) ≤ (wrap64 (bt a0 fq))) = false:=ajc c10
           (try (have Jl:decide ((((a0.size:Int) - fq)) ≤ ((bt a0 fq))) = false:=by have h_:decide ((wrap64 ((a0.size:Int) - fq)) ≤ (wrap64 (bt a0 fq))) = false:=ajc c10;rw [B.jQ (by omega) (by omega)] at h_;rw [B.jQ (by omega) (by omega)] at h_;exact h_))
           clear c10
           obtain ⟨l9,Jo⟩:∃ j_:Int,(wrap64 (fq + 1)) = j_:=⟨_,rfl⟩
           replace H:(if 0 ≤ (l9) then (if (l9) ≤ (wrap64 ((l9) + (wrap64 (bt a0 fq)))) then (if (wrap64 ((l9) + (wrap64 (bt a0 fq)))) ≤ (a0.size:Int) then (if Fx.length < 8796093022208 then (aC.l0 k2 a0 (Fx ++ [a0.extract ((l9):Int).toNat ((wrap64 ((l9) + (wrap64 (bt a0 fq)))):Int).toNat]) (wrap64 ((l9) + (wrap64 (bt a0 fq))))) else (none)) else (none)) else (none)) else (none)) = some (r1,r2):=by first | (rw [Jo] at H;exact H) | (simp only [Jo] at H ⊢;exact H)
           have ags:(IntKind.i64.wrap (fq + 1)) = l9:=(iI _).trans Jo
           by_cases c12:0 ≤ (l9)
           ·rw [ai8 c12] at H
            have UM:=ajj c12
            have UN:decide (0 ≤ (l9)) = true:=aja c12
            clear c12
            by_cases c13:(l9) ≤ (wrap64 ((l9) + (wrap64 (bt a0 fq))))
            ·rw [ai8 c13] at H
             have ahY:=ajj c13
             have ahZ:decide ((l9) ≤ (wrap64 ((l9) + (wrap64 (bt a0 fq))))) = true:=aja c13
             by_cases c14:(wrap64 ((l9) + (wrap64 (bt a0 fq)))) ≤ (a0.size:Int)
             ·rw [ai8 c14] at H
              have ah0:=ajj c14
              have ah1:decide ((wrap64 ((l9) + (wrap64 (bt a0 fq)))) ≤ (a0.size:Int)) = true:=aja c14
              by_cases c15:Fx.length < 8796093022208
              ·rw [ai8 c15] at H
               have abI:=ah.mk c15
               clear c15
               obtain ⟨abJ,Fy⟩:∃ y_:List ByteArray,y_ = (Fx ++ [a0.extract ((l9):Int).toNat ((wrap64 ((l9) + (wrap64 (bt a0 fq)))):Int).toNat]):=⟨_,rfl⟩
               replace H:(aC.l0 k2 a0 abJ (wrap64 ((l9) + (wrap64 (bt a0 fq))))) = some (r1,r2):=by first | (rw [Fy];with_reducible exact H) | (have Hr:=(Option.bind_some _ _).symm.trans H;rw [Fy];with_reducible exact Hr) | (have Hr:=(Option.bind_some _ _).symm.trans H;with_reducible exact Hr) | with_reducible exact H | (rw [Fy];exact H) | exact H
               have abK:=ah.mk Fy
               clear Fy
               have H':=ah.mk H
               clear H
               have p7:0 ≤ (fq:Int):=ajw (by first | (with_reducible assumption) | assumption)
               have q7:fq < (a0.size:Int):=ajw (by first | (with_reducible assumption) | assumption)
               have hx7:=pE a0 fq
               replace p7:=ajj p7
               replace q7:=ajj q7
               go_wp2_with (first | ((with_reducible refine uy (b:=.append) (xs:=#[.tmp 41,.tmp 50]) rfl ?_);(try (refine Hg (by rfl) ?_;dsimp only));at_builtin;refine Kd.Fb Kd.string (w0:=w) w.heap.size rfl (.tmp 41) (.tmp 50) 40 9 (.string ⟨#[]⟩) 16 rfl Tryz.underlying40 Jj rfl (by decide) (by omega) u4 Fx (a0.extract ((l9):Int).toNat ((wrap64 ((l9) + (wrap64 (bt a0 fq)))):Int).toNat) [.string (a0.extract ((l9):Int).toNat ((wrap64 ((l9) + (wrap64 (bt a0 fq)))):Int).toNat)] (fun _=>True) (fun _=>False) rfl rfl ?aP (fun _ hk=>hk.elim) ?aF ?aO ?aB ?aS ?aL ?_;(case aP=>exact rfl);(case aB=>exact (by repeat first | exact HB.out | apply ak | apply aj | apply au));(case aF=>exact (fun _ _=>trivial));(case aO=>exact (by (with_reducible repeat (first | apply Kd.gq | apply Kd.gT | apply Kd.iq));exact qY.out));(case aS=>exact (dB (by repeat first | exact HB.out | apply ak | apply aj | apply au)));(case aL=>have:=abI.out;omega);intro aiV w16 ho hb hg hat;rw [← abK.out] at ho;have fM:=ah.mk (hb);have jJ:=ah.mk (ho);clear HB;clear qY;have HB:=fM;have abL:=jJ;clear fM jJ;clear ho hb hg hat))
               go_roundg k2
               case measure=>have:=HJ1.out;have:=HK2.out;omega
               case rel=>exact ⟨(abJ),(wrap64 ((l9) + (wrap64 (bt a0 fq)))),(by first | rfl | (simp;done) | (simp only [← Jo] <;> (first | rfl | simp)) | (simp [*];done)),H',⟨by have:=HJ1.out;have:=HK2.out;omega⟩,⟨by (with_reducible repeat (first | apply Kd.gq | apply Kd.gT | apply Kd.iq));exact abL.out⟩,⟨by repeat (first | exact HB.out | apply ak | apply aj | apply au)⟩⟩
              ·rw [ai9 c15] at H
               exact absurd H (by simp)
             ·rw [ai9 c14] at H
              exact absurd H (by simp)
            ·rw [ai9 c13] at H
             exact absurd H (by simp)
           ·rw [ai9 c12] at H
            exact absurd H (by simp)
       ·rw [ai9 c6] at H
        exact absurd H (by simp)
      ·rw [ai9 c5] at H
       have KJ:decide (fq < (a0.size:Int)) = false:=ajc c5
       clear c5
       simp only [ajl,ajm] at H
       obtain ⟨rfl,rfl⟩:=H
       go_wp2
       go_ret2
       exact ⟨_,by first | rfl | (simp [aJ,aK] <;> rfl) | (simp [*,aJ,aK] <;> rfl),by first | exact Kd.kC _ _ _ _ _ | exact Kd.mW _ _ _ _ _ | exact Kd.mX _ _ _ _ _ | exact Kd.mR _ _ _ _ _ | exact Kd.mV _ _ _ _ _,by repeat (first | exact HB.out | apply ak | apply aj | apply au)⟩
def aY.f (k:Nat) (a0:ByteArray):Option (Bool):=(aC.f k a0).bind fun OD=>(some OD.2)
theorem aY.calls (k:Nat) (a0:ByteArray) (r:Bool) (w:World) (h:aY.f k a0 = some r) :
  Calls Tryz.prog 42 #[.string a0] w fun e w'=>e = .returned (.bool r) ∧ Below w.heap.size w w':=by
 have HB:=ah.mk (Below.refl w.heap.size w)
 have H:((aC.f k a0).bind fun OD=>(some OD.2)) = some r:=h
 clear h
 replace H:=zbm H
 obtain ⟨⟨agt,abM⟩,Fw,H⟩:=H
 replace H:(some abM) = some r:=H
 have A2:=ah.mk Fw
 clear Fw
 obtain rfl:=ajz H
 go_enter Tryz.func42,Tryz.ntmps42
 go_wp2_with (first | ((with_reducible refine bS (f:=77) rfl ?_);refine gJ (some 7) rfl rfl Tryz.func77 (by kernel_rfl) rfl #[.string a0] rfl (by (try simp only [ajG,ajk,ajn]) <;> rfl) ?_;(with_reducible refine (aC.calls k a0 agt abM _ A2.out).mono ?_);rintro e w3 ⟨aiW,rfl,ho0,hb⟩;refine ⟨_,rfl,?_⟩;have fM:=ah.mk (Kd.nM ho0 (dB (by repeat first | exact HB.out | apply ak | apply aj | apply au)));have jJ:=ah.mk (bL (by repeat first | exact HB.out | apply ak | apply aj | apply au) hb);clear HB;have ah2:=fM;have HB:=jJ;clear fM jJ;(try clear hb);(try clear hb2);(try clear hk);(try clear hi);(try clear ho0)))
 go_ret
 exact ⟨by first | rfl | (simp [aJ,aK] <;> rfl) | (simp [*,aJ,aK] <;> rfl),by repeat (first | exact HB.out | apply ak | apply aj | apply au)⟩
def aI.f (a0:ByteArray):Option ByteArray:=if a0.size ≤ 140737488355328 then some (B.gU a0) else none
theorem aI.calls (a0:ByteArray) (r:ByteArray) (w:World) (h:aI.f a0 = some r) :
  Calls Tryz.prog 76 #[.string a0] w fun e w'=>e = .returned (.string r) ∧ Below w.heap.size w w':=by
 unfold aI.f at h
 by_cases hs:a0.size ≤ 140737488355328
 ·rw [ai8 hs] at h
  obtain rfl:=ajz h
  clear h
  have kc:=fun (W:World)=>Lib.run_convert_string_bytes (P:=Tryz.prog) W 9 189 5 a0 Tryz.underlying9 Tryz.underlying189 Tryz.underlying5
  have hb0:=ah.mk (B.yQ (Below.refl w.heap.size w) (ajd _) 5 a0)
  have hr0:=ah.mk (B.yP w 5 a0)
  go_enter Tryz.func76,Tryz.ntmps76
  go_wp2
  generalize Lib.bytesWorld w 5 a0 = w1 at hb0 hr0 ⊢
  generalize grownCap w a0.size 0 5 = C
  have hz:=ah.mk (B.numsOf_length a0)
  have hg:=ah.mk (ajd w.heap.size)
  generalize hgg:w.heap.size = g at hb0 hr0 hg ⊢
  have hg':=ah.mk hgg
  clear hgg
  go_loopw [4] (fun v wr=>∃ k:Nat,k ≤ a0.size ∧ v = .int .i64 k ∧ ah (B.wh wr g (B.ji k (B.numsOf a0))) ∧ ah (Below g w wr)) (fun v _=>a0.size - (intOf v).toNat)
  case atStart=>exact ⟨0,ajO _,rfl,⟨by rw [B.yO];exact hr0.out⟩,hb0⟩
  case round =>
   obtain ⟨k,hk,rfl,hrow,hbel⟩:=hrel
   clear hr0 hb0 kc
   by_cases hlt:k < a0.size
   ·have hkl:k < (B.numsOf a0).length:=by rw [hz.out];exact hlt
    have hc:=(hrow.out k (by rw [B.gV];exact hkl))
    rw [B.Fh k _ hkl,B.numsOf_at] at hc
    obtain ⟨hc1,hc2⟩:=hc
    have hrange:=B.Bh a0 k
    have hset:=ah.mk (B.rowAt_set hrow.out k (B.fF (bt a0 k)) (by rw [B.gV];exact hkl))
    have hset':=ah.mk (show B.wh (wr.setCell ⟨g,k,none⟩ (.int .u8 (B.fF (bt a0 k)))) g (B.ji (k + 1) (B.numsOf a0)) by
     have h1:=hset.out
     rw [← B.numsOf_at,B.vB k _ hkl] at h1
     rw [← B.numsOf_at]
     exact h1)
    have lN:=ah.mk (hbel.out.setCell (p:=⟨g,k,none⟩) (ajd _) (.int .u8 (B.fF (bt a0 k))))
    have hsame:=ah.mk (show B.fF (bt a0 k) = bt a0 k → B.wh wr g (B.ji (k + 1) (B.numsOf a0)) by
     intro he j hj
     have h1:=hrow.out j (by rw [B.gV] at hj ⊢;exact hj)
     rw [← B.vB k _ hkl,B.numsOf_at,he]
     by_cases e:j = k
     ·subst e
      rw [ajy,List.getElem?_set_self (by rw [B.gV];exact hkl)]
      exact ⟨hc1,hc2⟩
     ·rw [ajy,List.getElem?_set_ne (fun h=>e h.symm),← ajy]
      exact h1)
    clear hset hrow hkl
    generalize bt a0 k = c at *
    by_cases c1:65 ≤ c
    ·by_cases c2:c ≤ 90
     ·have d1:decide (65 ≤ c) = true:=aja c1
      have d2:decide (c ≤ 90) = true:=aja c2
      have e1:B.fF c = c + 32:=by unfold B.fF;rw [ai8 ⟨c1,c2⟩]
      have e2:(c + 32) % 256 = c + 32:=by omega
      rw [e1] at hset' lN
      have e2':=ah.mk e2
      clear hsame hbel e1 e2 c1 c2
      go_wp2
      all_goals
       go_roundw
       case rel=>exact ⟨k + 1,by omega,by go_num,⟨fun j hj=>by first | exact hset'.out j hj | (rw [e2'.out];exact hset'.out j hj)⟩,⟨by first | exact lN.out | (rw [e2'.out];exact lN.out) | exact ⟨lN.out.os,lN.out.tape,lN.out.output,lN.out.size,lN.out.block⟩⟩⟩
       case measure=>simp [intOf];omega
     ·have d1:decide (65 ≤ c) = true:=aja c1
      have d2:decide (c ≤ 90) = false:=ajc c2
      have e1:B.fF c = c:=by unfold B.fF;rw [ai9 (by omega)]
      have hr2:=ah.mk (hsame.out e1)
      clear hsame hset' lN e1 c1 c2
      go_wp2
      go_roundw
      case rel=>exact ⟨k + 1,by omega,by go_num,hr2,hbel⟩
      case measure=>simp [intOf];omega
    ·have d1:decide (65 ≤ c) = false:=ajc c1
     have e1:B.fF c = c:=by unfold B.fF;rw [ai9 (by omega)]
     have hr2:=ah.mk (hsame.out e1)
     clear hsame hset' lN e1 c1
     go_wp2
     go_roundw
     case rel=>exact ⟨k + 1,by omega,by go_num,hr2,hbel⟩
     case measure=>simp [intOf];omega
   ·obtain rfl:k = a0.size:=by omega
    have hl:(B.ji a0.size (B.numsOf a0)).length = a0.size:=by rw [B.gV];exact hz.out
    have kd:=fun (dst:TypeId) (hd:Tryz.prog.underlying dst = some .string)=>run_convert_bytes_arg (P:=Tryz.prog) wr 189 5 Tryz.underlying189 Tryz.underlying5 g 0 a0.size C (B.ji a0.size (B.numsOf a0)) hl (fun i hi=>by rw [ajD];exact (hrow.out i (by rw [hl];exact hi)).1) dst hd
    replace kd:=kd 9 Tryz.underlying9
    have he:=ah.mk (show strOfNums (B.ji a0.size (B.numsOf a0)) = B.gU a0 by
     have:=B.Bg (B.numsOf a0)
     rw [hz.out] at this
     rw [this];rfl)
    generalize strOfNums (B.ji a0.size (B.numsOf a0)) = q at kd he
    clear hrow hl hlt
    have he':=he.out
    clear he
    subst he'
    go_wp2
    go_ret
    exact ⟨rfl,by rw [hg'.out];exact hbel.out⟩
 ·rw [ai9 hs] at h
  exact absurd h (by simp)
def gM.f (k:Nat) (a0:ByteArray):Option (ByteArray):=(aY.f k a0).bind fun t117=>(if t117 = true then ((aI.f a0).bind fun Ad=>(some Ad)) else (some (⟨#[]⟩:ByteArray)))
theorem gM.calls (k:Nat) (a0:ByteArray) (r:ByteArray) (w:World) (h:gM.f k a0 = some r) :
  Calls Tryz.prog 41 #[.string a0] w fun e w'=>e = .returned (.string r) ∧ Below w.heap.size w w':=by
 have HB:=ah.mk (Below.refl w.heap.size w)
 have H:((aY.f k a0).bind fun t117=>(if t117 = true then ((aI.f a0).bind fun Ad=>(some Ad)) else (some (⟨#[]⟩:ByteArray)))) = some r:=h
 clear h
 replace H:=zbm H
 obtain ⟨t117,Fw,H⟩:=H
 replace H:(if t117 = true then ((aI.f a0).bind fun Ad=>(some Ad)) else (some (⟨#[]⟩:ByteArray))) = some r:=H
 have A2:=ah.mk Fw
 clear Fw
 by_cases c3:t117 = true
 ·subst c3
  have H1:((aI.f a0).bind fun Ad=>(some Ad)) = some r:=by rw [ai8 rfl] at H;exact H
  clear H
  have H:=H1
  clear H1
  replace H:=zbm H
  obtain ⟨Ad,OA,H⟩:=H
  replace H:(some Ad) = some r:=H
  have A4:=ah.mk OA
  clear OA
  obtain rfl:=ajz H
  go_enter Tryz.func41,Tryz.ntmps41
  go_wp2_with (first | ((with_reducible refine bS (f:=42) rfl ?_);refine gJ (some 4) rfl rfl Tryz.func42 (by kernel_rfl) rfl #[.string a0] rfl (by (try simp only [ajG,ajk,ajn]) <;> rfl) ?_;(with_reducible refine (aY.calls k a0 true _ A2.out).mono ?_);rintro e w5 ⟨rfl,hb⟩;refine ⟨_,rfl,?_⟩;have fM:=ah.mk (bL (by repeat first | exact HB.out | apply ak | apply aj | apply au) hb);clear HB;have HB:=fM;clear fM;(try clear hb);(try clear hb2);(try clear hk);(try clear hi)) | ((with_reducible refine bS (f:=76) rfl ?_);refine gJ (some 7) rfl rfl Tryz.func76 (by kernel_rfl) rfl #[.string a0] rfl (by (try simp only [ajG,ajk,ajn]) <;> rfl) ?_;(with_reducible refine (aI.calls a0 Ad _ A4.out).mono ?_);rintro e w6 ⟨rfl,hb⟩;refine ⟨_,rfl,?_⟩;have fM:=ah.mk (bL (by repeat first | exact HB.out | apply ak | apply aj | apply au) hb);clear HB;have HB:=fM;clear fM;(try clear hb);(try clear hb2);(try clear hk);(try clear hi)))
  go_ret
  exact ⟨by first | rfl | (simp [aJ,aK] <;> rfl) | (simp [*,aJ,aK] <;> rfl),by repeat (first | exact HB.out | apply ak | apply aj | apply au)⟩
 ·replace c3:=ajP.mpr c3
  subst c3
  have H1:(some (⟨#[]⟩:ByteArray)) = some r:=by rw [ai9 (show ¬ (false = true) by decide)] at H;exact H
  clear H
  have H:=H1
  clear H1
  obtain rfl:=ajz H
  go_enter Tryz.func41,Tryz.ntmps41
  go_wp2_with (first | ((with_reducible refine bS (f:=42) rfl ?_);refine gJ (some 4) rfl rfl Tryz.func42 (by kernel_rfl) rfl #[.string a0] rfl (by (try simp only [ajG,ajk,ajn]) <;> rfl) ?_;(with_reducible refine (aY.calls k a0 false _ A2.out).mono ?_);rintro e w7 ⟨rfl,hb⟩;refine ⟨_,rfl,?_⟩;have fM:=ah.mk (bL (by repeat first | exact HB.out | apply ak | apply aj | apply au) hb);clear HB;have HB:=fM;clear fM;(try clear hb);(try clear hb2);(try clear hk);(try clear hi)))
  go_ret
  exact ⟨by first | rfl | (simp [aJ,aK] <;> rfl) | (simp [*,aJ,aK] <;> rfl),by repeat (first | exact HB.out | apply ak | apply aj | apply au)⟩
def aU.g : List ByteArray → ByteArray → ByteArray × Bool
 | [],s=>if 255 < s.size + 1 then (⟨#[]⟩,false) else (s ++ (⟨#[0]⟩:ByteArray),true)
 | x :: l,s=>if x.size < 1 ∨ 63 < x.size ∨ 255 < s.size then (⟨#[]⟩,false) else aU.g l (s ++ strOfNums [((x.size:Int)) % 256] ++ x)
def aU.f (l0:List ByteArray):Option (ByteArray × Bool):=some (aU.g l0 ⟨#[]⟩)
theorem aU.conv (g:Nat) (b:Int) (W:World) (hc:W.cell? ⟨g,0,none⟩ = some (.int .u8 b)) :
  (convert 189 9 (.slice (some ⟨g,0,none⟩) 1 1)).run Tryz.prog W = .ok (.string (strOfNums [b])) W:=by
 refine run_convert_bytes_arg (P:=Tryz.prog) W 189 5 Tryz.underlying189 Tryz.underlying5 g 0 1 1 [b] rfl (fun i hi=>?_) 9 Tryz.underlying9
 obtain rfl:i = 0:=by omega
 exact hc
theorem aU.Dp {w wr:World} (h:Below w.heap.size w wr) (o:Obj):Below w.heap.size w (wr.alloc o):=h.alloc h.size o
theorem aU.calls (A0:Option Addr) (c0:Nat) (l0:List ByteArray) (r1:ByteArray) (r2:Bool) (w:World) (hr0:Kd.C Kd.string w A0 l0.length l0) (hc0:l0.length ≤ c0) (h:aU.f l0 = some (r1,r2)) :
  Calls Tryz.prog 80 #[.slice A0 l0.length c0] w fun e w'=>e = .returned (.tuple #[.string r1,.bool r2]) ∧ Below w.heap.size w w':=by
 have HR:=ah.mk hr0
 have HH:=ah.mk (ajz h)
 have HM:=ah.mk (Kd.UE hr0)
 clear hr0 hc0 h
 go_enter Tryz.func80,Tryz.ntmps80
 go_wp2
 go_loopw [4,5] (fun v4 v5 wr=>∃ (s:ByteArray) (j:Nat),v4 = .string s ∧ v5 = .int .i64 j ∧ j ≤ l0.length ∧ ah (s.size ≤ 400) ∧ ah (aU.g (l0.drop j) s = (r1,r2)) ∧ ah (Below w.heap.size w wr)) (fun _ v5 _=>l0.length - (intOf v5).toNat)
 case atStart=>exact ⟨_,0,rfl,rfl,ajO _,⟨by decide⟩,⟨HH.out⟩,⟨Below.refl _ _⟩⟩
 case round =>
  clear HH
  obtain ⟨s,j,rfl,rfl,hj,hs,hg,hb⟩:=hrel
  have hm:=HM.out
  by_cases hlt:j < l0.length
  ·obtain ⟨ad,e0,hx⟩:=Kd.Kt HR.out (j:Int) (by omega) (by omega)
   cases e0
   have hbl:=World.block_lt_of_cell? w _ hx
   replace hx:=(hb.out.cell hbl).trans hx
   have hg':=hg.out
   rw [akC hlt] at hg'
   have hxe:zY ByteArray.empty l0 (j:Int) = l0[j]:=by
    unfold zY
    rw [show ((j:Int)).toNat = j from by omega,ajy,ajo hlt]
    rfl
   rw [hxe,Int.toNat_natCast] at hx
   generalize l0[j] = x at hx hg'
   clear hxe hg
   simp only [aU.g] at hg'
   have p0:(0 ≤ (j:Int)) = True:=ajj (by omega)
   have q0:((j:Int) < (l0.length:Int)) = True:=ajj (by omega)
   by_cases h1:x.size < 1
   ·rw [ai8 (.inl h1)] at hg'
    simp only [ajm] at hg'
    obtain ⟨rfl,rfl⟩:=hg'
    have d1:decide (x.size < 1) = true:=aja h1
    have d1':decide ((x.size:Int) < 1) = true:=aja (by omega)
    clear h1
    go_wp2
    go_ret2
    exact ⟨rfl,hb.out⟩
   ·have d1:decide (x.size < 1) = false:=ajc h1
    have d1':decide ((x.size:Int) < 1) = false:=ajc (by omega)
    by_cases h2:63 < x.size
    ·rw [ai8 (.inr (.inl h2))] at hg'
     simp only [ajm] at hg'
     obtain ⟨rfl,rfl⟩:=hg'
     have d2:decide (63 < x.size) = true:=aja h2
     have d2':decide (63 < (x.size:Int)) = true:=aja (by omega)
     clear h1 h2
     go_wp2
     go_ret2
     exact ⟨rfl,hb.out⟩
    ·have d2:decide (63 < x.size) = false:=ajc h2
     have d2':decide (63 < (x.size:Int)) = false:=ajc (by omega)
     by_cases h3:255 < s.size
     ·rw [ai8 (.inr (.inr h3))] at hg'
      simp only [ajm] at hg'
      obtain ⟨rfl,rfl⟩:=hg'
      have d3:decide (255 < s.size) = true:=aja h3
      have d3':decide (255 < (s.size:Int)) = true:=aja (by omega)
      clear h1 h2 h3
      go_wp2
      go_ret2
      exact ⟨rfl,hb.out⟩
     ·have d3:decide (255 < s.size) = false:=ajc h3
      have d3':decide (255 < (s.size:Int)) = false:=ajc (by omega)
      rw [ai9 (by omega)] at hg'
      have hg2:=ah.mk hg'
      have hss:=ah.mk (show (s ++ strOfNums [((x.size:Int)) % 256] ++ x).size ≤ 400 by rw [ajs,ajs,strOfNums_size];simp only [List.length_singleton];omega)
      have hxs:(x.size:Int) % 256 = x.size:=by omega
      rw [hxs] at hg2 hss
      have hy1:(strOfNums [(x.size:Int)]).size = 1:=by rw [strOfNums_size];rfl
      have hlt2:=ah.mk hlt
      have hbd:=ah.mk (show s.size ≤ 255 ∧ x.size ≤ 63 by omega)
      clear h1 h2 h3 hg' hs
      have abN:(ad.add j).block < wr.heap.size:=by
       have h1:=World.block_lt_of_cell? wr _ hx
       exact h1
      have hxa:∀ o,(wr.alloc o).cell? (ad.add j) = some (.string x):=fun o=>(World.cell?_alloc_lt wr o _ abN).trans hx
      have hcv:(convert 189 9 (.slice (some ⟨wr.heap.size,0,none⟩) 1 1)).run Tryz.prog (wr.alloc (.cells #[.int .u8 x.size] 5)) = .ok (.string (strOfNums [(x.size:Int)])) (wr.alloc (.cells #[.int .u8 x.size] 5)) :=
       aU.conv wr.heap.size x.size (wr.alloc (.cells #[.int .u8 x.size] 5)) (by rw [Lib.cell_of_heap (heap_alloc_new wr _)];rfl)
      have hw8:IntKind.u8.wrap (x.size:Int) = x.size:=by rw [IntKind.wrap_u8];exact hxs
      have agu:(convert 189 9 (.slice (some ⟨wr.heap.size,0,none⟩) 1 1)).run Tryz.prog (wr.alloc (.cells #[.int .u8 x.size] 5)).drew = .ok (.string (strOfNums [(x.size:Int)])) (wr.alloc (.cells #[.int .u8 x.size] 5)).drew :=
       aU.conv wr.heap.size x.size (wr.alloc (.cells #[.int .u8 x.size] 5)).drew (by rw [show ((wr.alloc (.cells #[.int .u8 x.size] 5)).drew.cell? ⟨wr.heap.size,0,none⟩) = (wr.alloc (.cells #[.int .u8 x.size] 5)).cell? ⟨wr.heap.size,0,none⟩ from rfl,Lib.cell_of_heap (heap_alloc_new wr _)];rfl)
      generalize strOfNums [(x.size:Int)] = y at *
      have n1:s.size + y.size ≤ 9223372036854775807:=by have:=hbd.out;omega
      have n1':=ajj n1
      have n2:s.size + y.size + x.size ≤ 9223372036854775807:=by have:=hbd.out;omega
      have n2':=ajj n2
      have n3:(9223372036854775807 < s.size + y.size) = False:=eq_false (by omega)
      have n4:(9223372036854775807 < s.size + y.size + x.size) = False:=eq_false (by omega)
      clear hbl abN hxs hy1 n1 n2
      go_wp2
      go_region
      all_goals
       clear hx hxa hcv agu hw8 p0 q0
       go_wp2
       go_roundw
       case rel=>exact ⟨_,j + 1,rfl,by go_num,hlt2.out,hss,hg2,⟨iL (aU.Dp hb.out _)⟩⟩
       case measure=>have:=hlt2.out;simp [intOf];omega
  ·obtain rfl:j = l0.length:=by omega
   have hg':=hg.out
   rw [List.drop_length] at hg'
   simp only [aU.g] at hg'
   have q0:((l0.length:Int) < (l0.length:Int)) = False:=eq_false (by omega)
   have hs':=hs.out
   have n1:s.size + 1 ≤ 9223372036854775807:=by omega
   by_cases h1:255 < s.size + 1
   ·rw [ai8 h1] at hg'
    simp only [ajm] at hg'
    obtain ⟨rfl,rfl⟩:=hg'
    have d1:decide (255 < s.size + 1) = true:=aja h1
    have d1':decide (255 < (s.size:Int) + 1) = true:=aja (by omega)
    clear h1 hg
    go_wp2
    go_ret2
    exact ⟨rfl,hb.out⟩
   ·rw [ai9 h1] at hg'
    simp only [ajm] at hg'
    obtain ⟨rfl,rfl⟩:=hg'
    have d1:decide (255 < s.size + 1) = false:=ajc h1
    have d1':decide (255 < (s.size:Int) + 1) = false:=ajc (by omega)
    clear h1 hg
    go_wp2
    go_ret2
    exact ⟨rfl,hb.out⟩
def iw.f (k:Nat) (a0:ByteArray):Option (ByteArray × Bool):=(aC.f k a0).bind fun uE=>(if uE.2 = true then (if (uE.1.length:Int) = 0 then (some ((⟨#[]⟩:ByteArray),false)) else (if 1 ≤ (uE.1.length:Int) then ((aU.f (uE.1.drop 1)).bind fun nP=>(some (nP.1,nP.2))) else (none))) else (some ((⟨#[]⟩:ByteArray),false)))
theorem iw.calls (k:Nat) (a0:ByteArray) (r1:ByteArray) (r2:Bool) (w:World) (h:iw.f k a0 = some (r1,r2)) :
  Calls Tryz.prog 44 #[.string a0] w fun e w'=>e = .returned (.tuple #[.string r1,.bool r2]) ∧ Below w.heap.size w w':=by
 have HB:=ah.mk (Below.refl w.heap.size w)
 have H:((aC.f k a0).bind fun uE=>(if uE.2 = true then (if (uE.1.length:Int) = 0 then (some ((⟨#[]⟩:ByteArray),false)) else (if 1 ≤ (uE.1.length:Int) then ((aU.f (uE.1.drop 1)).bind fun nP=>(some (nP.1,nP.2))) else (none))) else (some ((⟨#[]⟩:ByteArray),false)))) = some (r1,r2):=h
 clear h
 replace H:=zbm H
 obtain ⟨⟨lQ,t203⟩,Fw,H⟩:=H
 replace H:(if t203 = true then (if (lQ.length:Int) = 0 then (some ((⟨#[]⟩:ByteArray),false)) else (if 1 ≤ (lQ.length:Int) then ((aU.f (lQ.drop 1)).bind fun nP=>(some (nP.1,nP.2))) else (none))) else (some ((⟨#[]⟩:ByteArray),false))) = some (r1,r2):=H
 have A2:=ah.mk Fw
 clear Fw
 by_cases c3:t203 = true
 ·subst c3
  have H1:(if (lQ.length:Int) = 0 then (some ((⟨#[]⟩:ByteArray),false)) else (if 1 ≤ (lQ.length:Int) then ((aU.f (lQ.drop 1)).bind fun nP=>(some (nP.1,nP.2))) else (none))) = some (r1,r2):=by rw [ai8 rfl] at H;exact H
  clear H
  have H:=H1
  clear H1
  by_cases c4:(lQ.length:Int) = 0
  ·rw [ai8 c4] at H
   have yZ:((lQ.length:Int) == 0) = true:=ajI.mpr c4
   have Hl:((lQ.length:Int) != 0) = false:=akz.mpr c4
   clear c4
   simp only [ajl,ajm] at H
   obtain ⟨rfl,rfl⟩:=H
   go_enter Tryz.func44,Tryz.ntmps44
   go_wp2_with (first | ((with_reducible refine bS (f:=77) rfl ?_);refine gJ (some 8) rfl rfl Tryz.func77 (by kernel_rfl) rfl #[.string a0] rfl (by (try simp only [ajG,ajk,ajn]) <;> rfl) ?_;(with_reducible refine (aC.calls k a0 lQ true _ A2.out).mono ?_);rintro e w5 ⟨abO,rfl,ho0,hb⟩;refine ⟨_,rfl,?_⟩;have fM:=ah.mk (Kd.nM ho0 (dB (by repeat first | exact HB.out | apply ak | apply aj | apply au)));have jJ:=ah.mk (bL (by repeat first | exact HB.out | apply ak | apply aj | apply au) hb);clear HB;have uF:=fM;have HB:=jJ;clear fM jJ;(try clear hb);(try clear hb2);(try clear hk);(try clear hi);(try clear ho0);obtain ⟨Ao6,co6,eo6⟩:=Kd.um uF.out;subst eo6))
   go_ret2
   exact ⟨by first | rfl | (simp [aJ,aK] <;> rfl) | (simp [*,aJ,aK] <;> rfl),by repeat (first | exact HB.out | apply ak | apply aj | apply au)⟩
  ·rw [ai9 c4] at H
   have yZ:((lQ.length:Int) == 0) = false:=aj7.mpr c4
   have Hl:((lQ.length:Int) != 0) = true:=aki.mpr c4
   have Xy:¬ (lQ = []):=fun h_=>c4 (by rw [h_];rfl)
   by_cases c7:1 ≤ (lQ.length:Int)
   ·rw [ai8 c7] at H
    have abP:=ajj c7
    have abQ:decide (1 ≤ (lQ.length:Int)) = true:=aja c7
    clear c7
    obtain ⟨FB,FD⟩:∃ y_:List ByteArray,y_ = (lQ.drop 1):=⟨_,rfl⟩
    replace H:((aU.f FB).bind fun nP=>(some (nP.1,nP.2))) = some (r1,r2):=by first | (rw [FD];with_reducible exact H) | (have Hr:=(Option.bind_some _ _).symm.trans H;rw [FD];with_reducible exact Hr) | (have Hr:=(Option.bind_some _ _).symm.trans H;with_reducible exact Hr) | with_reducible exact H | (rw [FD];exact H) | exact H
    have UU:=ah.mk FD
    clear FD
    replace H:=zbm H
    obtain ⟨⟨t210,abR⟩,A80,H⟩:=H
    replace H:(some (t210,abR)) = some (r1,r2):=H
    have A8:=ah.mk A80
    clear A80
    simp only [ajl,ajm] at H
    obtain ⟨rfl,rfl⟩:=H
    go_enter Tryz.func44,Tryz.ntmps44
    go_wp2_with (first | ((with_reducible refine bS (f:=77) rfl ?_);refine gJ (some 8) rfl rfl Tryz.func77 (by kernel_rfl) rfl #[.string a0] rfl (by (try simp only [ajG,ajk,ajn]) <;> rfl) ?_;(with_reducible refine (aC.calls k a0 lQ true _ A2.out).mono ?_);rintro e w9 ⟨abO,rfl,ho0,hb⟩;refine ⟨_,rfl,?_⟩;have fM:=ah.mk (Kd.nM ho0 (dB (by repeat first | exact HB.out | apply ak | apply aj | apply au)));have jJ:=ah.mk (bL (by repeat first | exact HB.out | apply ak | apply aj | apply au) hb);clear HB;have uF:=fM;have HB:=jJ;clear fM jJ;(try clear hb);(try clear hb2);(try clear hk);(try clear hi);(try clear ho0);obtain ⟨Sd,OE,agv⟩:=Kd.um uF.out;subst agv;have q11:(1:Int) ≤ ((lQ.length:Int):Int):=ajw (by first | (with_reducible assumption) | assumption);obtain ⟨aiX,UW,_,UY,_⟩:=info_parts Jj;have Dq:lQ.length ≤ OE:=(Kd.qp uF.out).2.1;have abS:Kd.C Kd.string _ Sd lQ.length lQ:=(Kd.qp uF.out).2.2;have Xz:=Oi (P:=Tryz.prog) 40 9 .i64 Tryz.underlying40 UW 1 UY Sd lQ.length OE 1 (by omega) q11;have OG:=Kd.Xt (m:=(1:Int).toNat) (c:=OE) abS (by omega) Dq;obtain ⟨A11,Sg⟩:∃ A1,A1 = (if OE = (1:Int).toNat then Sd else (Sd:Option Addr).map (·.add ((1:Int).toNat * 1))):=⟨_,rfl⟩;obtain ⟨c11,XA⟩:∃ c1,c1 = OE - (1:Int).toNat:=⟨_,rfl⟩;have Si:FB.length = lQ.length - (1:Int).toNat:=(by rw [UU.out,ajA] <;> omega);rw [show (lQ).drop (1:Int).toNat = FB from UU.out.symm] at OG;replace OG:Kd.C Kd.string _ A11 FB.length FB:=(by rw [Sg];exact OG);rw [← Si,← Sg,← XA] at Xz;have Bp:=ah.mk OG;have abT:=ah.mk (show FB.length ≤ c11 from by rw [Si,XA];exact Nat.sub_le_sub_right Dq _);clear OG abS Dq UW UY XA;have aiY:=ah.mk Si;have aiZ:=ah.mk Sg;clear Si Sg;have ai0:=ah.mk (show 1 ≤ lQ.length from by omega);replace q11:=ajj q11) | ((with_reducible refine bS (f:=80) rfl ?_);refine gJ (some 20) rfl rfl Tryz.func80 (by kernel_rfl) rfl #[.slice A11 FB.length c11] rfl (by (try simp only [ajG,ajk,ajn]);first | done | rfl | (simp only [ajA,ajq];rfl) | (simp only [ajs,Int.natCast_add];rfl) | (rw [B.jQ] <;> first | rfl | omega | (simp only [ajZ,ajt,Int.not_lt,Nat.not_lt,gt_iff_lt] at * <;> omega))) ?_;(with_reducible refine (aU.calls _ _ FB t210 abR _ ?abU ?abV A8.out).mono ?_);(case abU=>repeat (first | exact (by repeat (first | (with_reducible exact Bp.out) | (with_reducible refine Kd.C9 ?_ _) | (with_reducible refine Kd.Da ?_ _) | (with_reducible refine Kd.G8 ?_) | exact Bp.out)) | (with_reducible refine Kd.C9 ?_ _) | (with_reducible refine Kd.Da ?_ _) | (with_reducible refine Kd.G8 ?_)));(case abV=>exact abT.out);rintro e w12 ⟨rfl,hb⟩;refine ⟨_,rfl,?_⟩;have fM:=ah.mk (Kd.lD (by (with_reducible repeat (first | apply Kd.gq | apply Kd.gT | apply Kd.iq));exact uF.out) hb);have jJ:=ah.mk (Kd.ug (by repeat (first | (with_reducible exact Bp.out) | (with_reducible refine Kd.C9 ?_ _) | (with_reducible refine Kd.Da ?_ _) | (with_reducible refine Kd.G8 ?_) | exact Bp.out)) hb);have nW:=ah.mk (bL (by repeat first | exact HB.out | apply ak | apply aj | apply au) hb);clear uF;clear Bp;clear HB;have uF:=fM;have Bp:=jJ;have HB:=nW;clear fM jJ nW;(try clear hb);(try clear hb2);(try clear hk);(try clear hi)))
    go_ret2
    exact ⟨by first | rfl | (simp [aJ,aK] <;> rfl) | (simp [*,aJ,aK] <;> rfl),by repeat (first | exact HB.out | apply ak | apply aj | apply au)⟩
   ·rw [ai9 c7] at H
    exact absurd H (by simp)
 ·replace c3:=ajP.mpr c3
  subst c3
  have H1:(some ((⟨#[]⟩:ByteArray),false)) = some (r1,r2):=by rw [ai9 (show ¬ (false = true) by decide)] at H;exact H
  clear H
  have H:=H1
  clear H1
  simp only [ajl,ajm] at H
  obtain ⟨rfl,rfl⟩:=H
  go_enter Tryz.func44,Tryz.ntmps44
  go_wp2_with (first | ((with_reducible refine bS (f:=77) rfl ?_);refine gJ (some 8) rfl rfl Tryz.func77 (by kernel_rfl) rfl #[.string a0] rfl (by (try simp only [ajG,ajk,ajn]) <;> rfl) ?_;(with_reducible refine (aC.calls k a0 lQ false _ A2.out).mono ?_);rintro e w13 ⟨abO,rfl,ho0,hb⟩;refine ⟨_,rfl,?_⟩;have fM:=ah.mk (Kd.nM ho0 (dB (by repeat first | exact HB.out | apply ak | apply aj | apply au)));have jJ:=ah.mk (bL (by repeat first | exact HB.out | apply ak | apply aj | apply au) hb);clear HB;have uF:=fM;have HB:=jJ;clear fM jJ;(try clear hb);(try clear hb2);(try clear hk);(try clear hi);(try clear ho0)))
  go_ret2
  exact ⟨by first | rfl | (simp [aJ,aK] <;> rfl) | (simp [*,aJ,aK] <;> rfl),by repeat (first | exact HB.out | apply ak | apply aj | apply au)⟩
def gG.f (k:Nat) (a0:ByteArray) (a1:ByteArray):Option (Bool):=(aY.f k a0).bind fun t212=>(if t212 = true then ((aY.f k a1).bind fun t213=>(if t213 = true then ((aI.f a0).bind fun sw=>((aI.f a1).bind fun qZ=>(some (sw.toList == qZ.toList)))) else (some false))) else (some false))
theorem gG.calls (k:Nat) (a0:ByteArray) (a1:ByteArray) (r:Bool) (w:World) (h:gG.f k a0 a1 = some r) :
  Calls Tryz.prog 75 #[.string a0,.string a1] w fun e w'=>e = .returned (.bool r) ∧ Below w.heap.size w w':=by
 have HB:=ah.mk (Below.refl w.heap.size w)
 have H:((aY.f k a0).bind fun t212=>(if t212 = true then ((aY.f k a1).bind fun t213=>(if t213 = true then ((aI.f a0).bind fun sw=>((aI.f a1).bind fun qZ=>(some (sw.toList == qZ.toList)))) else (some false))) else (some false))) = some r:=h
 clear h
 replace H:=zbm H
 obtain ⟨t212,A30,H⟩:=H
 replace H:(if t212 = true then ((aY.f k a1).bind fun t213=>(if t213 = true then ((aI.f a0).bind fun sw=>((aI.f a1).bind fun qZ=>(some (sw.toList == qZ.toList)))) else (some false))) else (some false)) = some r:=H
 have A3:=ah.mk A30
 clear A30
 by_cases c4:t212 = true
 ·subst c4
  have H1:((aY.f k a1).bind fun t213=>(if t213 = true then ((aI.f a0).bind fun sw=>((aI.f a1).bind fun qZ=>(some (sw.toList == qZ.toList)))) else (some false))) = some r:=by rw [ai8 rfl] at H;exact H
  clear H
  have H:=H1
  clear H1
  replace H:=zbm H
  obtain ⟨t213,A50,H⟩:=H
  replace H:(if t213 = true then ((aI.f a0).bind fun sw=>((aI.f a1).bind fun qZ=>(some (sw.toList == qZ.toList)))) else (some false)) = some r:=H
  have A5:=ah.mk A50
  clear A50
  by_cases c6:t213 = true
  ·subst c6
   have H1:((aI.f a0).bind fun sw=>((aI.f a1).bind fun qZ=>(some (sw.toList == qZ.toList)))) = some r:=by rw [ai8 rfl] at H;exact H
   clear H
   have H:=H1
   clear H1
   replace H:=zbm H
   obtain ⟨sw,A70,H⟩:=H
   replace H:((aI.f a1).bind fun qZ=>(some (sw.toList == qZ.toList))) = some r:=H
   have A7:=ah.mk A70
   clear A70
   replace H:=zbm H
   obtain ⟨qZ,A80,H⟩:=H
   replace H:(some (sw.toList == qZ.toList)) = some r:=H
   have A8:=ah.mk A80
   clear A80
   obtain rfl:=ajz H
   go_enter Tryz.func75,Tryz.ntmps75
   go_wp2_with (first | ((with_reducible refine bS (f:=42) rfl ?_);refine gJ (some 6) rfl rfl Tryz.func42 (by kernel_rfl) rfl #[.string a0] rfl (by (try simp only [ajG,ajk,ajn]) <;> rfl) ?_;(with_reducible refine (aY.calls k a0 true _ A3.out).mono ?_);rintro e w9 ⟨rfl,hb⟩;refine ⟨_,rfl,?_⟩;have fM:=ah.mk (bL (by repeat first | exact HB.out | apply ak | apply aj | apply au) hb);clear HB;have HB:=fM;clear fM;(try clear hb);(try clear hb2);(try clear hk);(try clear hi)) | (go_at_call 42;(with_reducible refine (aY.calls k a1 true _ A5.out).mono ?_);rintro e w10 ⟨rfl,hb⟩;have fM:=ah.mk (bL (by repeat first | exact HB.out | apply ak | apply aj | apply au) hb);clear HB;have HB:=fM;clear fM;(try clear hb);(try clear hb2);(try clear hk);(try clear hi)) | (go_at_call 76;(with_reducible refine (aI.calls a0 sw _ A7.out).mono ?_);rintro e UR ⟨rfl,hb⟩;have fM:=ah.mk (bL (by repeat first | exact HB.out | apply ak | apply aj | apply au) hb);clear HB;have HB:=fM;clear fM;(try clear hb);(try clear hb2);(try clear hk);(try clear hi)) | (go_at_call 76;(with_reducible refine (aI.calls a1 qZ _ A8.out).mono ?_);rintro e w12 ⟨rfl,hb⟩;have fM:=ah.mk (bL (by repeat first | exact HB.out | apply ak | apply aj | apply au) hb);clear HB;have HB:=fM;clear fM;(try clear hb);(try clear hb2);(try clear hk);(try clear hi)))
   go_ret
   exact ⟨by first | rfl | (simp [aJ,aK] <;> rfl) | (simp [*,aJ,aK] <;> rfl),by repeat (first | exact HB.out | apply ak | apply aj | apply au)⟩
  ·replace c6:=ajP.mpr c6
   subst c6
   have H1:(some false) = some r:=by rw [ai9 (show ¬ (false = true) by decide)] at H;exact H
   clear H
   have H:=H1
   clear H1
   obtain rfl:=ajz H
   go_enter Tryz.func75,Tryz.ntmps75
   go_wp2_with (first | ((with_reducible refine bS (f:=42) rfl ?_);refine gJ (some 6) rfl rfl Tryz.func42 (by kernel_rfl) rfl #[.string a0] rfl (by (try simp only [ajG,ajk,ajn]) <;> rfl) ?_;(with_reducible refine (aY.calls k a0 true _ A3.out).mono ?_);rintro e w13 ⟨rfl,hb⟩;refine ⟨_,rfl,?_⟩;have fM:=ah.mk (bL (by repeat first | exact HB.out | apply ak | apply aj | apply au) hb);clear HB;have HB:=fM;clear fM;(try clear hb);(try clear hb2);(try clear hk);(try clear hi)) | (go_at_call 42;(with_reducible refine (aY.calls k a1 false _ A5.out).mono ?_);rintro e w14 ⟨rfl,hb⟩;have fM:=ah.mk (bL (by repeat first | exact HB.out | apply ak | apply aj | apply au) hb);clear HB;have HB:=fM;clear fM;(try clear hb);(try clear hb2);(try clear hk);(try clear hi)))
   go_ret
   exact ⟨by first | rfl | (simp [aJ,aK] <;> rfl) | (simp [*,aJ,aK] <;> rfl),by repeat (first | exact HB.out | apply ak | apply aj | apply au)⟩
 ·replace c4:=ajP.mpr c4
  subst c4
  have H1:(some false) = some r:=by rw [ai9 (show ¬ (false = true) by decide)] at H;exact H
  clear H
  have H:=H1
  clear H1
  obtain rfl:=ajz H
  go_enter Tryz.func75,Tryz.ntmps75
  go_wp2_with (first | ((with_reducible refine bS (f:=42) rfl ?_);refine gJ (some 6) rfl rfl Tryz.func42 (by kernel_rfl) rfl #[.string a0] rfl (by (try simp only [ajG,ajk,ajn]) <;> rfl) ?_;(with_reducible refine (aY.calls k a0 false _ A3.out).mono ?_);rintro e w15 ⟨rfl,hb⟩;refine ⟨_,rfl,?_⟩;have fM:=ah.mk (bL (by repeat first | exact HB.out | apply ak | apply aj | apply au) hb);clear HB;have HB:=fM;clear fM;(try clear hb);(try clear hb2);(try clear hk);(try clear hi)))
  go_ret
  exact ⟨by first | rfl | (simp [aJ,aK] <;> rfl) | (simp [*,aJ,aK] <;> rfl),by repeat (first | exact HB.out | apply ak | apply aj | apply au)⟩
end
section
open Go.RowKit Go.Proofs.YtfokaoeinpnagaaGreatW.aX Go.Proofs.YtfokaoeinpnagaaGreatW.dL Go.Proofs.YtfokaoeinpnagaaGreatW.eO Go.Proofs.YtfokaoeinpnagaaGreat.B
theorem kE {n:ByteArray}:n.toList = ([0]:List UInt8) ↔ n = root:=by
 have:root.toList = ([0]:List UInt8):=by rw [Lib.toList_data];rfl
 rw [← this,toList_inj]
theorem OH (d:Nat):∀ (k:Nat) (n:ByteArray) (acc:List ByteArray),n.size ≤ d → 1 ≤ n.size → d ≤ 255 → acc.length + d ≤ 1000 → 2 * d + 2 ≤ k →
  bH.l0 k n acc = some (match jZ n.size n with | some l=>(acc ++ l,true) | none=>([],false)):=by
 induction d with
 | zero=>intro k n acc h1 h2;omega
 | succ d ih =>
  intro k n acc h1 h2 h3 h4 hk
  obtain ⟨k,rfl⟩:∃ m,k = m + 2:=⟨k - 2,by omega⟩
  rw [bH.l0,ai8 (by omega),bH.j1,yT h2]
  by_cases hr:n = root
  ·have hb:(n.toList != ([0]:List UInt8)) = false:=akz.mpr (kE.mpr hr)
   have hb2:(n.toList == ([0]:List UInt8)) = true:=ajI.mpr (kE.mpr hr)
   rw [hb,ai9 aj6,ai8 hr,hb2]
   simp
  ·have hb:(n.toList != ([0]:List UInt8)) = true:=aki.mpr fun h=>hr (kE.mp h)
   have hbr:=gK n 0
   rw [hb,ai8 rfl,ai8 (by omega),ai9 hr,jQ (n:=bt n 0) (by omega) (by omega),jQ (n:=bt n 0 + 1) (by omega) (by omega),jQ (n:=1 + bt n 0) (by omega) (by omega)]
   by_cases c1:bt n 0 < 1
   ·rw [ai8 c1,ai9 (by omega)]
   ·rw [ai9 c1]
    by_cases c2:bt n 0 > 63
    ·rw [ai8 c2,ai9 (by omega)]
    ·rw [ai9 c2]
     by_cases c3:bt n 0 + 1 ≥ (n.size:Int)
     ·rw [ai8 c3,ai9 (by omega)]
     ·rw [ai9 c3,ai8 (by omega),ai8 (by omega),ai8 (by omega),ai8 (by omega),ai8 (by omega)]
      have e:(1 + bt n 0).toNat = 1 + (bt n 0).toNat:=by omega
      rw [e,ih k _ _ (by rw [ajJ];omega) (by rw [ajJ];omega) (by omega) (by simp;omega) (by omega)]
      cases jZ (n.extract (1 + (bt n 0).toNat) n.size).size (n.extract (1 + (bt n 0).toNat) n.size) with
      | none=>rfl
      | some l=>simp
def Dr (n:ByteArray):List ByteArray × Bool:=match qX n with | some l=>(l,true) | none=>([],false)
theorem OI (k:Nat) (hk:600 ≤ k) (n:ByteArray) (hs:n.size ≤ 1000000000):bH.f k n = some (Dr n):=by
 unfold bH.f Dr qX
 by_cases h:n.size ≤ 255
 ·rw [ai9 (by omega),ai8 h]
  by_cases h0:n.size = 0
  ·obtain ⟨k,rfl⟩:∃ m,k = m + 2:=⟨k - 2,by omega⟩
   have hb2:(n.toList == ([0]:List UInt8)) = false:=aj7.mpr fun h=>by rw [kE] at h;rw [h,iQ] at h0;omega
   rw [bH.l0,ai9 (by omega),bH.j1,ai9 aj6,hb2,jZ,ai8 h0]
  ·rw [OH 255 k n [] h (by omega) (by omega) (by simp) (by omega),yS 255 n h]
   simp
 ·rw [ai8 (by omega),ai9 h]
theorem Hu (n:ByteArray):(Dr n).2 = gN n:=by
 unfold Dr gN
 cases qX n <;> rfl
theorem y7 (k:Nat) (hk:600 ≤ k) (n:ByteArray) (hs:n.size ≤ 1000000000):fQ.f k n = some (gN n):=by
 unfold fQ.f
 rw [OI k hk n hs]
 simp only [Option.bind_some,Hu]
theorem abW (k:Nat) (hk:600 ≤ k) (n:ByteArray) (hs:n.size ≤ 1000000000):uD.f k n = some (up n):=by
 unfold uD.f
 rw [y7 k hk n hs]
 simp only [Option.bind_some]
 cases hn:gN n with
 | false=>rw [ai9 aj6,Ow hn]
 | true =>
  rw [ai8 rfl]
  obtain ⟨l,rfl,hok,hz⟩:=lH.mp hn
  cases l with
  | nil=>rw [kP,ai8 (kE.mpr rfl),Di]
  | cons x l =>
   have hx:=hok x (by simp)
   have hr:=wm x l hx
   rw [ai9 (fun h=>hr (kE.mp h)),yU hok hz]
   obtain ⟨hx1,hx2⟩:=hx
   rw [jE] at hz ⊢
   rw [jF] at hz
   have h1:=l8 l
   rw [Ov (by omega),jF,ai8 (by omega),jQ (n:=(x.size:Int)) (by omega) (by omega),jQ (n:=1 + (x.size:Int)) (by omega) (by omega),ai8 (by omega),ai8 (by omega)]
   have e:(1 + (x.size:Int)).toNat = 1 + x.size:=by omega
   have hc:=@Fp (x.size:Int) x (enc l)
   rw [jF] at hc
   rw [e,hc]
theorem XB (n:ByteArray) (hs:n.size ≤ 1000000000):jk.f n = some (gU n):=by unfold jk.f;rw [ai8 (by omega)]
theorem y8 (n:ByteArray) (hs:n.size ≤ 1000000000):aI.f n = some (gU n):=by unfold aI.f;rw [ai8 (by omega)]
theorem y9 (a b:ByteArray):(a.toList == b.toList) = decide (a = b):=by
 rw [Bool.eq_iff_iff]
 simp only [ajI,ajt]
 exact toList_inj
theorem OJ (n:ByteArray):n.extract 0 n.size = n:=ak3
theorem KL (d:Nat):∀ (k:Nat) (n:ByteArray) (i:Nat) (acc:List ByteArray),i < n.size → n.size - i ≤ d → n.size ≤ 255 → acc.length + d ≤ 1000 → d + 2 ≤ k →
  ∃ o,aC.l0 k n acc i = some o ∧ (match jZ (n.extract i n.size).size (n.extract i n.size) with | some l=>o = (acc ++ l,true) | none=>o.2 = false):=by
 induction d with
 | zero=>intro k n i acc h1 h2;omega
 | succ d ih =>
  intro k n i acc h1 h2 h3 h4 hk
  obtain ⟨k,rfl⟩:∃ m,k = m + 1:=⟨k - 1,by omega⟩
  have hz:(n.extract i n.size).size = n.size - i:=by rw [ajJ];omega
  have hb:bt (n.extract i n.size) 0 = bt n i:=by
   rw [mY (by omega) (by rw [hz];omega)]
   congr 1
  have hbr:=gK n i
  rw [aC.l0,ai8 (by omega),ai8 (by omega),yT (by rw [hz];omega),hb,jQ (n:=bt n i) (by omega) (by omega)]
  by_cases c0:bt n i = 0
  ·rw [ai8 c0]
   refine ⟨_,rfl,?_⟩
   by_cases hr:n.extract i n.size = root
   ·have h5:=ajC ByteArray.size hr
    rw [hz,iQ] at h5
    rw [ai8 hr,jQ (by omega) (by omega)]
    have:(i:Int) = (n.size:Int) - 1:=by omega
    simp [this]
   ·have h5:n.size - i ≠ 1:=by
     intro h6
     refine hr (Dg (by rw [hz,iQ];exact h6) fun j j0 j1=>?_)
     rw [hz] at j1
     have:j = 0:=by omega
     subst this
     rw [hb,c0,Dh]
    rw [ai9 hr,ai9 (by omega),jQ (by omega) (by omega)]
    simp
    omega
  ·have hr:n.extract i n.size ≠ root:=by
    intro h5
    rw [h5,Dh] at hb
    exact c0 hb.symm
   rw [ai9 c0,ai9 hr]
   by_cases c2:bt n i > 63
   ·rw [ai8 c2,ai9 (by omega)]
    exact ⟨_,rfl,rfl⟩
   ·rw [ai9 c2,jQ (n:=(n.size:Int) - i) (by omega) (by omega)]
    by_cases c3:bt n i ≥ (n.size:Int) - i
    ·rw [ai8 c3,ai9 (by rw [hz];omega)]
     exact ⟨_,rfl,rfl⟩
    ·rw [ai9 c3,jQ (n:=(i:Int) + 1) (by omega) (by omega),jQ (n:=(i:Int) + 1 + bt n i) (by omega) (by omega),ai8 (by omega),ai8 (by omega),ai8 (by omega),ai8 (by omega)]
     have e:((i:Int) + 1 + bt n i) = ((i + 1 + (bt n i).toNat:Nat):Int):=by omega
     have e1:((i:Int) + 1).toNat = i + 1:=by omega
     rw [e,e1,Int.toNat_natCast]
     by_cases c4:i + 1 + (bt n i).toNat < n.size
     ·obtain ⟨o,ho,hm⟩:=ih k n (i + 1 + (bt n i).toNat) (acc ++ [n.extract (i + 1) (i + 1 + (bt n i).toNat)]) (by omega) (by omega) h3 (by simp;omega) (by omega)
      refine ⟨o,ho,?_⟩
      rw [ai8 (by rw [hz];omega)]
      have x1:(n.extract i n.size).extract 1 (1 + (bt n i).toNat) = n.extract (i + 1) (i + 1 + (bt n i).toNat):=by
       rw [ByteArray.extract_extract];congr 1;omega
      have x2:(n.extract i n.size).extract (1 + (bt n i).toNat) (n.extract i n.size).size = n.extract (i + 1 + (bt n i).toNat) n.size:=by
       rw [hz,ByteArray.extract_extract];congr 1 <;> omega
      rw [x1,x2]
      cases hl:jZ (n.extract (i + 1 + (bt n i).toNat) n.size).size (n.extract (i + 1 + (bt n i).toNat) n.size) with
      | none=>rw [hl] at hm;simpa using hm
      | some l=>rw [hl] at hm;simpa using hm
     ·obtain ⟨k,rfl⟩:∃ m,k = m + 1:=⟨k - 1,by omega⟩
      rw [ai9 (by rw [hz];omega),aC.l0,ai9 (by omega)]
      exact ⟨_,rfl,rfl⟩
theorem Bq (k:Nat) (hk:600 ≤ k) (n:ByteArray) (hs:n.size ≤ 1000000000) :
  ∃ o,aC.f k n = some o ∧ (match qX n with | some l=>o = (l,true) | none=>o.2 = false):=by
 obtain ⟨k,rfl⟩:∃ m,k = m + 1:=⟨k - 1,by omega⟩
 unfold aC.f qX
 by_cases h0:n.size = 0
 ·rw [ai8 (by omega),aC.j0,ai8 rfl,ai8 (by omega),jZ,ai8 h0]
  exact ⟨_,rfl,rfl⟩
 ·rw [ai9 (by omega)]
  by_cases h:n.size ≤ 255
  ·have hd:decide ((n.size:Int) > 255) = false:=ajc (by omega)
   rw [hd,aC.j0,ai9 aj6,ai8 h,yS 255 n h]
   have:=KL 255 k n 0 [] (by omega) (by omega) h (by simp) (by omega)
   rw [OJ] at this
   simpa using this
  ·have hd:decide ((n.size:Int) > 255) = true:=aja (by omega)
   rw [hd,aC.j0,ai8 rfl,ai9 h]
   exact ⟨_,rfl,rfl⟩
theorem mg (k:Nat) (hk:600 ≤ k) (n:ByteArray) (hs:n.size ≤ 1000000000):aY.f k n = some (gN n):=by
 obtain ⟨o,ho,hm⟩:=Bq k hk n hs
 unfold aY.f gN
 rw [ho]
 simp only [Option.bind_some]
 cases hl:qX n with
 | none=>rw [hl] at hm;simpa using hm
 | some l=>rw [hl] at hm;simp at hm;rw [hm];rfl
theorem FE (k:Nat) (hk:600 ≤ k) (a b:ByteArray) (ha:a.size ≤ 1000000000) (hb:b.size ≤ 1000000000):gG.f k a b = some (same a b):=by
 unfold gG.f same
 rw [mg k hk a ha,mg k hk b hb,y8 a ha,y8 b hb]
 simp only [Option.bind_some,y9]
 cases gN a <;> cases gN b <;> simp
theorem XC (l:List ByteArray):∀ (s:ByteArray),(∀ x ∈ l,wY x) → (s ++ enc l).size ≤ 255 → aU.g l s = (s ++ enc l,true):=by
 induction l with
 | nil =>
  intro s _ hz
  rw [kP] at hz ⊢
  rw [ajs,iQ] at hz
  rw [aU.g,ai9 (by omega)];rfl
 | cons x l ih =>
  intro s hok hz
  have hx:=hok x (by simp)
  obtain ⟨hx1,hx2⟩:=hx
  rw [jE] at hz ⊢
  rw [ajs,jF] at hz
  have e:((x.size:Int)) % 256 = x.size:=by omega
  rw [aU.g,ai9 (by omega),e]
  have h2:s ++ strOfNums [(x.size:Int)] ++ x ++ enc l = s ++ (sg x.size ++ x ++ enc l):=by
   unfold sg;simp only [ak2]
  rw [ih _ (fun y hy=>hok y (by simp [hy])) (by rw [h2,ajs,jF];omega),h2]
theorem KM (k:Nat) (hk:600 ≤ k) (n:ByteArray) (hs:n.size ≤ 1000000000):iw.f k n = some (up n):=by
 obtain ⟨o,ho,hm⟩:=Bq k hk n hs
 unfold iw.f
 rw [ho]
 simp only [Option.bind_some]
 cases hl:qX n with
 | none =>
  rw [hl] at hm
  have hm':o.2 = false:=hm
  rw [ai9 (by rw [hm'];exact aj6),Ow (by unfold gN;rw [hl];rfl)]
 | some l =>
  rw [hl] at hm
  have hm':o = (l,true):=hm
  subst hm'
  obtain ⟨e,hok,hz⟩:=vC hl
  rw [ai8 rfl]
  cases l with
  | nil=>simp [e,kP,Di]
  | cons x l =>
   simp only [List.length_cons,List.drop_succ_cons,aj9]
   rw [ai9 (by omega),ai8 (by omega)]
   unfold aU.f
   rw [e] at hz ⊢
   rw [yU hok hz]
   rw [jE,jF] at hz
   rw [XC l ⟨#[]⟩ (fun y hy=>hok y (by simp [hy])) (by rw [empty_append];omega),empty_append]
   rfl
end
section
open Go.RowKit Go.Proofs.YtfokaoeinpnagaaGreatW.aX Go.Proofs.YtfokaoeinpnagaaGreatW.dL Go.Proofs.YtfokaoeinpnagaaGreatW.eO
attribute [local go_sem] jV jW lF lG jo jq jX jY
def eX.f (a0:ByteArray) (a1:Int) (a2:Int):Option (ByteArray × Bool) :=
 if (a0.size:Int) ≤ 9223372036854775807 then
  (if 0 ≤ a1 ∧ 0 ≤ a2 ∧ a1 + a2 ≤ (a0.size:Int) then some (a0.extract a1.toNat (a1 + a2).toNat,true) else some ((⟨#[]⟩:ByteArray),false))
 else none
theorem eX.mid (s:ByteArray) (a b:Int) (h0:0 ≤ a) (h1:0 ≤ b) (h2:a + b ≤ (s.size:Int)) :
  (s.extract a.toNat s.size).extract 0 b.toNat = s.extract a.toNat (a + b).toNat:=by
 rw [ByteArray.extract_extract]
 congr 1
 omega
theorem eX.calls (a0:ByteArray) (a1:Int) (a2:Int) (r1:ByteArray) (r2:Bool) (w:World) (h:eX.f a0 a1 a2 = some (r1,r2)) :
  Calls Tryz.prog 136 #[.string a0,.int .i64 a1,.int .i64 a2] w fun e w'=>e = .returned (.tuple #[.string r1,.bool r2]) ∧ bQ w w':=by
 unfold eX.f at h
 by_cases hs:(a0.size:Int) ≤ 9223372036854775807
 ·rw [ai8 hs] at h
  by_cases hc:0 ≤ a1 ∧ 0 ≤ a2 ∧ a1 + a2 ≤ (a0.size:Int)
  ·rw [ai8 hc] at h
   simp only [ajl,ajm] at h
   obtain ⟨rfl,rfl⟩:=h
   obtain ⟨h0,h1,h2⟩:=hc
   have hw:wrap64 ((a0.size:Int) - a1) = (a0.size:Int) - a1:=by unfold wrap64;omega
   have hm:=ah.mk (eX.mid a0 a1 a2 h0 h1 h2)
   have c1:decide (a1 < 0) = false:=ajc (by omega)
   have c2:decide (a2 < 0) = false:=ajc (by omega)
   have c3:decide ((a0.size:Int) < a1) = false:=ajc (by omega)
   have c4:decide (wrap64 ((a0.size:Int) - a1) < a2) = false:=ajc (by omega)
   have c5:=ajj h0
   have c6:(a1 ≤ (a0.size:Int)) = True:=ajj (by omega)
   have c7:=ajj h1
   have c8:(a2 ≤ ((a0.extract a1.toNat a0.size).size:Int)) = True:=ajj (by simp only [ajJ];omega)
   have c9:(a2 ≤ (a0.size:Int) - (a1.toNat:Int)) = True:=ajj (by omega)
   have c10:(a2 ≤ ((a0.size - a1.toNat:Nat):Int)) = True:=ajj (by omega)
   clear hs hw h0 h1 h2
   go_enter Tryz.func136,Tryz.ntmps136
   go_wp2
   go_ret2
   exact ⟨by rw [hm.out];rfl,by repeat (first | exact bQ.refl _ | apply bQ.step)⟩
  ·rw [ai9 hc] at h
   simp only [ajl,ajm] at h
   obtain ⟨rfl,rfl⟩:=h
   by_cases c1:a1 < 0
   ·have c1':decide (a1 < 0) = true:=aja c1
    clear hs hc c1
    go_enter Tryz.func136,Tryz.ntmps136
    go_wp2
    go_ret2
    exact ⟨rfl,by repeat (first | exact bQ.refl _ | apply bQ.step)⟩
   ·by_cases c2:a2 < 0
    ·have c1':decide (a1 < 0) = false:=ajc c1
     have c2':decide (a2 < 0) = true:=aja c2
     clear hs hc c1 c2
     go_enter Tryz.func136,Tryz.ntmps136
     go_wp2
     go_ret2
     exact ⟨rfl,by repeat (first | exact bQ.refl _ | apply bQ.step)⟩
    ·by_cases c3:(a0.size:Int) < a1
     ·have c1':decide (a1 < 0) = false:=ajc c1
      have c2':decide (a2 < 0) = false:=ajc c2
      have c3':decide ((a0.size:Int) < a1) = true:=aja c3
      clear hs hc c1 c2 c3
      go_enter Tryz.func136,Tryz.ntmps136
      go_wp2
      go_ret2
      exact ⟨rfl,by repeat (first | exact bQ.refl _ | apply bQ.step)⟩
     ·have hw:wrap64 ((a0.size:Int) - a1) = (a0.size:Int) - a1:=by unfold wrap64;omega
      have c1':decide (a1 < 0) = false:=ajc c1
      have c2':decide (a2 < 0) = false:=ajc c2
      have c3':decide ((a0.size:Int) < a1) = false:=ajc c3
      have c4':decide (wrap64 ((a0.size:Int) - a1) < a2) = true:=aja (by omega)
      clear hs hc c1 c2 c3 hw
      go_enter Tryz.func136,Tryz.ntmps136
      go_wp2
      go_ret2
      exact ⟨rfl,by repeat (first | exact bQ.refl _ | apply bQ.step)⟩
 ·rw [ai9 hs] at h
  exact absurd h (by simp)
def gH.f (a0:Int):Option (Bool):=if a0 ≥ 1 then (some (decide (a0 ≤ 4))) else (some false)
theorem gH.calls (a0:Int) (r:Bool) (w:World) (h:gH.f a0 = some r) :
  Calls Tryz.prog 137 #[.int .i64 a0] w fun e w'=>e = .returned (.bool r) ∧ bQ w w':=by
 have H:(if a0 ≥ 1 then (some (decide (a0 ≤ 4))) else (some false)) = some r:=h
 clear h
 by_cases c2:a0 ≥ 1
 ·rw [ai8 c2] at H
  have Ac:decide (1 ≤ a0) = true:=aja c2
  clear c2
  obtain rfl:=ajz H
  go_enter Tryz.func137,Tryz.ntmps137
  go_wp2
  go_ret
  exact ⟨by first | rfl | (simp;done) | (simp [*];done),by repeat (first | exact bQ.refl _ | apply bQ.step)⟩
 ·rw [ai9 c2] at H
  have Ac:decide (1 ≤ a0) = false:=ajc c2
  clear c2
  obtain rfl:=ajz H
  go_enter Tryz.func137,Tryz.ntmps137
  go_wp2
  go_ret
  exact ⟨by first | rfl | (simp;done) | (simp [*];done),by repeat (first | exact bQ.refl _ | apply bQ.step)⟩
mutual
def aM.j0 : Nat → Int → ByteArray → Bool → Option (Int × Bool)
 | 0,_,_,_=>none
 | k + 1,x2,x8,x25=>if x25 = true then (some (0,false)) else (aM.l0 k x8 0 x2 0)
def aM.l0 : Nat → ByteArray → Int → Int → Int → Option (Int × Bool)
 | 0,_,_,_,_=>none
 | k + 1,x8,x10,x26,x27=>if x27 < x26 then (if 0 ≤ x27 then (if x27 < (x8.size:Int) then (aM.l0 k x8 (Go.bits .or .i64 (wrap64 (x10 * 256)) (wrap64 (bt x8 x27))) x26 (wrap64 (x27 + 1))) else (none)) else (none)) else (some (x10,true))
end
def aM.f (k:Nat) (a0:ByteArray) (a1:Int) (a2:Int):Option (Int × Bool):=(eX.f a0 a1 a2).bind fun ze=>(if ze.2 = true then ((gH.f a2).bind fun zf=>(aM.j0 k a2 ze.1 (!zf))) else (aM.j0 k a2 ze.1 true))
theorem aM.zh : ∀ k,(∀ y0 y1 y2,nE (aM.j0 k y0 y1 y2) (aM.j0 (k + 1) y0 y1 y2)) ∧ (∀ y0 y1 y2 y3,nE (aM.l0 k y0 y1 y2 y3) (aM.l0 (k + 1) y0 y1 y2 y3))
 | 0=>⟨fun _ _ _ r h=>by simp [aM.j0] at h,fun _ _ _ _ r h=>by simp [aM.l0] at h⟩
 | k + 1=>by
  obtain ⟨ih0,ih1⟩:=aM.zh k
  refine ⟨?_,?_⟩
  ·intro y0 y1 y2
   unfold aM.j0
   repeat' first
   | (with_reducible exact nE.refl _)
   | exact ih0 _ _ _
   | exact ih1 _ _ _ _
   | exact nE.none _
   | refine nE.ite ?_ ?_
   | refine nE.bind ?_ (fun _=>?_)
  ·intro y0 y1 y2 y3
   unfold aM.l0
   repeat' first
   | (with_reducible exact nE.refl _)
   | exact ih0 _ _ _
   | exact ih1 _ _ _ _
   | exact nE.none _
   | refine nE.ite ?_ ?_
   | refine nE.bind ?_ (fun _=>?_)
theorem aM.mono : ∀ a0 a1 a2 k,nE (aM.f k a0 a1 a2) (aM.f (k + 1) a0 a1 a2):=by
 intro a0 a1 a2 k
 obtain ⟨ih0,ih1⟩:=aM.zh k
 unfold aM.f
 repeat' first
   | (with_reducible exact nE.refl _)
   | exact ih0 _ _ _
   | exact ih1 _ _ _ _
   | exact nE.none _
   | refine nE.ite ?_ ?_
   | refine nE.bind ?_ (fun _=>?_)
theorem aM.calls (k:Nat) (a0:ByteArray) (a1:Int) (a2:Int) (r1:Int) (r2:Bool) (w:World) (h:aM.f k a0 a1 a2 = some (r1,r2)) :
  Calls Tryz.prog 117 #[.string a0,.int .i64 a1,.int .i64 a2] w fun e w'=>e = .returned (.tuple #[.int .i64 r1,.bool r2]) ∧ bQ w w':=by
 have H:((eX.f a0 a1 a2).bind fun ze=>(if ze.2 = true then ((gH.f a2).bind fun zf=>(aM.j0 k a2 ze.1 (!zf))) else (aM.j0 k a2 ze.1 true))) = some (r1,r2):=h
 clear h
 replace H:=zbm H
 obtain ⟨⟨t119,XD⟩,OA,H⟩:=H
 replace H:(if XD = true then ((gH.f a2).bind fun zf=>(aM.j0 k a2 t119 (!zf))) else (aM.j0 k a2 t119 true)) = some (r1,r2):=H
 have A4:=ah.mk OA
 clear OA
 have HC5:=ah.mk H
 clear H
 go_enter Tryz.func117,Tryz.ntmps117
 go_upto_region 2 with (first | ((with_reducible refine bS (f:=136) rfl ?_);refine gJ (some 16) rfl rfl Tryz.func136 (by kernel_rfl) rfl #[.string a0,.int .i64 a1,.int .i64 a2] rfl (by (try simp only [ajG,ajk,ajn]) <;> rfl) ?_;(with_reducible refine (eX.calls a0 a1 a2 t119 XD _ A4.out).mono ?_);rintro e w' ⟨rfl,⟨nd,rfl⟩⟩;refine ⟨_,rfl,?_⟩))
 (try simp only [Act.put,ajN,List.set_cons_zero,List.set_cons_succ])
 go_cut [25] (fun v25 wc=>∃ (kq:Nat) (Jp:Bool),v25 = .bool Jp ∧ ah (aM.j0 kq a2 t119 Jp = some (r1,r2)) ∧ ah (kq ≤ k) ∧ bQ w wc)
 case first =>
  have H:=HC5.out
  clear HC5
  by_cases c6:XD = true
  ·subst c6
   have H1:((gH.f a2).bind fun zf=>(aM.j0 k a2 t119 (!zf))) = some (r1,r2):=by rw [ai8 rfl] at H;exact H
   clear H
   have H:=H1
   clear H1
   replace H:=zbm H
   obtain ⟨zf,A70,H⟩:=H
   replace H:(aM.j0 k a2 t119 (!zf)) = some (r1,r2):=H
   have A7:=ah.mk A70
   clear A70
   have H':=ah.mk H
   clear H
   go_wp2_with (first | (go_at_call 137;(with_reducible refine (gH.calls a2 zf _ A7.out).mono ?_);rintro e w' ⟨rfl,⟨nd,rfl⟩⟩))
   go_meet
   case rel=>exact ⟨_,(!zf),(by first | rfl | (simp;done) | (simp [*];done) | (simp [B.dV];done) | (simp [B.dW];done)),H',⟨by first | omega | exact ajd _⟩,by repeat (first | exact bQ.refl _ | apply bQ.step)⟩
  ·replace c6:=ajP.mpr c6
   subst c6
   have H1:(aM.j0 k a2 t119 true) = some (r1,r2):=by rw [ai9 (show ¬ (false = true) by decide)] at H;exact H
   clear H
   have H:=H1
   clear H1
   have H':=ah.mk H
   clear H
   go_wp2
   go_meet
   case rel=>exact ⟨_,(true),(by first | rfl | (simp;done) | (simp [*];done) | (simp [B.dV];done) | (simp [B.dW];done)),H',⟨by first | omega | exact ajd _⟩,by repeat (first | exact bQ.refl _ | apply bQ.step)⟩
 case rest =>
  clear HC5
  try clear c1
  try clear p2
  try clear c6
  obtain ⟨kq,Jp,rfl,HA,HJ4,⟨mc4,rfl⟩⟩:=hcut
  cases kq with
  | zero=>exact absurd HA.out (by simp [aM.j0])
  | succ kj4 =>
   have H:=HA.out
   clear HA
   simp only [aM.j0] at H
   by_cases c8:Jp = true
   ·subst c8
    have H1:(some (0,false)) = some (r1,r2):=by rw [ai8 rfl] at H;exact H
    clear H
    have H:=H1
    clear H1
    simp only [ajl,ajm] at H
    obtain ⟨rfl,rfl⟩:=H
    go_wp2
    go_ret2
    exact ⟨by first | rfl | (simp;done) | (simp [*];done),by repeat (first | exact bQ.refl _ | apply bQ.step)⟩
   ·replace c8:=ajP.mpr c8
    subst c8
    have H1:(aM.l0 kj4 t119 0 a2 0) = some (r1,r2):=by rw [ai9 (show ¬ (false = true) by decide)] at H;exact H
    clear H
    have H:=H1
    clear H1
    have H':=ah.mk H
    clear H
    go_wp2
    go_loopg [10,27] kj4 (fun kq v10 v27 w'=>∃ (Jq:Int) (ni:Int),v10 = .int .i64 Jq ∧ v27 = .int .i64 ni ∧ ah (aM.l0 kq t119 Jq a2 ni = some (r1,r2)) ∧ ah (kq ≤ kj4) ∧ bQ w w')
    case atStart=>exact ⟨(0),(0),(by first | rfl | (simp;done) | (simp [*];done) | (simp [B.dV];done) | (simp [B.dW];done)),(by first | rfl | (simp;done) | (simp [*];done) | (simp [B.dV];done) | (simp [B.dW];done)),H',⟨ajd _⟩,by repeat (first | exact bQ.refl _ | apply bQ.step)⟩
    case round =>
     clear H'
     try clear c1
     try clear p2
     try clear c4
     try clear c6
     try clear c8
     try clear p2
     obtain ⟨Jq,ni,rfl,rfl,HA,HK2,⟨m2,rfl⟩⟩:=hrel
     cases gk with
     | zero=>exact absurd HA.out (by simp [aM.l0])
     | succ k2 =>
      have H:=HA.out
      clear HA
      simp only [aM.l0] at H
      by_cases c9:ni < a2
      ·rw [ai8 c9] at H
       have Hq:decide (ni < a2) = true:=aja c9
       clear c9
       by_cases c10:0 ≤ ni
       ·rw [ai8 c10] at H
        have Fv:decide (0 ≤ ni) = true:=aja c10
        clear c10
        by_cases c11:ni < (t119.size:Int)
        ·rw [ai8 c11] at H
         have UL:decide (ni < (t119.size:Int)) = true:=aja c11
         clear c11
         have H':=ah.mk H
         clear H
         have p12:0 ≤ (ni:Int):=ajw (by first | (with_reducible assumption) | assumption)
         have q12:ni < (t119.size:Int):=ajw (by first | (with_reducible assumption) | assumption)
         have ai1:=pE t119 ni
         replace p12:=ajj p12
         replace q12:=ajj q12
         go_wp2
         go_roundg k2
         case measure=>have:=HJ4.out;have:=HK2.out;omega
         case rel=>exact ⟨(Go.bits .or .i64 (wrap64 (Jq * 256)) (wrap64 (bt t119 ni))),(wrap64 (ni + 1)),(by first | rfl | (simp;done) | (simp [*];done) | (simp [B.dV];done) | (simp [B.dW];done)),(by first | rfl | (simp;done) | (simp [*];done) | (simp [B.dV];done) | (simp [B.dW];done)),H',⟨by have:=HJ4.out;have:=HK2.out;omega⟩,by repeat (first | exact bQ.refl _ | apply bQ.step)⟩
        ·rw [ai9 c11] at H
         exact absurd H (by simp)
       ·rw [ai9 c10] at H
        exact absurd H (by simp)
      ·rw [ai9 c9] at H
       have Hq:decide (ni < a2) = false:=ajc c9
       clear c9
       simp only [ajl,ajm] at H
       obtain ⟨rfl,rfl⟩:=H
       go_wp2
       go_ret2
       exact ⟨by first | rfl | (simp;done) | (simp [*];done),by repeat (first | exact bQ.refl _ | apply bQ.step)⟩
end
section
open Go.RowKit Go.Proofs.YtfokaoeinpnagaaGreatW.aX Go.Proofs.YtfokaoeinpnagaaGreatW.dL Go.Proofs.YtfokaoeinpnagaaGreatW.eO Go.Proofs.YtfokaoeinpnagaaGreat.B
def abX : Nat → Int → List Int
 | 0,_=>[]
 | s + 1,n=>n / 256 ^ s % 256 :: abX s n
def OL (n size:Int):Prop:=1 ≤ size ∧ size ≤ 4 ∧ 0 ≤ n ∧ n < 256 ^ size.toNat
instance (n size:Int):Decidable (OL n size):=by unfold OL;infer_instance
def agw (n size:Int):ByteArray:=if OL n size then strOfNums (abX size.toNat n) else ⟨#[]⟩
def iR (s:ByteArray) (i n:Int):Prop:=0 ≤ i ∧ 0 ≤ n ∧ i + n ≤ (s.size:Int)
instance (s : ByteArray) (i n:Int):Decidable (iR s i n):=by unfold iR;infer_instance
def iF : Nat → ByteArray → Int → Int
 | 0,_,_=>0
 | k + 1,s,i=>iF k s i * 256 + bt s (i + k)
def kF (s:ByteArray) (i n:Int):Prop:=0 ≤ i ∧ 1 ≤ n ∧ n ≤ 4 ∧ i + n ≤ (s.size:Int)
instance (s : ByteArray) (i n:Int):Decidable (kF s i n):=by unfold kF;infer_instance
theorem uG (s:ByteArray) (i n:Int) (hs:s.size ≤ 9223372036854775807) :
  eX.f s i n = some (if iR s i n then (s.extract i.toNat (i + n).toNat,true) else (⟨#[]⟩,false)):=by
 unfold eX.f iR
 rw [ai8 (by omega)]
 split <;> rename_i h <;> simp [h]
theorem lI (x b:Int) (hx0:0 ≤ x) (hx:x < 16777216) (hb0:0 ≤ b) (hb:b ≤ 255):Go.bits .or .i64 (wrap64 (x * 256)) (wrap64 b) = x * 256 + b:=by
 rw [jQ (by omega) (by omega),jQ (by omega) (by omega)]
 refine Go.bits_join .i64 62 (by decide) ?_ 8 (x * 256) b (by omega) (by omega) (by omega) hb0 (by omega) (by omega)
 intro n h0 h1
 rw [IntKind.wrap_i64]
 omega
theorem get_eq (k:Nat) (hk:9 ≤ k) (s:ByteArray) (i n:Int) (hs:s.size ≤ 9223372036854775807) :
  aM.f k s i n = some (if kF s i n then (iF n.toNat s i,true) else (0,false)):=by
 refine vo (fun k=>aM.mono s i n k) hk ?_
 unfold aM.f
 rw [uG s i n hs]
 by_cases ht:iR s i n
 ·rw [ai8 ht]
  simp only [Option.bind_some,ajH]
  obtain ⟨h0,h1,h2⟩:=ht
  by_cases hz:1 ≤ n ∧ n ≤ 4
  ·have hf:gH.f n = some true:=by unfold gH.f;rw [ai8 (by omega)];simp;omega
   rw [ai8 (show kF s i n from ⟨h0,hz.1,hz.2,h2⟩),hf]
   have hz':=size_ext h0 h1 h2
   have hb:∀ j,0 ≤ j → j < n → bt (s.extract i.toNat (i + n).toNat) j = bt s (i + j):=fun j a b=>Oq h0 a b h2
   have e0:=hb 0
   have e1:=hb 1
   have e2:=hb 2
   have e3:=hb 3
   have r0:=gK s (i + 0)
   have r1:=gK s (i + 1)
   have r2:=gK s (i + 2)
   have r3:=gK s (i + 3)
   generalize s.extract i.toNat (i + n).toNat = t at *
   clear hb
   obtain ⟨hz1,hz4⟩:=hz
   have hn:n = 1 ∨ n = 2 ∨ n = 3 ∨ n = 4:=by omega
   have y0:wrap64 (0 + 1) = 1:=jQ (by omega) (by omega)
   have y1:wrap64 (1 + 1) = 2:=jQ (by omega) (by omega)
   have y2:wrap64 (2 + 1) = 3:=jQ (by omega) (by omega)
   have y3:wrap64 (3 + 1) = 4:=jQ (by omega) (by omega)
   rcases hn with rfl | rfl | rfl | rfl
   ·have o0:=lI 0 (bt s (i + 0)) (by omega) (by omega) r0.1 r0.2
    simp only [aM.j0,aM.l0,Option.bind_some,akG,ajB,ajv,hz',e0 (by omega) (by omega),o0,y0]
    simp [iF]
   ·have o0:=lI 0 (bt s (i + 0)) (by omega) (by omega) r0.1 r0.2
    have o1:=lI (0 * 256 + bt s (i + 0)) (bt s (i + 1)) (by omega) (by omega) r1.1 r1.2
    simp only [aM.j0,aM.l0,Option.bind_some,akG,ajB,ajv,hz',e0 (by omega) (by omega),e1 (by omega) (by omega),o0,o1,y0,y1]
    simp [iF]
   ·have o0:=lI 0 (bt s (i + 0)) (by omega) (by omega) r0.1 r0.2
    have o1:=lI (0 * 256 + bt s (i + 0)) (bt s (i + 1)) (by omega) (by omega) r1.1 r1.2
    have o2:=lI ((0 * 256 + bt s (i + 0)) * 256 + bt s (i + 1)) (bt s (i + 2)) (by omega) (by omega) r2.1 r2.2
    simp only [aM.j0,aM.l0,Option.bind_some,akG,ajB,ajv,hz',e0 (by omega) (by omega),e1 (by omega) (by omega),e2 (by omega) (by omega),o0,o1,o2,y0,y1,y2]
    simp [iF]
   ·have o0:=lI 0 (bt s (i + 0)) (by omega) (by omega) r0.1 r0.2
    have o1:=lI (0 * 256 + bt s (i + 0)) (bt s (i + 1)) (by omega) (by omega) r1.1 r1.2
    have o2:=lI ((0 * 256 + bt s (i + 0)) * 256 + bt s (i + 1)) (bt s (i + 2)) (by omega) (by omega) r2.1 r2.2
    have o3:=lI (((0 * 256 + bt s (i + 0)) * 256 + bt s (i + 1)) * 256 + bt s (i + 2)) (bt s (i + 3)) (by omega) (by omega) r3.1 r3.2
    simp only [aM.j0,aM.l0,Option.bind_some,akG,ajB,ajv,hz',e0 (by omega) (by omega),e1 (by omega) (by omega),e2 (by omega) (by omega),e3 (by omega) (by omega),o0,o1,o2,o3,y0,y1,y2,y3]
    simp [iF]
  ·have hf:gH.f n = some false:=by
    unfold gH.f
    by_cases h2:1 ≤ n
    ·rw [ai8 (by omega)];simp;omega
    ·rw [ai9 (by omega)]
   rw [ai9 (show ¬ kF s i n from fun h=>hz ⟨h.2.1,h.2.2.1⟩),hf]
   simp [aM.j0]
 ·rw [ai9 ht,ai9 (show ¬ kF s i n from fun h=>ht ⟨h.1,by have:=h.2.1;omega,h.2.2.2⟩)]
  simp [aM.j0]
theorem FH (s:ByteArray) (i:Int):iF 1 s i = bt s i:=by simp [iF]
theorem Hw (k:Nat) (s t:ByteArray) (i j:Int) (h:∀ m:Nat,m < k → bt s (i + m) = bt t (j + m)):iF k s i = iF k t j:=by
 induction k with
 | zero=>rfl
 | succ k ih=>simp only [iF];rw [ih fun m hm=>h m (by omega),h k (by omega)]
theorem oU (k:Nat) (s:ByteArray) (i:Int):0 ≤ iF k s i ∧ iF k s i < 256 ^ k:=by
 induction k with
 | zero=>simp [iF]
 | succ k ih =>
  have:=gK s (i + k)
  simp only [iF]
  rw [Int.pow_succ]
  omega
end
section
open Go.RowKit Go.Proofs.YtfokaoeinpnagaaGreatW.aX Go.Proofs.YtfokaoeinpnagaaGreatW.dL Go.Proofs.YtfokaoeinpnagaaGreatW.eO
attribute [local go_sem] jV jW lF lG jo jq jX jY
def iJ.f (a0:ByteArray) (a1:Int) (a2:Int):Option (ByteArray × Bool):=if a1 < 0 then (some ((⟨#[]⟩:ByteArray),false)) else (if a2 < 0 then (some ((⟨#[]⟩:ByteArray),false)) else (if a1 > (a0.size:Int) then (some ((⟨#[]⟩:ByteArray),false)) else (if a2 > (wrap64 ((a0.size:Int) - a1)) then (some ((⟨#[]⟩:ByteArray),false)) else (if 0 ≤ a1 then (if a1 ≤ (wrap64 (a1 + a2)) then (if (wrap64 (a1 + a2)) ≤ (a0.size:Int) then (some (a0.extract (a1:Int).toNat ((wrap64 (a1 + a2)):Int).toNat,true)) else (none)) else (none)) else (none)))))
mutual
def bE.j0 : Nat → Int → ByteArray → Bool → Option (Int × Bool)
 | 0,_,_,_=>none
 | k + 1,x2,x8,x28=>if x28 = true then (some (0,false)) else (bE.l0 k x2 x8 0 0)
def bE.l0 : Nat → Int → ByteArray → Int → Int → Option (Int × Bool)
 | 0,_,_,_,_=>none
 | k + 1,x2,x8,x10,x11=>if x11 < x2 then (if 0 ≤ x11 then (if x11 < (x8.size:Int) then (bE.l0 k x2 x8 (wrap64 ((wrap64 (256 * x10)) + (wrap64 (bt x8 x11)))) (wrap64 (x11 + 1))) else (none)) else (none)) else (some (x10,true))
end
def bE.f (k:Nat) (a0:ByteArray) (a1:Int) (a2:Int):Option (Int × Bool):=(iJ.f a0 a1 a2).bind fun Jr=>(if Jr.2 = true then (if a2 < 1 then (bE.j0 k a2 Jr.1 true) else (bE.j0 k a2 Jr.1 (decide (a2 > 4)))) else (bE.j0 k a2 Jr.1 true))
end
section
open Go.RowKit Go.Proofs.YtfokaoeinpnagaaGreatW.aX Go.Proofs.YtfokaoeinpnagaaGreatW.dL Go.Proofs.YtfokaoeinpnagaaGreatW.eO Go.Proofs.YtfokaoeinpnagaaGreat.B
theorem wu (s:ByteArray) (i n:Int) (hs:s.size ≤ 1000000) :
  iJ.f s i n = some (if iR s i n then (s.extract i.toNat (i + n).toNat,true) else (⟨#[]⟩,false)):=by
 have u:iR s i n = (0 ≤ i ∧ 0 ≤ n ∧ i + n ≤ (s.size:Int)):=rfl
 unfold iJ.f
 by_cases h0:i < 0
 ·rw [ai8 h0,ai9 (by rw [u];omega)]
 ·by_cases h1:n < 0
  ·rw [ai9 h0,ai8 h1,ai9 (by rw [u];omega)]
  ·by_cases h2:i > (s.size:Int)
   ·rw [ai9 h0,ai9 h1,ai8 h2,ai9 (by rw [u];omega)]
   ·rw [ai9 h0,ai9 h1,ai9 h2]
    have e1:wrap64 ((s.size:Int) - i) = s.size - i:=jQ (by omega) (by omega)
    rw [e1]
    by_cases h3:n > (s.size:Int) - i
    ·rw [ai8 h3,ai9 (by rw [u];omega)]
    ·have e2:wrap64 (i + n) = i + n:=jQ (by omega) (by omega)
     rw [ai9 h3,e2,ai8 (by omega),ai8 (by omega),ai8 (by omega),ai8 (by rw [u];omega)]
theorem Hy (n:Nat) (hn:n ≤ 4) (t:ByteArray) (ht:t.size = n) (d:Nat):∀ k j,n - j = d → j ≤ n → d < k →
  bE.l0 k n t (iF j t 0) j = some (iF n t 0,true):=by
 induction d with
 | zero =>
  intro k j hd hj hk
  obtain rfl:j = n:=by omega
  obtain ⟨k,rfl⟩:∃ m,k = m + 1:=⟨k - 1,by omega⟩
  rw [bE.l0,ai9 (by omega)]
 | succ d ih =>
  intro k j hd hj hk
  obtain ⟨k,rfl⟩:∃ m,k = m + 1:=⟨k - 1,by omega⟩
  have hr:=oU j t 0
  have hp:(256:Int) ^ j ≤ 16777216:=by
   have:j = 0 ∨ j = 1 ∨ j = 2 ∨ j = 3:=by omega
   rcases this with rfl | rfl | rfl | rfl <;> simp
  have hb:=gK t j
  rw [bE.l0,ai8 (by omega),ai8 (by omega),ai8 (by omega),jQ (n:=bt t j) (by omega) (by omega),jQ (n:=256 * iF j t 0) (by omega) (by omega),jQ (n:=256 * iF j t 0 + bt t j) (by omega) (by omega),jQ (n:=(j:Int) + 1) (by omega) (by omega)]
  have e:256 * iF j t 0 + bt t j = iF (j + 1) t 0:=by
   simp only [iF]
   rw [show (0:Int) + (j:Int) = j from by omega]
   omega
  rw [e,show ((j:Int) + 1) = ((j + 1:Nat):Int) from by omega]
  exact ih k (j + 1) (by omega) (by omega) (by omega)
theorem zi (k:Nat) (hk:9 ≤ k) (s:ByteArray) (i n:Int) (hs:s.size ≤ 1000000) :
  bE.f k s i n = some (if kF s i n then (iF n.toNat s i,true) else (0,false)):=by
 obtain ⟨k,rfl⟩:∃ m,k = m + 1:=⟨k - 1,by omega⟩
 unfold bE.f
 rw [wu s i n hs]
 simp only [Option.bind_some]
 by_cases ht:iR s i n
 ·simp only [ai8 ht,ajH]
  obtain ⟨h0,h1,h2⟩:=ht
  by_cases c1:n < 1
  ·rw [ai8 c1,bE.j0,ai8 rfl,ai9 (fun h=>by have:=h.2.1;omega)]
  ·rw [ai9 c1]
   by_cases c2:n > 4
   ·rw [aja c2,bE.j0,ai8 rfl,ai9 (fun h=>by have:=h.2.2.1;omega)]
   ·rw [ajc c2,bE.j0,ai9 aj6,ai8 ⟨h0,by omega,by omega,h2⟩]
    have hz:=size_ext h0 h1 h2
    have e:((n.toNat:Nat):Int) = n:=by omega
    have:=Hy n.toNat (by omega) (s.extract i.toNat (i + n).toNat) (by omega) n.toNat k 0 (by omega) (by omega) (by omega)
    rw [e] at this
    rw [show (0:Int) = ((0:Nat):Int) from rfl]
    refine Eq.trans this ?_
    congr 2
    refine Hw _ _ _ _ _ fun m hm=>?_
    rw [show (0:Int) + (m:Int) = m from by omega,Oq h0 (by omega) (by omega) h2]
 ·simp only [ai9 ht,ajB,ajv]
  rw [bE.j0,ai8 rfl,ai9 (fun h=>ht ⟨h.1,by have:=h.2.1;omega,h.2.2.2⟩)]
end
section
open Go.Shelf Go.RowKit
def wz : Go.Shelf.Ren:=⟨fun | 156=>156 | 165=>160 | 166=>159 | 169=>157 | 240=>161 | 241=>162 | 276=>163 | 277=>164 | n=>n,fun | 0=>0 | 3=>3 | 4=>4 | 5=>5 | 9=>9 | 20=>20 | 31=>40 | 37=>189 | 70=>224 | 72=>226 | 75=>234 | 76=>235 | 80=>219 | 127=>238 | 164=>239 | n=>n,fun n=>n⟩
theorem Js : Lays.n156 Tryz.prog wz where
 mixed:=by kernel_rfl
 f156:=by kernel_rfl
 f165:=by kernel_rfl
 f166:=by kernel_rfl
 f169:=by kernel_rfl
 f240:=by kernel_rfl
 f241:=by kernel_rfl
 f276:=by kernel_rfl
 f277:=by kernel_rfl
 t0:=Tryz.underlying0
 a0:=Tryz.isAgg0
 z0:=Tryz.sizeOf0
 v0:=Tryz.zeroValue0
 t3:=Tryz.underlying3
 a3:=Tryz.isAgg3
 z3:=Tryz.sizeOf3
 v3:=Tryz.zeroValue3
 t4:=Tryz.underlying4
 a4:=Tryz.isAgg4
 z4:=Tryz.sizeOf4
 v4:=Tryz.zeroValue4
 t9:=Tryz.underlying9
 a9:=Tryz.isAgg9
 z9:=Tryz.sizeOf9
 v9:=Tryz.zeroValue9
 t20:=Tryz.underlying20
 a20:=Tryz.isAgg20
 z20:=Tryz.sizeOf20
 v20:=Tryz.zeroValue20
 t31:=Tryz.underlying40
 a31:=Tryz.isAgg40
 z31:=Tryz.sizeOf40
 v31:=Tryz.zeroValue40
 t37:=Tryz.underlying189
 a37:=Tryz.isAgg189
 z37:=Tryz.sizeOf189
 v37:=Tryz.zeroValue189
 t70:=Tryz.underlying224
 a70:=Tryz.isAgg224
 z70:=Tryz.sizeOf224
 v70:=Tryz.zeroValue224
 t72:=Tryz.underlying226
 a72:=Tryz.isAgg226
 z72:=Tryz.sizeOf226
 v72:=Tryz.zeroValue226
 t75:=Tryz.underlying234
 a75:=Tryz.isAgg234
 z75:=Tryz.sizeOf234
 v75:=Tryz.zeroValue234
 t76:=Tryz.underlying235
 a76:=Tryz.isAgg235
 z76:=Tryz.sizeOf235
 v76:=Tryz.zeroValue235
 t127:=Tryz.underlying238
 a127:=Tryz.isAgg238
 z127:=Tryz.sizeOf238
 v127:=Tryz.zeroValue238
 t164:=Tryz.underlying239
 a164:=Tryz.isAgg239
 z164:=Tryz.sizeOf239
 v164:=Tryz.zeroValue239
theorem wB : Builder.Extra Tryz.prog wz where
 sizeBuilder:=by kernel_rfl
 liesBuilder:=by kernel_rfl
 t5:=Tryz.underlying5
 a5:=Tryz.isAgg5
 z5:=Tryz.sizeOf5
 v5:=Tryz.zeroValue5
 infoByte:=by kernel_rfl
 cellsByte:=by kernel_rfl
 sizeByte:=by kernel_rfl
 neB5:=by decide
end
section
open Go.RowKit Go.Proofs.YtfokaoeinpnagaaGreatW.aX Go.Proofs.YtfokaoeinpnagaaGreatW.dL Go.Proofs.YtfokaoeinpnagaaGreatW.eO
attribute [local go_sem] jV jW lF lG jo jq jX jY
theorem aH.told (T:TypeId) (B0 b o:Nat) (cs:Array Value) (p v:Value) (l:List UInt8) (w:World) (h:B.vF T 5 B0 b o cs p v (Lib.byteCells l) w) (h0:l ≠ []) :
  Calls Tryz.prog 157 #[.pointer (some ⟨b,o,none⟩)] w fun e w'=>e = .returned (.string ⟨l.toArray⟩) ∧ ∃ g,B0 ≤ g ∧ g ≠ b ∧ w' = w.drew.freeze ⟨g,0,none⟩ l.length:=by
 have hl0:l.length ≠ 0:=by simpa using h0
 have hown:=h.own
 rw [Lib.byteCells_length] at hown
 obtain ⟨g,cap,cur,rfl,hbg,hg,hnc,hcm,hcs,htake⟩:∃ g cap cur,v = .slice (some ⟨g,0,none⟩) l.length cap ∧ B0 ≤ g ∧ w.heap[g]? = some (.cells cur 5 (0,0)) ∧ l.length ≤ cap ∧ cap ≤ maxLen ∧ cur.size = cap * 1 ∧ cur.toList.take (l.length * 1) = Lib.byteCells l:=by
  rcases hown.2 with ⟨_,hz⟩ | ⟨g,cap,cur,hv,r⟩
  ·exact absurd hz hl0
  ·exact ⟨g,cap,cur,hv,r⟩
 have hgb:g ≠ b:=fun e=>h.ne (by rw [e];rfl)
 have c1:w.drew.cell? ⟨b,o + 1,none⟩ = some (.slice (some ⟨g,0,none⟩) l.length cap):=by
  have:w.drew.heap[b]? = some (.cells cs T (0,0)):=h.blk
  rw [Lib.cell_of_heap this];exact h.v_
 have hSD:(Builtin.unsafeSliceData_ #[189] 238 #[.slice (some ⟨g,0,none⟩) l.length cap]).run Tryz.prog w.drew = .ok (.pointer (some ⟨g,0,none⟩)) w.drew :=
  Lib.run_unsafeSliceData_row _ _ _ _ _ _ (by omega)
 have hUS:(Builtin.unsafeString_ #[238,3] 9 #[.pointer (some ⟨g,0,none⟩),.int .i64 l.length]).run Tryz.prog w.drew = .ok (.string ⟨l.toArray⟩) (w.drew.freeze ⟨g,0,none⟩ l.length):=by
  refine Lib.run_unsafeString_row w.drew 238 3 9 5 Tryz.underlying238 (by kernel_rfl) g cur.size (by have hg':w.drew.heap[g]? = some (.cells cur 5 (0,0)):=hg;simp [World.shape?,hg']) l h0 (by omega) (by unfold maxLen at hcm;omega) ?_
  intro j x hx
  have:=hown.cells (g:=g) rfl j (.int .u8 x.toNat) (by simp [Lib.byteCells,hx])
  exact this
 have agx:=ah.mk hbg
 have hgb':=ah.mk hgb
 clear hbg hgb h hown hg hnc hcm hcs htake hl0 h0
 go_enter Tryz.func157,Tryz.ntmps157
 go_wp2
 go_region
 all_goals (go_wp2;go_ret;exact ⟨rfl,_,agx.out,hgb'.out,rfl⟩)
def aH.Kept (b:Nat) (w w':World):Prop:=∀ a:Addr,a.block = b → w'.cell? a = w.cell? a ∧ w'.frozen? a = w.frozen? a
theorem aH.Kept.of_block {b:Nat} {w w':World} (h:w'.heap[b]? = w.heap[b]?):aH.Kept b w w':=by
 rintro a rfl
 exact ⟨World.cell?_of_block h,World.frozen?_of_block h⟩
theorem aH.Dt (W:World) (q:Option Addr):(Builtin.unsafeString_ #[238,3] 9 #[.pointer q,.int .i64 0]).run Tryz.prog W = .ok (.string .empty) W :=
 Lib.run_unsafeString_none W _ _ _ q
theorem aH.of_nil (B0 b o:Nat) (w:World) (c1:w.drew.cell? ⟨b,o + 1,none⟩ = some (.slice none 0 0)) :
  Calls Tryz.prog 157 #[.pointer (some ⟨b,o,none⟩)] w fun e w'=>e = .returned (.string ⟨#[]⟩) ∧ aH.Kept b w w' ∧ Below B0 w w':=by
 have hUS:=aH.Dt
 have hSD:(Builtin.unsafeSliceData_ #[189] 238 #[.slice none 0 0]).run Tryz.prog w.drew = .ok (.pointer none) w.drew:=rfl
 go_enter Tryz.func157,Tryz.ntmps157
 go_wp2
 go_region
 all_goals (go_wp2;go_ret;exact ⟨rfl,aH.Kept.of_block rfl,Below.drew (Below.refl B0 w)⟩)
theorem aH.KN (B0 b o g:Nat) (cur:Array Value) (w:World) (hBw:B0 ≤ w.heap.size) (hlt:b < w.heap.size) (c0:w.cell? ⟨b,o + 1,none⟩ = some (.slice (some ⟨g,0,none⟩) 0 0)) (hg:w.heap[g]? = some (.cells cur 5 (0,0))) :
  Calls Tryz.prog 157 #[.pointer (some ⟨b,o,none⟩)] w fun e w'=>e = .returned (.string ⟨#[]⟩) ∧ aH.Kept b w w' ∧ Below B0 w w':=by
 have hUS:=aH.Dt
 have hSD:(Builtin.unsafeSliceData_ #[189] 238 #[.slice (some ⟨g,0,none⟩) 0 0]).run Tryz.prog w.drew = .ok (.pointer (some ⟨w.drew.heap.size,0,none⟩)) (w.drew.alloc (.view ⟨g,0,none⟩ 5)) :=
  Lib.run_unsafeSliceData_zero w.drew _ _ 5 Tryz.underlying238 ⟨g,0,none⟩ 0 (5,cur.size) (by have hg':w.drew.heap[g]? = some (.cells cur 5 (0,0)):=hg;simp [World.shape?,hg'])
 have hold:(w.drew.alloc (.view ⟨g,0,none⟩ 5)).heap[b]? = w.heap[b]?:=(Lib.alloc_old w.drew _ b hlt)
 have c2:(w.drew.alloc (.view ⟨g,0,none⟩ 5)).cell? ⟨b,o + 1,none⟩ = some (.slice (some ⟨g,0,none⟩) 0 0):=by
  rw [World.cell?_of_block (w:=w) (a:=⟨b,o + 1,none⟩) hold];exact c0
 have c3:(w.alloc (.view ⟨g,0,none⟩ 5)).drew.cell? ⟨b,o + 1,none⟩ = some (.slice (some ⟨g,0,none⟩) 0 0):=c2
 have hold':=ah.mk hold
 have hBw':=ah.mk hBw
 clear hold hBw hlt
 go_enter Tryz.func157,Tryz.ntmps157
 go_wp2
 go_region
 all_goals (go_wp2;go_ret;exact ⟨rfl,aH.Kept.of_block hold'.out,(Below.drew (Below.refl B0 w)).alloc hBw'.out _⟩)
theorem aH.Sj (B0 b o g cap:Nat) (w:World) (hc0:cap ≠ 0) (c1:w.drew.cell? ⟨b,o + 1,none⟩ = some (.slice (some ⟨g,0,none⟩) 0 cap)) :
  Calls Tryz.prog 157 #[.pointer (some ⟨b,o,none⟩)] w fun e w'=>e = .returned (.string ⟨#[]⟩) ∧ aH.Kept b w w' ∧ Below B0 w w':=by
 have hUS:=aH.Dt
 have hSD:(Builtin.unsafeSliceData_ #[189] 238 #[.slice (some ⟨g,0,none⟩) 0 cap]).run Tryz.prog w.drew = .ok (.pointer (some ⟨g,0,none⟩)) w.drew :=
  Lib.run_unsafeSliceData_row _ _ _ _ _ _ hc0
 clear hc0
 go_enter Tryz.func157,Tryz.ntmps157
 go_wp2
 go_region
 all_goals (go_wp2;go_ret;exact ⟨rfl,aH.Kept.of_block rfl,Below.drew (Below.refl B0 w)⟩)
theorem aH.any (T:TypeId) (B0 b o:Nat) (cs:Array Value) (p v:Value) (t:ByteArray) (w:World) (h:B.vF T 5 B0 b o cs p v (Lib.strCells t) w) (hBw:B0 ≤ w.heap.size) :
  Calls Tryz.prog 157 #[.pointer (some ⟨b,o,none⟩)] w fun e w'=>e = .returned (.string t) ∧ aH.Kept b w w' ∧ Below B0 w w':=by
 have c1:∀ W:World,W.heap = w.heap → W.cell? ⟨b,o + 1,none⟩ = some v:=by
  intro W hW
  have:W.heap[b]? = some (.cells cs T (0,0)):=by rw [hW];exact h.blk
  rw [Lib.cell_of_heap this];exact h.v_
 by_cases h0:t.data.toList = []
 ·have ht:t = ⟨#[]⟩:=akd (Array.toList_inj.mp h0)
  subst ht
  rcases h.own.2 with ⟨rfl,_⟩ | ⟨g,cap,cur,rfl,hbg,hg,_,_,_,_⟩
  ·exact aH.of_nil B0 b o w (c1 _ rfl)
  ·by_cases hc:cap = 0
   ·subst hc
    exact aH.KN B0 b o g cur w hBw h.lt (c1 _ rfl) hg
   ·exact aH.Sj B0 b o g cap w hc (c1 _ rfl)
 ·refine (aH.told T B0 b o cs p v t.data.toList w (by rw [← B.y5];exact h) h0).mono ?_
  rintro e w' ⟨rfl,g,h1,h2,rfl⟩
  refine ⟨rfl,aH.Kept.of_block ?_,Lib.below_freeze (Below.drew (Below.refl B0 w)) (p:=⟨g,0,none⟩) h1 _⟩
  unfold World.freeze
  split
  ·rfl
  ·simp [Array.getElem?_modify,h2]
   rfl
theorem q8.any (T:TypeId) (B0 b o:Nat) (cs:Array Value) (p v:Value) (bs:List Value) (w:World) (h:B.vF T 5 B0 b o cs p v bs w) :
  Calls Tryz.prog 158 #[.pointer (some ⟨b,o,none⟩)] w fun e w'=>e = .returned (.int .i64 bs.length) ∧ w = w':=by
 obtain ⟨ao,cap,rfl⟩:∃ ao cap,v = .slice ao bs.length cap:=by
  rcases h.own.2 with ⟨hv,h0⟩ | ⟨g,cap,cur,hv,_⟩
  ·exact ⟨none,0,by rw [hv,h0]⟩
  ·exact ⟨_,_,hv⟩
 have c1:w.cell? ⟨b,o + 1,none⟩ = some (.slice ao bs.length cap):=by rw [Lib.cell_of_heap h.blk];exact h.v_
 clear h
 go_enter Tryz.func158,Tryz.ntmps158
 go_wp2
 go_ret
 exact ⟨rfl,rfl⟩
theorem cO.info : (Tryz.prog.info? 226).map (·.size) = some 2:=by kernel_rfl
theorem cO.used (b o:Nat) (w:World) (h0:w.cell? ⟨b,o,none⟩ = some (.pointer (some ⟨b,o,none⟩))) :
  Calls Tryz.prog 161 #[.pointer (some ⟨b,o,none⟩)] w fun e w'=>e = .returned (.tuple #[]) ∧ w' = w:=by
 obtain ⟨j,hj,_⟩:=akI.1 cO.info
 go_enter Tryz.func161,Tryz.ntmps161
 go_wp2
 rw [Lib.run_neq_ptr_same w _ Tryz.underlying224 hj]
 go_wp2
 go_end0
 exact ⟨rfl,rfl⟩
theorem cO.fresh (b o:Nat) (T:TypeId) (n:Nat) (w:World) (h0:w.cell? ⟨b,o,none⟩ = some (.pointer none)) (hsh:w.shape? b = some (T,n)) (hn:o < n)
  (hlies:liesAt Tryz.prog Tryz.prog.depth T (n / Tryz.prog.cellsOf T) o 226 1 = true) (hfz:w.frozen? ⟨b,o,none⟩ = false) :
  Calls Tryz.prog 161 #[.pointer (some ⟨b,o,none⟩)] w fun e w'=>e = .returned (.tuple #[]) ∧ w' = w.setCell ⟨b,o,none⟩ (.pointer (some ⟨b,o,none⟩)):=by
 obtain ⟨j,hj,hjs⟩:=akI.1 cO.info
 have agy:j.size ≠ 0:=by rw [hjs];decide
 clear hjs
 have hn':=ah.mk hn
 clear hn
 go_enter Tryz.func161,Tryz.ntmps161
 go_wp2
 rw [Lib.run_to_unsafe w ⟨b,o,none⟩ Tryz.underlying224 Tryz.underlying239 hj agy hsh hn'.out]
 simp only [Result.andThen]
 rw [Oper.upon_value]
 go_wp2
 rw [run_callFunc_extern Tryz.func163 (by kernel_rfl) (by kernel_rfl) (by kernel_rfl) (e:=Extern.AbiNoEscape.same) (by kernel_rfl)]
 rw [Lib.run_noEscape]
 simp only [Result.andThen]
 rw [Oper.upon_value]
 go_wp2
 rw [Lib.run_from_unsafe w ⟨b,o,none⟩ Tryz.underlying239 Tryz.underlying224 hj hsh hlies]
 simp only [Result.andThen]
 rw [Oper.upon_value]
 go_wp2
 go_end0
 exact ⟨rfl,rfl⟩
theorem cO.any (T:TypeId) (B0 b o:Nat) (cs:Array Value) (p v:Value) (bs:List Value) (w:World) (h:B.vF T 5 B0 b o cs p v bs w)
  (hlies:liesAt Tryz.prog Tryz.prog.depth T (cs.size / Tryz.prog.cellsOf T) o 226 1 = true) :
  Calls Tryz.prog 161 #[.pointer (some ⟨b,o,none⟩)] w fun e w'=>e = .returned (.tuple #[]) ∧
   B.vF T 5 B0 b o (cs.setIfInBounds o (.pointer (some ⟨b,o,none⟩))) (.pointer (some ⟨b,o,none⟩)) v bs w' ∧ Below B0 w w':=by
 have ho:o < cs.size:=by
  rcases ako o cs.size with h' | h'
  ·exact h'
  ·have:=h.p_;rw [akh h'] at this;cases this
 have hsh:w.shape? b = some (T,cs.size):=by simp [World.shape?,h.blk]
 have hc:w.cell? ⟨b,o,none⟩ = some p:=by rw [Lib.cell_of_heap h.blk];exact h.p_
 rcases h.self with rfl | rfl
 ·refine (cO.fresh b o T cs.size w hc hsh ho hlies (Lib.frozen_of_heap h.blk o)).mono ?_
  rintro e w' ⟨rfl,rfl⟩
  exact ⟨rfl,h.used,(Below.refl B0 w).setCell (p:=⟨b,o,none⟩) h.base _⟩
 ·refine (cO.used b o w hc).mono ?_
  rintro e w' ⟨rfl,rfl⟩
  exact ⟨rfl,by rw [h.KI];exact h,Below.refl B0 _⟩
theorem gW.infoByte : (Tryz.prog.info? 5).map (fun i=>(i.zero,i.size,i.bytes)) = some (some (.int .u8 0),1,1):=by kernel_rfl
theorem gW.any (T:TypeId) (B0 b o:Nat) (cs:Array Value) (p v:Value) (t:ByteArray) (s:ByteArray) (w:World) (h:B.vF T 5 B0 b o cs p v (Lib.strCells t) w)
  (hlies:liesAt Tryz.prog Tryz.prog.depth T (cs.size / Tryz.prog.cellsOf T) o 226 1 = true) (hT:T ≠ 5) (hlen:t.size + s.size ≤ 140737488355328) (hBw:B0 ≤ w.heap.size) :
  Calls Tryz.prog 159 #[.pointer (some ⟨b,o,none⟩),.string s] w fun e w'=>e = .returned (.tuple #[.int .i64 s.size,.nilIface]) ∧
   (∃ v',B.vF T 5 B0 b o ((cs.setIfInBounds o (.pointer (some ⟨b,o,none⟩))).setIfInBounds (o + 1) v') (.pointer (some ⟨b,o,none⟩)) v' (Lib.strCells (t ++ s)) w') ∧ Below B0 w w':=by
 obtain ⟨i0,hi,hz0,hz1,hz2⟩:=info_parts gW.infoByte
 have hL:=Lib.strCells_length t
 have XE:=ah.mk hlies
 clear hlies
 have hC:=ah.mk h
 clear h
 have hT':=ah.mk hT
 clear hT
 have hlen':=ah.mk hlen
 clear hlen
 go_enter Tryz.func159,Tryz.ntmps159
 go_wp2_with (go_at_call 161;refine (cO.any T B0 b o cs p v _ _ hC.out XE.out).mono ?_)
 rintro e w1 ⟨rfl,h1,hb1⟩
 have c1:w1.cell? ⟨b,o + 1,none⟩ = some v:=by rw [Lib.cell_of_heap h1.blk];exact h1.v_
 have hown:=h1.own
 go_wp2_with (at_builtin;refine Lib.wpList_append_own_string _ rfl _ _ 189 9 rfl B0 5 i0 Tryz.underlying189 Tryz.underlying9 hi hz0 hz1 hz2 _ _ _ rfl hown s rfl ?c3 ?c4 ?c5 ?_)
 case c3=>rw [hL];unfold maxLen;have:=hlen'.out;omega
 case c4=>rw [hL];have:=hlen'.out;omega
 case c5=>have:=hb1.size;omega
 intro v' w2 hown' hgrow _
 have hlt:=h1.lt
 have hb2:w2.heap[b]? = some (.cells (cs.setIfInBounds o (.pointer (some ⟨b,o,none⟩))) T (0,0)):=by
  rw [hgrow.block b hlt (fun e=>h1.ne e.symm)]
  exact h1.blk
 have d1:w2.cell? ⟨b,o + 1,none⟩ = some v:=by rw [Lib.cell_of_heap hb2];exact h1.v_
 have f1:w2.frozen? ⟨b,o + 1,none⟩ = false:=Lib.frozen_of_heap hb2 (o + 1)
 obtain ⟨ao,n',cap,rfl⟩:∃ ao n' cap,v' = .slice ao n' cap:=by
  rcases hown'.2 with ⟨hv,_⟩ | ⟨g,cap,cur,hv,_⟩
  ·exact ⟨_,_,_,hv⟩
  ·exact ⟨_,_,_,hv⟩
 have hown2:w2.ownsRow B0 5 1 (.slice ao n' cap) (Lib.strCells (t ++ s)).length (Lib.strCells (t ++ s)):=by
  rw [← B.wS]
  simpa [Lib.strCells_length] using hown'
 have hput:=ah.mk (h1.put hb2 hown2 hT'.out)
 have hbel:=ah.mk ((hb1.grown hgrow (by have:=hb1.size;omega) (fun k hk=>(hown.lt k hk).1)).setCell (p:=⟨b,o + 1,none⟩) h1.base (.slice ao n' cap))
 clear hb2 hown2 hown' hgrow h1 hown hL hb1 c1
 go_wp2
 go_ret2
 exact ⟨rfl,⟨_,hput.out⟩,hbel.out⟩
def strings_Join.cat : List ByteArray → ByteArray
 | []=>⟨#[]⟩
 | x :: l=>x ++ strings_Join.cat l
theorem strings_Join.zk : ∀ l:List ByteArray,(⟨(Lib.join (l.map (·.data.toList)) (⟨#[]⟩:ByteArray).data.toList).toArray⟩:ByteArray) = strings_Join.cat l
 | []=>rfl
 | [x]=>by
  rw [ajk,ajn,Lib.join_one]
  refine akd ?_
  simp [strings_Join.cat,akJ]
 | x :: y :: l=>by
  have h:=strings_Join.zk (y :: l)
  refine akd ?_
  rw [strings_Join.cat,akJ,← h]
  simp [Lib.join,List.intercalate]
theorem strings_Join.calls (v:Value) (l:List ByteArray) (base:Nat) (ok:Nat → Prop) (w:World) (hr:Kd.R Kd.string 9 w base ok v l) (hl:l.length ≤ 1000000) (hz:(strings_Join.cat l).size ≤ 140737488355328) :
  Calls Tryz.prog 156 #[v,.string ⟨#[]⟩] w fun e w'=>e = .returned (.string (strings_Join.cat l)) ∧ Below w.heap.size w w':=by
 have ho:=Kd.uo hr
 rcases ho.2 with ⟨rfl,h0⟩ | ⟨g,cap,cur,rfl,hg,hh,hc,_,_,ht⟩
 ·obtain rfl:=List.length_eq_zero_iff.mp h0
  exact (Any.strings_Join_none Js wB none 0 ⟨#[]⟩ w).mono fun e w' ⟨he,hw⟩=>⟨he,hw ▸ Below.refl _ _⟩
 ·have hlt:g < w.heap.size:=(ake.1 hh).1
  have hcells:∀ (j:Nat) x,l[j]? = some x → w.cell? ⟨g,0 + j,none⟩ = some (.string x):=by
   intro j x hx
   have hj:j < l.length:=(aj1.1 hx).1
   have h:=(Kd.Oh ByteArray.empty hr (j:Int) (by omega) (by omega)).1
   rw [ajD]
   rw [Int.toNat_natCast] at h
   rw [h]
   unfold zY
   rw [Int.toNat_natCast,ajy,hx]
   rfl
  have hlen:(Lib.join (l.map (·.data.toList)) (⟨#[]⟩:ByteArray).data.toList).length ≤ 140737488355328:=by
   have h:=ajC ByteArray.size (strings_Join.zk l)
   rw [← h] at hz
   simpa [ByteArray.size] using hz
  refine (Any.strings_Join Js wB g 0 cap l ⟨#[]⟩ w hcells hlt (by omega) hc hlen).mono fun e w' ⟨he,hw⟩=>⟨?_,hw⟩
  rw [he,strings_Join.zk]
end
section
open Go.RowKit Go.Proofs.YtfokaoeinpnagaaGreatW.aX Go.Proofs.YtfokaoeinpnagaaGreatW.dL Go.Proofs.YtfokaoeinpnagaaGreatW.eO
attribute [local go_sem] jV jW lF lG jo jq jX jY
def ay.cs (msg:ByteArray) (i l n:Int) (p v:Value):Array Value:=#[.string msg,.int .i64 i,.int .i64 l,.int .i64 n,p,v]
def ay.Rd (B0 g:Nat) (msg:ByteArray) (i l n:Int) (t:ByteArray) (w:World):Prop :=
 ∃ p v,B.vF 228 5 B0 g 4 (ay.cs msg i l n p v) p v (Lib.strCells t) w
theorem ay.Rd.cells {B0 g:Nat} {msg:ByteArray} {i l n:Int} {t:ByteArray} {w:World} (h:ay.Rd B0 g msg i l n t w) :
  w.cell? ⟨g,0,none⟩ = some (.string msg) ∧ w.cell? ⟨g,1,none⟩ = some (.int .i64 i) ∧ w.cell? ⟨g,2,none⟩ = some (.int .i64 l) ∧ w.cell? ⟨g,3,none⟩ = some (.int .i64 n) ∧
  w.frozen? ⟨g,1,none⟩ = false ∧ w.frozen? ⟨g,2,none⟩ = false ∧ w.frozen? ⟨g,3,none⟩ = false:=by
 obtain ⟨p,v,h⟩:=h
 exact ⟨by rw [Lib.cell_of_heap h.blk];rfl,by rw [Lib.cell_of_heap h.blk];rfl,by rw [Lib.cell_of_heap h.blk];rfl,by rw [Lib.cell_of_heap h.blk];rfl,Lib.frozen_of_heap h.blk 1,Lib.frozen_of_heap h.blk 2,Lib.frozen_of_heap h.blk 3⟩
theorem ay.Rd.base {B0 g:Nat} {msg:ByteArray} {i l n:Int} {t:ByteArray} {w:World} (h:ay.Rd B0 g msg i l n t w):B0 ≤ g ∧ g < w.heap.size:=by
 obtain ⟨p,v,h⟩:=h
 exact ⟨h.base,h.lt⟩
theorem ay.Rd.drewN {B0 g:Nat} {msg:ByteArray} {i l n:Int} {t:ByteArray} {w:World} (h:ay.Rd B0 g msg i l n t w) (m:Nat):ay.Rd B0 g msg i l n t (w.drewN m):=by
 obtain ⟨p,v,h⟩:=h
 exact ⟨p,v,h.drewN m⟩
theorem ay.Rd.set1 {B0 g:Nat} {msg:ByteArray} {i l n:Int} {t:ByteArray} {w:World} (h:ay.Rd B0 g msg i l n t w) (x:Int):ay.Rd B0 g msg x l n t (w.setCell ⟨g,1,none⟩ (.int .i64 x)):=by
 obtain ⟨p,v,h⟩:=h
 exact ⟨p,v,h.set 1 _ (by omega) (by omega)⟩
theorem ay.Rd.set2 {B0 g:Nat} {msg:ByteArray} {i l n:Int} {t:ByteArray} {w:World} (h:ay.Rd B0 g msg i l n t w) (x:Int):ay.Rd B0 g msg i x n t (w.setCell ⟨g,2,none⟩ (.int .i64 x)):=by
 obtain ⟨p,v,h⟩:=h
 exact ⟨p,v,h.set 2 _ (by omega) (by omega)⟩
theorem ay.Rd.abY {B0 g:Nat} {msg:ByteArray} {i l n:Int} {t:ByteArray} {w:World} (h:ay.Rd B0 g msg i l n t w) (x:Int):ay.Rd B0 g msg i l x t (w.setCell ⟨g,3,none⟩ (.int .i64 x)):=by
 obtain ⟨p,v,h⟩:=h
 exact ⟨p,v,h.set 3 _ (by omega) (by omega)⟩
theorem ay.cut (B0 g:Nat) (msg:ByteArray) (i l n:Int) (t:ByteArray) (w:World) (h:ay.Rd B0 g msg i l n t w) (hs:msg.size ≤ 140737488355328) (hg:¬ kF msg i 2) :
  Calls Tryz.prog 154 #[.pointer (some ⟨g,0,none⟩)] w fun e w'=>e = .returned (.int .i64 2) ∧ ay.Rd B0 g msg i l n t w' ∧ Below B0 w w':=by
 have hget:=get_eq 9 (ajd _) msg i 2 (by omega)
 rw [ai9 hg] at hget
 have nQ:=ah.mk hget
 obtain ⟨c0,c1,c2,c3,f1,f2,f3⟩:=h.cells
 have hR:=ah.mk h
 clear hget h hs hg
 go_enter Tryz.func154,Tryz.ntmps154
 go_wp2
 go_quiet ((go_at_call 117;exact Calls.quiet_of ((aM.calls 9 msg i 2 _ _ _ nQ.out).mono fun _ _ h=>⟨h.1,h.2.out⟩)))
 go_wp2
 go_ret
 exact ⟨rfl,hR.out.drewN _,aj (Below.refl B0 w) _⟩
theorem ay.name (B0 g:Nat) (msg:ByteArray) (i l n:Int) (t:ByteArray) (w:World) (h:ay.Rd B0 g msg i l n t w) (hs:msg.size ≤ 140737488355328) (hg:kF msg i 2) (hl:l ≤ iF 2 msg i - 49152) :
  Calls Tryz.prog 154 #[.pointer (some ⟨g,0,none⟩)] w fun e w'=>e = .returned (.int .i64 3) ∧ ay.Rd B0 g msg i l n t w' ∧ Below B0 w w':=by
 have hget:=get_eq 9 (ajd _) msg i 2 (by omega)
 rw [ai8 hg] at hget
 have hr:=oU 2 msg i
 have nQ:=ah.mk (show aM.f 9 msg i 2 = some (iF 2 msg i,true) from hget)
 obtain ⟨c0,c1,c2,c3,f1,f2,f3⟩:=h.cells
 have hR:=ah.mk h
 generalize iF 2 msg i = q at nQ hr hl
 have hb0:0 ≤ q:=hr.1
 have hb1:q ≤ 65535:=by have:=hr.2;simp at this;omega
 have d1:decide (l ≤ q - 49152) = true:=aja hl
 clear hget h hs hg hr hl
 go_enter Tryz.func154,Tryz.ntmps154
 go_wp2
 go_quiet ((go_at_call 117;exact Calls.quiet_of ((aM.calls 9 msg i 2 _ _ _ nQ.out).mono fun _ _ h=>⟨h.1,h.2.out⟩)))
 go_wp2
 go_ret
 exact ⟨rfl,hR.out.drewN _,aj (Below.refl B0 w) _⟩
theorem ay.ok (B0 g:Nat) (msg:ByteArray) (i l n:Int) (t:ByteArray) (w:World) (h:ay.Rd B0 g msg i l n t w) (hs:msg.size ≤ 140737488355328) (hg:kF msg i 2) (hl:iF 2 msg i - 49152 < l) (n':Int) (hn0:ah (n' = if n = -1 then i + 2 else n)) :
  Calls Tryz.prog 154 #[.pointer (some ⟨g,0,none⟩)] w fun e w'=>e = .returned (.int .i64 0) ∧ ay.Rd B0 g msg (iF 2 msg i - 49152) (iF 2 msg i - 49152) n' t w' ∧ Below B0 w w':=by
 have hget:=get_eq 9 (ajd _) msg i 2 (by omega)
 rw [ai8 hg] at hget
 have hr:=oU 2 msg i
 have nQ:=ah.mk (show aM.f 9 msg i 2 = some (iF 2 msg i,true) from hget)
 obtain ⟨c0,c1,c2,c3,f1,f2,f3⟩:=h.cells
 have hR:=ah.mk h
 have hi0:=hg.1
 have hi1:i ≤ 140737488355328:=by have:=hg.2.2.2;omega
 have hB:=ah.mk h.base.1
 generalize iF 2 msg i = q at nQ hr hl ⊢
 have hb0:0 ≤ q:=hr.1
 have hb1:q ≤ 65535:=by have:=hr.2;simp at this;omega
 have d1:decide (l ≤ q - 49152) = false:=ajc (by omega)
 by_cases hn:n = -1
 ·subst hn
  have e':=hn0.out
  rw [ai8 rfl] at e'
  subst e'
  clear hn0
  have Lr:=ah.mk (((hR.out.abY (i + 2)).set1 (q - 49152)).set2 (q - 49152))
  have hBl:=ah.mk ((((Below.refl B0 w).setCell (p:=⟨g,3,none⟩) hB.out (.int .i64 (i + 2))).setCell (p:=⟨g,1,none⟩) hB.out (.int .i64 (q - 49152))).setCell (p:=⟨g,2,none⟩) hB.out (.int .i64 (q - 49152)))
  clear hget h hs hg hr hl hR
  go_enter Tryz.func154,Tryz.ntmps154
  go_wp2
  go_quiet ((go_at_call 117;exact Calls.quiet_of ((aM.calls 9 msg i 2 _ _ _ nQ.out).mono fun _ _ h=>⟨h.1,h.2.out⟩)))
  go_wp2
  go_ret
  exact ⟨rfl,Lr.out.drewN _,aj hBl.out _⟩
 ·have e':=hn0.out
  have d2:(n == -1) = false:=by simpa using hn
  rw [ai9 hn] at e'
  subst e'
  clear hn0
  have Lr:=ah.mk ((hR.out.set1 (q - 49152)).set2 (q - 49152))
  have hBl:=ah.mk (((Below.refl B0 w).setCell (p:=⟨g,1,none⟩) hB.out (.int .i64 (q - 49152))).setCell (p:=⟨g,2,none⟩) hB.out (.int .i64 (q - 49152)))
  clear hget h hs hg hr hl hR hn
  go_enter Tryz.func154,Tryz.ntmps154
  go_wp2
  go_quiet ((go_at_call 117;exact Calls.quiet_of ((aM.calls 9 msg i 2 _ _ _ nQ.out).mono fun _ _ h=>⟨h.1,h.2.out⟩)))
  go_wp2
  go_ret
  exact ⟨rfl,Lr.out.drewN _,aj hBl.out _⟩
theorem j5.str (B0 g:Nat) (msg:ByteArray) (i l n:Int) (t:ByteArray) (w:World) (h:ay.Rd B0 g msg i l n t w) (hw:B0 ≤ w.heap.size) :
  Calls Tryz.prog 157 #[.pointer (some ⟨g,4,none⟩)] w fun e w'=>e = .returned (.string t) ∧ (w'.cell? ⟨g,3,none⟩ = some (.int .i64 n)) ∧ Below B0 w w':=by
 have hc:=h.cells.2.2.2.1
 obtain ⟨p,v,h⟩:=h
 refine (aH.any _ B0 g 4 _ p v t w h hw).mono ?_
 rintro e w' ⟨rfl,hk,hb⟩
 exact ⟨rfl,by rw [(hk ⟨g,3,none⟩ rfl).1];exact hc,hb⟩
theorem j5.any (B0 g:Nat) (msg:ByteArray) (i l n:Int) (t:ByteArray) (w:World) (h:ay.Rd B0 g msg i l n t w) (hw:B0 ≤ w.heap.size) (ht:t.size ≤ 140737488355328) (hi:0 ≤ i) (hi2:i ≤ 140737488355328)
  (n':Int) (hn0:ah (n' = if n = -1 then i + 1 else n)) :
  Calls Tryz.prog 153 #[.pointer (some ⟨g,0,none⟩)] w fun e w'=>e = .returned (.tuple #[.string (t ++ (⟨#[0]⟩:ByteArray)),.int .i64 n',.int .i64 0]) ∧ Below B0 w w':=by
 obtain ⟨c0,c1,c2,c3,f1,f2,f3⟩:=h.cells
 have hR:=ah.mk h
 have hB:=ah.mk h.base.1
 have hw':=ah.mk hw
 have ht1:(t.size + 1 ≤ 9223372036854775807) = True:=ajj (by omega)
 have ht2:(9223372036854775807 < t.size + 1) = False:=eq_false (by omega)
 have ht3:decide (t.size + 1 ≤ 9223372036854775807) = true:=aja (by omega)
 by_cases hn:n = -1
 ·subst hn
  have e':=hn0.out
  rw [ai8 rfl] at e'
  subst e'
  clear hn0
  have Lr:=ah.mk (hR.out.abY (i + 1))
  have hc3:=Lr.out.cells.2.2.2.1
  have hBl:=ah.mk ((Below.refl B0 w).setCell (p:=⟨g,3,none⟩) hB.out (.int .i64 (i + 1)))
  have hsz:=ah.mk (show B0 ≤ (w.setCell ⟨g,3,none⟩ (.int .i64 (i + 1))).heap.size by have:=hBl.out.size;omega)
  clear h hw hR ht hB hw'
  go_enter Tryz.func153,Tryz.ntmps153
  go_wp2
  generalize w.setCell ⟨g,3,none⟩ (.int .i64 (i + 1)) = w1 at *
  clear c0 c1 c2 c3 f1 f2 f3
  go_region_with (go_at_call 157;refine (j5.str B0 g msg i l (i + 1) t _ (by first | exact Lr.out | exact Lr.out.drewN 1 | exact Lr.out.drewN _) (by first | exact hsz.out | (simp;exact hsz.out))).mono ?_;rintro e w' ⟨rfl,hk3,hb⟩;have hb':=ah.mk hb;clear hb)
  all_goals
   go_wp2
   go_ret3
   exact ⟨rfl,by first | exact hBl.out.trans hb'.out | exact (iL hBl.out).trans hb'.out | exact iL (hBl.out.trans hb'.out) | exact hBl.out.trans (iL hb'.out)⟩
 ·have e':=hn0.out
  have d2:(n == -1) = false:=by simpa using hn
  rw [ai9 hn] at e'
  subst e'
  clear hn0
  clear h hw ht hB
  go_enter Tryz.func153,Tryz.ntmps153
  go_wp2
  clear c0 c1 c2 f1 f2 f3
  go_region_with (go_at_call 157;refine (j5.str B0 g msg i l n' t _ (by first | exact hR.out | exact hR.out.drewN 1 | exact hR.out.drewN _) (by first | exact hw'.out | (simp;exact hw'.out))).mono ?_;rintro e w' ⟨rfl,hk3,hb⟩;have hb':=ah.mk hb;clear hb)
  all_goals
   go_wp2
   go_ret3
   exact ⟨rfl,by first | exact hb'.out | exact (iL (Below.refl B0 w)).trans hb'.out | exact iL hb'.out⟩
theorem dz.cut (B0 g:Nat) (msg:ByteArray) (i l n z:Int) (t:ByteArray) (w:World) (h:ay.Rd B0 g msg i l n t w) (hs:msg.size ≤ 140737488355328) (hz0:0 ≤ z) (hz1:z ≤ 255) (hg:¬ iR msg i (1 + z)) :
  Calls Tryz.prog 155 #[.pointer (some ⟨g,0,none⟩),.int .i64 z] w fun e w'=>e = .returned (.int .i64 2) ∧ ay.Rd B0 g msg i l n t w' ∧ Below B0 w w':=by
 have hget:=uG msg i (1 + z) (by omega)
 rw [ai9 hg] at hget
 have nQ:=ah.mk hget
 obtain ⟨c0,c1,c2,c3,f1,f2,f3⟩:=h.cells
 have hR:=ah.mk h
 clear hget h hs hg
 go_enter Tryz.func155,Tryz.ntmps155
 go_wp2
 go_quiet ((go_at_call 136;exact Calls.quiet_of ((eX.calls msg i (1 + z) _ _ _ nQ.out).mono fun _ _ h=>⟨h.1,h.2.out⟩)))
 go_wp2
 go_ret
 exact ⟨rfl,hR.out.drewN _,aj (Below.refl B0 w) _⟩
theorem dz.len (B0 g:Nat) (msg:ByteArray) (i l n:Int) (t:ByteArray) (w:World) (h:ay.Rd B0 g msg i l n t w) :
  Calls Tryz.prog 158 #[.pointer (some ⟨g,4,none⟩)] w fun e w'=>e = .returned (.int .i64 t.size) ∧ w = w':=by
 obtain ⟨p,v,h⟩:=h
 have:=q8.any _ B0 g 4 _ p v _ w h
 rw [Lib.strCells_length] at this
 exact this
theorem dz.lies : liesAt Tryz.prog Tryz.prog.depth 228 (6 / Tryz.prog.cellsOf 228) 4 226 1 = true:=by kernel_rfl
theorem dz.write (B0 g:Nat) (msg:ByteArray) (i l n:Int) (t s:ByteArray) (w:World) (h:ay.Rd B0 g msg i l n t w) (hlen:t.size + s.size ≤ 140737488355328) (hBw:B0 ≤ w.heap.size) :
  Calls Tryz.prog 159 #[.pointer (some ⟨g,4,none⟩),.string s] w fun e w'=>e = .returned (.tuple #[.int .i64 s.size,.nilIface]) ∧ ay.Rd B0 g msg i l n (t ++ s) w' ∧ Below B0 w w':=by
 obtain ⟨p,v,h⟩:=h
 refine (gW.any _ B0 g 4 _ p v t s w h dz.lies (by decide) hlen hBw).mono ?_
 rintro e w' ⟨rfl,⟨v',h'⟩,hb⟩
 exact ⟨rfl,⟨_,v',h'⟩,hb⟩
theorem dz.name (B0 g:Nat) (msg:ByteArray) (i l n z:Int) (t:ByteArray) (w:World) (h:ay.Rd B0 g msg i l n t w) (hs:msg.size ≤ 140737488355328) (hz0:0 ≤ z) (hz1:z ≤ 255) (hg:iR msg i (1 + z)) (ht:t.size ≤ 140737488355328) (hl:255 ≤ (t.size:Int) + (1 + z)) :
  Calls Tryz.prog 155 #[.pointer (some ⟨g,0,none⟩),.int .i64 z] w fun e w'=>e = .returned (.int .i64 3) ∧ ay.Rd B0 g msg i l n t w' ∧ Below B0 w w':=by
 have hget:=uG msg i (1 + z) (by omega)
 rw [ai8 hg] at hget
 have hsz:=B.size_ext hg.1 hg.2.1 hg.2.2
 have nQ:=ah.mk hget
 obtain ⟨c0,c1,c2,c3,f1,f2,f3⟩:=h.cells
 have hR:=ah.mk h
 generalize msg.extract i.toNat (i + (1 + z)).toNat = lb at *
 have hlb:lb.size ≤ 256:=by omega
 have d1:decide (255 ≤ (t.size:Int) + (lb.size:Int)) = true:=aja (by omega)
 have d2:decide (255 ≤ t.size + lb.size) = true:=aja (by omega)
 clear hget h hs hg hsz hl
 go_enter Tryz.func155,Tryz.ntmps155
 go_wp2
 go_quiet ((go_at_call 136;exact Calls.quiet_of ((eX.calls msg i (1 + z) _ _ _ nQ.out).mono fun _ _ h=>⟨h.1,h.2.out⟩)))
 go_wp2_with (go_at_call 158;refine (dz.len B0 g msg i l n t _ (hR.out.drewN _)).mono ?_;rintro e w' ⟨rfl,rfl⟩)
 go_ret
 exact ⟨rfl,hR.out.drewN _,aj (Below.refl B0 w) _⟩
theorem dz.ok (B0 g:Nat) (msg:ByteArray) (i l n z:Int) (t:ByteArray) (w:World) (h:ay.Rd B0 g msg i l n t w) (hw:B0 ≤ w.heap.size) (hs:msg.size ≤ 140737488355328) (hz0:0 ≤ z) (hz1:z ≤ 255) (hg:iR msg i (1 + z)) (hl:(t.size:Int) + (1 + z) < 255) :
  Calls Tryz.prog 155 #[.pointer (some ⟨g,0,none⟩),.int .i64 z] w fun e w'=>e = .returned (.int .i64 0) ∧ ay.Rd B0 g msg (i + (1 + z)) l n (t ++ msg.extract i.toNat (i + (1 + z)).toNat) w' ∧ Below B0 w w':=by
 have hget:=uG msg i (1 + z) (by omega)
 rw [ai8 hg] at hget
 have hsz:=B.size_ext hg.1 hg.2.1 hg.2.2
 have nQ:=ah.mk hget
 obtain ⟨c0,c1,c2,c3,f1,f2,f3⟩:=h.cells
 have hR:=ah.mk h
 have hi0:=hg.1
 have hi1:i ≤ 140737488355328:=by have:=hg.2.2;omega
 have hB:=ah.mk h.base.1
 generalize msg.extract i.toNat (i + (1 + z)).toNat = lb at *
 have hlb:lb.size ≤ 256:=by omega
 have htb:t.size ≤ 256:=by omega
 have d1:decide (255 ≤ (t.size:Int) + (lb.size:Int)) = false:=ajc (by omega)
 have d2:decide (255 ≤ t.size + lb.size) = false:=ajc (by omega)
 have hsum:=ah.mk (show i + (lb.size:Int) = i + (1 + z) by omega)
 have hw':=ah.mk hw
 clear hget h hs hg hsz hl hw
 go_enter Tryz.func155,Tryz.ntmps155
 go_wp2
 go_quiet ((go_at_call 136;exact Calls.quiet_of ((eX.calls msg i (1 + z) _ _ _ nQ.out).mono fun _ _ h=>⟨h.1,h.2.out⟩)))
 go_wp2_with (first | (go_at_call 158;refine (dz.len B0 g msg i l n t _ (hR.out.drewN _)).mono ?_;rintro e w' ⟨rfl,rfl⟩) | (go_at_call 159;refine (dz.write B0 g msg i l n t lb _ (hR.out.drewN _) (by omega) (by simpa using hw'.out)).mono ?_))
 rintro e w1 ⟨rfl,Lr,hb1⟩
 obtain ⟨e0,e1,e2,e3,g1,g2,g3⟩:=Lr.cells
 have hR2:=ah.mk (Lr.set1 (i + (1 + z)))
 rw [← hsum.out] at hR2
 have hBl:=ah.mk ((aj (Below.refl B0 w) _).trans (hb1.setCell (p:=⟨g,1,none⟩) hB.out (.int .i64 (i + (lb.size:Int)))))
 clear Lr hb1 c0 c1 c2 c3 f1 f2 f3
 go_wp2
 go_ret
 exact ⟨rfl,by rw [← hsum.out];exact hR2.out,hBl.out⟩
def bq.l : Nat → ByteArray → Int → Int → Int → ByteArray → Option (ByteArray × Int × Int)
 | 0,_,_,_,_,_=>none
 | k + 1,msg,i,least,next,t =>
  if kF msg i 1 then
   (if bt msg i = 0 then some (t ++ (⟨#[0]⟩:ByteArray),(if next = -1 then i + 1 else next),0)
   else if 192 ≤ bt msg i then
    (if kF msg i 2 then
     (if iF 2 msg i - 49152 ≥ least then some (⟨#[]⟩,0,3)
     else bq.l k msg (iF 2 msg i - 49152) (iF 2 msg i - 49152) (if next = -1 then i + 2 else next) t)
    else some (⟨#[]⟩,0,2))
   else if 63 < bt msg i then some (⟨#[]⟩,0,3)
   else if iR msg i (1 + bt msg i) then
    (if (t.size:Int) + (1 + bt msg i) ≥ 255 then some (⟨#[]⟩,0,3)
    else bq.l k msg (i + (1 + bt msg i)) least next (t ++ msg.extract i.toNat (i + (1 + bt msg i)).toNat))
   else some (⟨#[]⟩,0,2))
  else some (⟨#[]⟩,0,2)
def bq.f (k:Nat) (a0:ByteArray) (a1:Int):Option (ByteArray × Int × Int):=if a0.size ≤ 140737488355328 then bq.l k a0 a1 a1 (-1) ⟨#[]⟩ else none
theorem bq.zh : ∀ k m i l n t,nE (bq.l k m i l n t) (bq.l (k + 1) m i l n t)
 | 0,_,_,_,_,_=>fun r h=>by simp [bq.l] at h
 | k + 1,m,i,l,n,t=>by
  have ih:=bq.zh k
  rw [bq.l,bq.l]
  repeat' first
   | (with_reducible exact ih _ _ _ _ _)
   | (with_reducible exact nE.refl _)
   | (with_reducible refine nE.ite ?_ ?_)
theorem bq.mono : ∀ a0 a1 k,nE (bq.f k a0 a1) (bq.f (k + 1) a0 a1):=by
 intro a0 a1 k
 unfold bq.f
 exact nE.ite (bq.zh k _ _ _ _ _) (nE.refl _)
theorem bq.agz (msg:ByteArray) (i:Int) (hs:msg.size ≤ 140737488355328) (hg:kF msg i 1):aM.f 9 msg i 1 = some (bt msg i,true):=by
 have h:=get_eq 9 (ajd _) msg i 1 (by omega)
 rw [ai8 hg] at h
 rw [h]
 congr 1
 exact ajC (·,true) (FH msg i)
theorem bq.start (w:World) (msg:ByteArray) (i:Int) :
  ay.Rd w.heap.size w.heap.size msg i i (-1) ⟨#[]⟩ (w.alloc (.cells #[.string msg,.int .i64 i,.int .i64 i,.int .i64 (-1),.pointer none,.slice none 0 0] 228)) :=
 ⟨.pointer none,.slice none 0 0,ajd _,heap_alloc_new w _,rfl,rfl,.inl rfl,World.ownsRow_nil _ _ _ _,by simp [Value.ownBlock]⟩
def bq.St (R:ByteArray × Int × Int) (B0 g:Nat) (msg:ByteArray) (k:Nat) (x:Int) (w:World):Prop :=
 (x = 0 ∧ ∃ i l n t,ay.Rd B0 g msg i l n t w ∧ bq.l k msg i l n t = some R ∧ t.size ≤ 255) ∨ (x ≠ 0 ∧ R = (⟨#[]⟩,0,x))
theorem bq.calls (k:Nat) (a0:ByteArray) (a1:Int) (r1:ByteArray) (r2 r3:Int) (w:World) (h:bq.f k a0 a1 = some (r1,r2,r3)) :
  Calls Tryz.prog 146 #[.string a0,.int .i64 a1] w fun e w'=>e = .returned (.tuple #[.string r1,.int .i64 r2,.int .i64 r3]) ∧ Below w.heap.size w w':=by
 unfold bq.f at h
 by_cases hs:a0.size ≤ 140737488355328
 ·rw [ai8 hs] at h
  have hR:=ah.mk (bq.start w a0 a1)
  have hB:=ah.mk (ak (Below.refl w.heap.size w) (.cells #[.string a0,.int .i64 a1,.int .i64 a1,.int .i64 (-1),.pointer none,.slice none 0 0] 228))
  have hH:=ah.mk h
  have hsz:=ah.mk hs
  clear h hs
  go_enter Tryz.func146,Tryz.ntmps146
  go_wp2
  go_step3
  go_wp2
  go_step3
  go_wp2
  have hSt:=ah.mk (show bq.St (r1,r2,r3) w.heap.size w.heap.size a0 k 0 _ from .inl ⟨rfl,a1,a1, -1,⟨#[]⟩,hR.out,hH.out,by decide⟩)
  clear hR hH
  generalize w.alloc (.cells #[.string a0,.int .i64 a1,.int .i64 a1,.int .i64 (-1),.pointer none,.slice none 0 0] 228) = w1 at hSt hB ⊢
  generalize hgg:w.heap.size = g at hSt hB ⊢
  have hg':=ah.mk hgg
  clear hgg
  go_loopg [8] k (fun kq v8 wr=>∃ x:Int,v8 = .int .i64 x ∧ ah (bq.St (r1,r2,r3) g g a0 kq x wr) ∧ ah (kq ≤ k) ∧ ah (Below g w wr))
  case atStart=>exact ⟨0,rfl,hSt,⟨ajd _⟩,hB⟩
  case round =>
   clear hSt hB
   obtain ⟨x,rfl,HS,HK,HB⟩:=hrel
   rcases HS.out with ⟨hx,i,l,n,t,hR0,hH0,ht0⟩ | ⟨hx,hR⟩
   ·subst hx
    clear HS
    cases gk with
    | zero=>exact absurd hH0 (by simp [bq.l])
    | succ k2 =>
     have hR:=ah.mk hR0
     have m0:=hR0.cells.1
     have m1:=hR0.cells.2.1
     have hsz':=hsz.out
     have hBs:=ah.mk (show g ≤ wr.heap.size by have:=hR0.base.2;omega)
     have ht:=ah.mk ht0
     rw [bq.l] at hH0
     clear hR0 ht0
     by_cases hg:kF a0 i 1
     ·rw [ai8 hg] at hH0
      have hget:=ah.mk (bq.agz a0 i hsz' hg)
      have hi0:=hg.1
      have hi1:i ≤ 140737488355328:=by have:=hg.2.2.2;omega
      have hii:=ah.mk (And.intro hi0 hi1)
      have hbr:=gK a0 i
      clear hi0 hi1 hsz' hg
      by_cases c1:bt a0 i = 0
      ·rw [ai8 c1] at hH0
       rw [c1] at hget
       simp only [ajl,ajm] at hH0
       obtain ⟨rfl,h2,rfl⟩:=hH0
       have h2':=ah.mk h2.symm
       clear c1 hbr h2
       go_wp2
       go_quiet ((go_at_call 117;exact Calls.quiet_of ((aM.calls 9 a0 i 1 _ _ _ hget.out).mono fun _ _ h=>⟨h.1,h.2.out⟩)))
       go_wp2_with (go_at_call 153;refine (j5.any g g a0 i l n t _ (hR.out.drewN _) (by simpa using hBs.out) (by have:=ht.out;omega) hii.out.1 hii.out.2 r2 h2').mono ?_;rintro e w' ⟨rfl,hb⟩)
       (try rw [Exit.noGoto_ret])
       go_ret3
       exact ⟨rfl,by rw [hg'.out];exact (aj HB.out _).trans hb⟩
      ·rw [ai9 c1] at hH0
       have d1:(bt a0 i == 0) = false:=by simpa using c1
       by_cases c2:192 ≤ bt a0 i
       ·rw [ai8 c2] at hH0
        have d2:decide (192 ≤ bt a0 i) = true:=aja c2
        by_cases c3:kF a0 i 2
        ·rw [ai8 c3] at hH0
         by_cases c4:iF 2 a0 i - 49152 ≥ l
         ·rw [ai8 c4] at hH0
          simp only [ajl,ajm] at hH0
          obtain ⟨rfl,rfl,rfl⟩:=hH0
          have hF:=fun (W:World) (hW:ay.Rd g g a0 i l n t W)=>ay.name g g a0 i l n t W hW hsz.out c3 c4
          have hF':=ah.mk hF
          clear hF c1 c2 c3 c4 hbr
          generalize bt a0 i = c at *
          go_wp2
          go_quiet ((go_at_call 117;exact Calls.quiet_of ((aM.calls 9 a0 i 1 _ _ _ hget.out).mono fun _ _ h=>⟨h.1,h.2.out⟩)))
          go_wp2_with (go_at_call 154;refine (hF'.out _ (hR.out.drewN _)).mono ?_;rintro e w' ⟨rfl,hR',hb⟩)
          go_roundg k2
          case measure=>have:=HK.out;omega
          case rel=>exact ⟨3,rfl,⟨.inr ⟨by decide,rfl⟩⟩,⟨by have:=HK.out;omega⟩,⟨(aj HB.out _).trans hb⟩⟩
         ·rw [ai9 c4] at hH0
          have hF:=fun (W:World) (hW:ay.Rd g g a0 i l n t W)=>ay.ok g g a0 i l n t W hW hsz.out c3 (by omega) _ ⟨rfl⟩
          have hF':=ah.mk hF
          have hH1:=ah.mk hH0
          clear hF c1 c2 c3 c4 hbr hH0
          generalize bt a0 i = c at *
          go_wp2
          go_quiet ((go_at_call 117;exact Calls.quiet_of ((aM.calls 9 a0 i 1 _ _ _ hget.out).mono fun _ _ h=>⟨h.1,h.2.out⟩)))
          go_wp2_with (go_at_call 154;refine (hF'.out _ (hR.out.drewN _)).mono ?_;rintro e w' ⟨rfl,hR',hb⟩)
          go_roundg k2
          case measure=>have:=HK.out;omega
          case rel=>exact ⟨0,rfl,⟨.inl ⟨rfl,_,_,_,_,hR',hH1.out,ht.out⟩⟩,⟨by have:=HK.out;omega⟩,⟨(aj HB.out _).trans hb⟩⟩
        ·rw [ai9 c3] at hH0
         simp only [ajl,ajm] at hH0
         obtain ⟨rfl,rfl,rfl⟩:=hH0
         have hF:=fun (W:World) (hW:ay.Rd g g a0 i l n t W)=>ay.cut g g a0 i l n t W hW hsz.out c3
         have hF':=ah.mk hF
         clear hF c1 c2 c3 hbr
         generalize bt a0 i = c at *
         go_wp2
         go_quiet ((go_at_call 117;exact Calls.quiet_of ((aM.calls 9 a0 i 1 _ _ _ hget.out).mono fun _ _ h=>⟨h.1,h.2.out⟩)))
         go_wp2_with (go_at_call 154;refine (hF'.out _ (hR.out.drewN _)).mono ?_;rintro e w' ⟨rfl,hR',hb⟩)
         go_roundg k2
         case measure=>have:=HK.out;omega
         case rel=>exact ⟨2,rfl,⟨.inr ⟨by decide,rfl⟩⟩,⟨by have:=HK.out;omega⟩,⟨(aj HB.out _).trans hb⟩⟩
       ·rw [ai9 c2] at hH0
        have d2:decide (192 ≤ bt a0 i) = false:=ajc c2
        by_cases c3:63 < bt a0 i
        ·rw [ai8 c3] at hH0
         have d3:decide (63 < bt a0 i) = true:=aja c3
         simp only [ajl,ajm] at hH0
         obtain ⟨rfl,rfl,rfl⟩:=hH0
         clear c1 c2 c3 hbr
         generalize bt a0 i = c at *
         go_wp2
         go_quiet ((go_at_call 117;exact Calls.quiet_of ((aM.calls 9 a0 i 1 _ _ _ hget.out).mono fun _ _ h=>⟨h.1,h.2.out⟩)))
         go_wp2
         go_roundg k2
         case measure=>have:=HK.out;omega
         case rel=>exact ⟨3,rfl,⟨.inr ⟨by decide,rfl⟩⟩,⟨by have:=HK.out;omega⟩,⟨aj HB.out _⟩⟩
        ·rw [ai9 c3] at hH0
         have d3:decide (63 < bt a0 i) = false:=ajc c3
         by_cases c4:iR a0 i (1 + bt a0 i)
         ·rw [ai8 c4] at hH0
          by_cases c5:(t.size:Int) + (1 + bt a0 i) ≥ 255
          ·rw [ai8 c5] at hH0
           simp only [ajl,ajm] at hH0
           obtain ⟨rfl,rfl,rfl⟩:=hH0
           have hF:=fun (W:World) (hW:ay.Rd g g a0 i l n t W)=>dz.name g g a0 i l n (bt a0 i) t W hW hsz.out hbr.1 hbr.2 c4 (by have:=ht.out;omega) c5
           have hF':=ah.mk hF
           clear hF c1 c2 c3 c4 c5 hbr
           generalize bt a0 i = c at *
           go_wp2
           go_quiet ((go_at_call 117;exact Calls.quiet_of ((aM.calls 9 a0 i 1 _ _ _ hget.out).mono fun _ _ h=>⟨h.1,h.2.out⟩)))
           go_wp2_with (go_at_call 155;refine (hF'.out _ (hR.out.drewN _)).mono ?_;rintro e w' ⟨rfl,hR',hb⟩)
           go_roundg k2
           case measure=>have:=HK.out;omega
           case rel=>exact ⟨3,rfl,⟨.inr ⟨by decide,rfl⟩⟩,⟨by have:=HK.out;omega⟩,⟨(aj HB.out _).trans hb⟩⟩
          ·rw [ai9 c5] at hH0
           have hF:=fun (W:World) (hw:g ≤ W.heap.size) (hW:ay.Rd g g a0 i l n t W)=>dz.ok g g a0 i l n (bt a0 i) t W hW hw hsz.out hbr.1 hbr.2 c4 (by omega)
           have hF':=ah.mk hF
           have hH1:=ah.mk hH0
           have hz:=B.size_ext c4.1 c4.2.1 c4.2.2
           have ht2:=ah.mk (show (t ++ a0.extract i.toNat (i + (1 + bt a0 i)).toNat).size ≤ 255 by rw [ajs];omega)
           clear hF c1 c2 c3 c4 c5 hbr hH0 hz
           generalize bt a0 i = c at *
           go_wp2
           go_quiet ((go_at_call 117;exact Calls.quiet_of ((aM.calls 9 a0 i 1 _ _ _ hget.out).mono fun _ _ h=>⟨h.1,h.2.out⟩)))
           go_wp2_with (go_at_call 155;refine (hF'.out _ (by simpa using hBs.out) (hR.out.drewN _)).mono ?_;rintro e w' ⟨rfl,hR',hb⟩)
           go_roundg k2
           case measure=>have:=HK.out;omega
           case rel=>exact ⟨0,rfl,⟨.inl ⟨rfl,_,_,_,_,hR',hH1.out,ht2.out⟩⟩,⟨by have:=HK.out;omega⟩,⟨(aj HB.out _).trans hb⟩⟩
         ·rw [ai9 c4] at hH0
          simp only [ajl,ajm] at hH0
          obtain ⟨rfl,rfl,rfl⟩:=hH0
          have hF:=fun (W:World) (hW:ay.Rd g g a0 i l n t W)=>dz.cut g g a0 i l n (bt a0 i) t W hW hsz.out hbr.1 hbr.2 c4
          have hF':=ah.mk hF
          clear hF c1 c2 c3 c4 hbr
          generalize bt a0 i = c at *
          go_wp2
          go_quiet ((go_at_call 117;exact Calls.quiet_of ((aM.calls 9 a0 i 1 _ _ _ hget.out).mono fun _ _ h=>⟨h.1,h.2.out⟩)))
          go_wp2_with (go_at_call 155;refine (hF'.out _ (hR.out.drewN _)).mono ?_;rintro e w' ⟨rfl,hR',hb⟩)
          go_roundg k2
          case measure=>have:=HK.out;omega
          case rel=>exact ⟨2,rfl,⟨.inr ⟨by decide,rfl⟩⟩,⟨by have:=HK.out;omega⟩,⟨(aj HB.out _).trans hb⟩⟩
     ·rw [ai9 hg] at hH0
      have h:=get_eq 9 (ajd _) a0 i 1 (by omega)
      rw [ai9 hg] at h
      have hget:=ah.mk h
      simp only [ajl,ajm] at hH0
      obtain ⟨rfl,rfl,rfl⟩:=hH0
      clear hg h hsz'
      go_wp2
      go_quiet ((go_at_call 117;exact Calls.quiet_of ((aM.calls 9 a0 i 1 _ _ _ hget.out).mono fun _ _ h=>⟨h.1,h.2.out⟩)))
      go_wp2
      (try rw [Exit.noGoto_ret])
      go_ret3
      exact ⟨rfl,by rw [hg'.out];exact aj HB.out _⟩
   ·simp only [ajm] at hR
    obtain ⟨rfl,rfl,rfl⟩:=hR
    have d1:(r3 == 0) = false:=by simpa using hx
    clear HS hx
    go_wp2
    (try rw [Exit.noGoto_ret])
    go_ret3
    exact ⟨rfl,by rw [hg'.out];exact HB.out⟩
 ·rw [ai9 hs] at h
  exact absurd h (by simp)
end
section
open Go.RowKit Go.Proofs.YtfokaoeinpnagaaGreatW.aX Go.Proofs.YtfokaoeinpnagaaGreatW.dL Go.Proofs.YtfokaoeinpnagaaGreatW.eO
attribute [local go_sem] jV jW lF lG jo jq jX jY
def fU.f (a0:Int):Option (ByteArray × Int × Int):=some ((⟨#[]⟩:ByteArray),0,a0)
def dX.l0 : Nat → ByteArray → Int → ByteArray → Int → Int → Option (ByteArray × Int × Int)
 | 0,_,_,_,_,_=>none
 | k + 1,x0,x1,x7,x8,x9=>(bE.f k x0 x1 1).bind fun Bt=>(if Bt.2 = true then (if Bt.1 = 0 then (if x8 < 0 then (if x7.size + 1 ≤ 9223372036854775807 then (some (x7 ++ (⟨#[0]⟩:ByteArray),wrap64 (x1 + 1),0)) else (none)) else (if x7.size + 1 ≤ 9223372036854775807 then (some (x7 ++ (⟨#[0]⟩:ByteArray),x8,0)) else (none))) else (if Bt.1 ≥ 192 then ((bE.f k x0 x1 2).bind fun Bu=>(if Bu.2 = true then (if (wrap64 (Bu.1 - 49152)) ≥ x9 then ((fU.f 3).bind fun OM=>(some (OM.1,OM.2.1,OM.2.2))) else (if x8 < 0 then (dX.l0 k x0 (wrap64 (Bu.1 - 49152)) x7 (wrap64 (x1 + 2)) (wrap64 (Bu.1 - 49152))) else (dX.l0 k x0 (wrap64 (Bu.1 - 49152)) x7 x8 (wrap64 (Bu.1 - 49152))))) else ((fU.f 2).bind fun OO=>(some (OO.1,OO.2.1,OO.2.2))))) else (if Bt.1 > 63 then ((fU.f 3).bind fun OP=>(some (OP.1,OP.2.1,OP.2.2))) else ((iJ.f x0 x1 (wrap64 (Bt.1 + 1))).bind fun Jt=>(if Jt.2 = true then (if x7.size + Jt.1.size ≤ 9223372036854775807 then (if (wrap64 (((x7 ++ Jt.1).size:Int) + 1)) > 255 then ((fU.f 3).bind fun OQ=>(some (OQ.1,OQ.2.1,OQ.2.2))) else (dX.l0 k x0 (wrap64 ((wrap64 (x1 + Bt.1)) + 1)) (x7 ++ Jt.1) x8 x9)) else (none)) else ((fU.f 2).bind fun OT=>(some (OT.1,OT.2.1,OT.2.2)))))))) else ((fU.f 2).bind fun OU=>(some (OU.1,OU.2.1,OU.2.2))))
def dX.f (k:Nat) (a0:ByteArray) (a1:Int):Option (ByteArray × Int × Int):=dX.l0 k a0 a1 (⟨#[]⟩:ByteArray) (-1) a1
end
section
open Go.RowKit Go.Proofs.YtfokaoeinpnagaaGreatW.aX Go.Proofs.YtfokaoeinpnagaaGreatW.dL Go.Proofs.YtfokaoeinpnagaaGreatW.eO Go.Proofs.YtfokaoeinpnagaaGreat.B
theorem Ju {msg:ByteArray} {i:Int} (h:192 ≤ bt msg i):49152 ≤ iF 2 msg i ∧ iF 2 msg i ≤ 65535:=by
 have h1:=gK msg i
 have h2:=gK msg (i + 1)
 simp [iF]
 omega
theorem agA (a b:Nat) (c:Int) (h:(b:Int) = 1 + c) (ha:a ≤ 254) (hb:c ≤ 63) (h0:0 ≤ c):wrap64 (((a + b:Nat):Int) + 1) = a + (1 + c) + 1:=by
 rw [jQ (by omega) (by omega)];omega
theorem KO (d:Nat):∀ (k:Nat) (msg:ByteArray) (i l n:Int) (t:ByteArray),l.toNat + (255 - t.size) < d → d + 10 ≤ k → msg.size ≤ 100000 → t.size ≤ 254 → (n = -1 ∨ 0 ≤ n) →
  ∃ R,bq.l k msg i l n t = some R ∧ dX.l0 k msg i t n l = some R:=by
 induction d with
 | zero=>intro k msg i l n t h;omega
 | succ d ih =>
  intro k msg i l n t hd hk hm ht hn
  obtain ⟨k,rfl⟩:∃ m,k = m + 1:=⟨k - 1,by omega⟩
  rw [bq.l,dX.l0,zi k (by omega) msg i 1 (by omega),zi k (by omega) msg i 2 (by omega)]
  simp only [Option.bind_some]
  by_cases g1:kF msg i 1
  ·have hr:=gK msg i
   have e1:iF (1:Int).toNat msg i = bt msg i:=FH msg i
   have hi0:=g1.1
   have hi1:=g1.2.2.2
   simp only [ai8 g1,e1,ajH]
   by_cases c0:bt msg i = 0
   ·simp only [ai8 c0]
    have z:t.size + 1 ≤ 9223372036854775807:=by omega
    simp only [ai8 z]
    rw [jQ (n:=i + 1) (by omega) (by omega)]
    rcases hn with rfl | hn
    ·rw [ai8 (show (-1:Int) < 0 by omega),ai8 rfl];exact ⟨_,rfl,rfl⟩
    ·rw [ai9 (show ¬ n < 0 by omega),ai9 (show ¬ n = -1 by omega)];exact ⟨_,rfl,rfl⟩
   ·simp only [ai9 c0]
    by_cases c1:192 ≤ bt msg i
    ·have hg:=Ju c1
     simp only [ai8 c1,ai8 (show bt msg i ≥ 192 from c1)]
     by_cases g2:kF msg i 2
     ·have e2:iF (2:Int).toNat msg i = iF 2 msg i:=rfl
      have hi2:=g2.2.2.2
      simp only [ai8 g2,e2,ajH]
      rw [jQ (n:=iF 2 msg i - 49152) (by omega) (by omega),jQ (n:=i + 2) (by omega) (by omega)]
      by_cases c2:iF 2 msg i - 49152 ≥ l
      ·rw [ai8 c2,ai8 c2]
       exact ⟨_,rfl,rfl⟩
      ·rw [ai9 c2,ai9 c2]
       rcases hn with rfl | hn
       ·rw [ai8 (show (-1:Int) < 0 by omega),ai8 rfl]
        exact ih k msg _ _ _ t (by omega) (by omega) hm ht (.inr (by omega))
       ·rw [ai9 (show ¬ n < 0 by omega),ai9 (show ¬ n = -1 by omega)]
        exact ih k msg _ _ _ t (by omega) (by omega) hm ht (.inr hn)
     ·simp only [ai9 g2,ajB,ajv]
      exact ⟨_,rfl,rfl⟩
    ·simp only [ai9 c1,ai9 (show ¬ bt msg i ≥ 192 from c1)]
     by_cases c2:63 < bt msg i
     ·rw [ai8 c2,ai8 (show bt msg i > 63 from c2)]
      exact ⟨_,rfl,rfl⟩
     ·rw [ai9 c2,ai9 (show ¬ bt msg i > 63 from c2),jQ (n:=bt msg i + 1) (by omega) (by omega),wu msg i _ (by omega),show bt msg i + 1 = 1 + bt msg i from by omega]
      simp only [Option.bind_some]
      by_cases g3:iR msg i (1 + bt msg i)
      ·have hz:=size_ext g3.1 g3.2.1 g3.2.2
       simp only [ai8 g3,ajH]
       have hsz:t.size + (msg.extract i.toNat (i + (1 + bt msg i)).toNat).size ≤ 9223372036854775807:=by omega
       rw [ai8 hsz,ajs,agA _ _ _ hz ht (by omega) (by omega)]
       clear hsz
       by_cases c3:(t.size:Int) + (1 + bt msg i) ≥ 255
       ·rw [ai8 c3,ai8 (show (t.size:Int) + (1 + bt msg i) + 1 > 255 by omega)]
        exact ⟨_,rfl,rfl⟩
       ·have hb:=g3.2.2
        rw [ai9 c3,ai9 (show ¬ (t.size:Int) + (1 + bt msg i) + 1 > 255 by omega),jQ (n:=i + bt msg i) (by omega) (by omega),jQ (n:=i + bt msg i + 1) (by omega) (by omega),show i + bt msg i + 1 = i + (1 + bt msg i) from by omega]
        exact ih k msg _ _ _ _ (by rw [ajs];omega) (by omega) hm (by rw [ajs];omega) hn
      ·simp only [ai9 g3,ajB,ajv]
       exact ⟨_,rfl,rfl⟩
  ·simp only [ai9 g1,ajB,ajv]
   exact ⟨_,rfl,rfl⟩
theorem FJ {k k':Nat} (hk:k ≤ k') {msg:ByteArray} {i:Int} {R:ByteArray × Int × Int} (h:bq.f k msg i = some R):bq.f k' msg i = some R:=vo (fun k=>bq.mono msg i k) hk h
def rounds (i:Int):Nat:=i.toNat + 300
theorem KP (k:Nat) (msg:ByteArray) (i:Int) (hm:msg.size ≤ 100000) (hk:rounds i ≤ k):∃ R,bq.f k msg i = some R ∧ dX.f k msg i = some R:=by
 unfold rounds at hk
 obtain ⟨R,h1,h2⟩:=KO (i.toNat + 256) k msg i i (-1) ⟨#[]⟩ (by rw [Oo];omega) (by omega) hm (by decide) (.inl rfl)
 refine ⟨R,?_,h2⟩
 unfold bq.f
 rw [ai8 (by omega)]
 exact h1
def pre (t:ByteArray):Prop:=∃ ls,t = Ab ls ∧ ∀ x ∈ ls,wY x
theorem pre_nil : pre ⟨#[]⟩:=⟨[],rfl,by simp⟩
theorem OV {t x:ByteArray} (h:pre t) (hx:wY x):pre (t ++ (sg x.size ++ x)):=by
 obtain ⟨ls,rfl,hok⟩:=h
 refine ⟨ls ++ [x],?_,?_⟩
 ·rw [Fj];simp only [Ab];rw [append_empty]
 ·intro y hy
  rcases ajE.mp hy with hy | hy
  ·exact hok y hy
  ·rw [aj0] at hy;subst hy;exact hx
theorem KQ {msg:ByteArray} {i:Int} (h:iR msg i (1 + bt msg i)) (h1:1 ≤ bt msg i) (h2:bt msg i ≤ 63):∃ x,wY x ∧ msg.extract i.toNat (i + (1 + bt msg i)).toNat = sg x.size ++ x:=by
 obtain ⟨g0,g1,g2⟩:=h
 have hz:=size_ext g0 g1 g2
 refine ⟨msg.extract (i.toNat + 1) (i + (1 + bt msg i)).toNat,?_,?_⟩
 ·unfold wY;rw [ajJ];omega
 ·have e:(msg.extract (i.toNat + 1) (i + (1 + bt msg i)).toNat).size = (bt msg i).toNat:=by rw [ajJ];omega
  rw [e]
  have h3:msg.extract i.toNat (i.toNat + 1) = sg ((bt msg i).toNat:Nat):=by
   refine Dg (by rw [l7,ajJ];omega) fun j j0 j1=>?_
   rw [ajJ] at j1
   have:j = 0:=by omega
   subst this
   rw [mY (by omega) (by rw [ajJ];omega),Jg _ (by omega)]
   rw [show ((i.toNat:Nat):Int) + 0 = i from by omega]
   omega
  rw [← h3,ByteArray.extract_append_extract]
  congr 1 <;> omega
theorem KR (k:Nat):∀ (msg:ByteArray) (a i l n:Int) (t:ByteArray) (R:ByteArray × Int × Int),0 ≤ a → pre t → t.size ≤ 254 → ((n = -1 ∧ a ≤ i) ∨ (a < n ∧ n ≤ (msg.size:Int))) → bq.l k msg i l n t = some R →
  (R.2.2 = 0 ∧ gN R.1 = true ∧ a < R.2.1 ∧ R.2.1 ≤ (msg.size:Int)) ∨ ((R.2.2 = 2 ∨ R.2.2 = 3) ∧ R.1 = ⟨#[]⟩ ∧ R.2.1 = 0):=by
 induction k with
 | zero=>intro msg a i l n t R _ _ _ _ h;simp [bq.l] at h
 | succ k ih =>
  intro msg a i l n t R ha hp ht hn h
  rw [bq.l] at h
  by_cases g1:kF msg i 1
  ·have hr:=gK msg i
   have hi0:=g1.1
   have hi1:=g1.2.2.2
   rw [ai8 g1] at h
   by_cases c0:bt msg i = 0
   ·rw [ai8 c0] at h
    cases h
    left
    refine ⟨rfl,?_,?_⟩
    ·obtain ⟨ls,rfl,hok⟩:=hp
     exact lH.mpr ⟨ls,rfl,hok,by rw [ajs];show _ + root.size ≤ 255;rw [iQ];omega⟩
    ·rcases hn with ⟨rfl,hn⟩ | hn
     ·rw [ai8 rfl];exact ⟨(by show a < i + 1;omega),(by show i + 1 ≤ (msg.size:Int);omega)⟩
     ·rw [ai9 (by omega)];exact hn
   ·rw [ai9 c0] at h
    by_cases c1:192 ≤ bt msg i
    ·rw [ai8 c1] at h
     have hg:=Ju c1
     by_cases g2:kF msg i 2
     ·rw [ai8 g2] at h
      have hi2:=g2.2.2.2
      by_cases c2:iF 2 msg i - 49152 ≥ l
      ·rw [ai8 c2] at h
       cases h;right;exact ⟨.inr rfl,rfl,rfl⟩
      ·rw [ai9 c2] at h
       rcases hn with ⟨rfl,hn⟩ | hn
       ·rw [ai8 rfl] at h
        exact ih msg a _ _ _ t R ha hp ht (.inr ⟨by omega,by omega⟩) h
       ·rw [ai9 (by omega)] at h
        exact ih msg a _ _ _ t R ha hp ht (.inr hn) h
     ·rw [ai9 g2] at h
      cases h;right;exact ⟨.inl rfl,rfl,rfl⟩
    ·rw [ai9 c1] at h
     by_cases c2:63 < bt msg i
     ·rw [ai8 c2] at h
      cases h;right;exact ⟨.inr rfl,rfl,rfl⟩
     ·rw [ai9 c2] at h
      by_cases g3:iR msg i (1 + bt msg i)
      ·rw [ai8 g3] at h
       by_cases c3:(t.size:Int) + (1 + bt msg i) ≥ 255
       ·rw [ai8 c3] at h
        cases h;right;exact ⟨.inr rfl,rfl,rfl⟩
       ·rw [ai9 c3] at h
        have hz:=size_ext g3.1 g3.2.1 g3.2.2
        obtain ⟨x,hx,hxe⟩:=KQ g3 (by omega) (by omega)
        refine ih msg a _ _ _ _ R ha ?_ (by rw [ajs];omega) ?_ h
        ·rw [hxe];exact OV hp hx
        ·rcases hn with ⟨rfl,hn⟩ | hn
         ·exact .inl ⟨rfl,by omega⟩
         ·exact .inr hn
      ·rw [ai9 g3] at h
       cases h;right;exact ⟨.inl rfl,rfl,rfl⟩
  ·rw [ai9 g1] at h
   cases h;right;exact ⟨.inl rfl,rfl,rfl⟩
theorem XF {k:Nat} {msg:ByteArray} {i:Int} {R:ByteArray × Int × Int} (hm:msg.size ≤ 100000):bq.f k msg i = some R ↔ bq.l k msg i i (-1) ⟨#[]⟩ = some R:=by
 unfold bq.f;rw [ai8 (by omega)]
theorem Hz {k:Nat} {msg:ByteArray} {i:Int} {R:ByteArray × Int × Int} (hm:msg.size ≤ 100000) (h:bq.f k msg i = some R) :
  (R.2.2 = 0 ∧ gN R.1 = true ∧ 0 ≤ i ∧ i < R.2.1 ∧ R.2.1 ≤ (msg.size:Int)) ∨ ((R.2.2 = 2 ∨ R.2.2 = 3) ∧ R.1 = ⟨#[]⟩ ∧ R.2.1 = 0):=by
 rw [XF hm] at h
 by_cases h0:0 ≤ i
 ·rcases KR k msg i i i (-1) ⟨#[]⟩ R h0 pre_nil (by decide) (.inl ⟨rfl,aj2 _⟩) h with ⟨h1,h2,h3,h4⟩ | h1
  ·exact .inl ⟨h1,h2,h0,h3,h4⟩
  ·exact .inr h1
 ·cases k with
  | zero=>simp [bq.l] at h
  | succ k =>
   rw [bq.l,ai9 (fun g=>h0 g.1)] at h
   cases h;right;exact ⟨.inl rfl,rfl,rfl⟩
end
section
open Go.RowKit Go.Proofs.YtfokaoeinpnagaaGreatW.aX Go.Proofs.YtfokaoeinpnagaaGreatW.dL Go.Proofs.YtfokaoeinpnagaaGreatW.eO Go.Proofs.YtfokaoeinpnagaaGreat.B
def plL : List ByteArray → Int → ByteArray → Int
 | [],_,_=>-1
 | x :: m,o,r=>if same (enc (x :: m)) r then o else plL m (o + 1 + x.size) r
def wrL (m:List ByteArray) (a:Int):List ByteArray → ByteArray → ByteArray
 | [],p=>p ++ root
 | x :: l,p=>if 0 ≤ plL m 0 (enc (x :: l)) then p ++ agw (49152 + a + plL m 0 (enc (x :: l))) 2 else wrL m a l (p ++ (sg x.size ++ x))
def wr (base:ByteArray) (a:Int) (n:ByteArray):ByteArray:=match qX base,qX n with
 | some m,some ls=>if 0 ≤ a ∧ a ≤ 16000 then wrL m a ls ⟨#[]⟩ else ⟨#[]⟩
 | _,_=>⟨#[]⟩
theorem Sl : root = sg 0:=by
 refine Dg (by rw [iQ,l7]) fun i h0 h1=>?_
 rw [iQ] at h1
 have:i = 0:=by omega
 subst this
 rw [Dh,Jg 0 (by omega)]
theorem Du (xs ys:List Int):strOfNums (xs ++ ys) = strOfNums xs ++ strOfNums ys:=by
 refine akd ?_
 rw [akJ]
 simp [strOfNums]
theorem Ae (a b:ByteArray):numsOf (a ++ b) = numsOf a ++ numsOf b:=by
 unfold numsOf;rw [akJ];simp
theorem wC (a b:ByteArray):gU (a ++ b) = gU a ++ gU b:=by
 unfold gU;rw [Ae,aks,Du]
theorem kG (a:ByteArray):(gU a).size = a.size:=by unfold gU;rw [strOfNums_size,ajb,numsOf_length]
theorem Sm {l:List ByteArray} (hok:∀ x ∈ l,wY x) (hz:(enc l).size ≤ 255):gN (enc l) = true:=lH.mpr ⟨l,rfl,hok,hz⟩
end
end Go.Proofs.YtfokaoeinpnagaaGreat.ZQ
namespace Go.Proofs.YtfokaoeinpnagaaGreat.Mi
open Go Go.Proofs.YtfokaoeinpnagaaGreatW.aX
def ents : Nat → List (Int × Value) → List MapEntry
 | _,[]=>[]
 | i,(k,v) :: l=>{ key:=.int .i64 k,val:=v,born:=i } :: ents (i + 1) l
def sP (k:Int):List (Int × Value) → Option Value
 | []=>none
 | (k',v) :: l=>if k = k' then some v else sP k l
theorem oV (k:Int):∀ (l:List (Int × Value)) (i j:Nat),∃ r,Instr.findNow (.int .i64) (.int .i64 k) (ents i l) j = some r ∧ r.map (·.2) = sP k l
 | [],i,j=>⟨none,rfl,rfl⟩
 | (k',v) :: l,i,j=>by
  obtain ⟨r,h1,h2⟩:=oV k l (i + 1) (j + 1)
  unfold ents sP Instr.findNow
  by_cases h:k = k'
  ·subst h
   exact ⟨some (j,v),by simp [Instr.sameNow],by simp⟩
  ·have hb:(k == k') = false:=by simpa using h
   exact ⟨r,by simp [Instr.sameNow,hb,h1],by simp [h,h2]⟩
theorem Bv (k:Int) (v:Value):∀ (l:List (Int × Value)) (i:Nat),ents i (l ++ [(k,v)]) = ents i l ++ [{ key:=.int .i64 k,val:=v,born:=i + l.length }]
 | [],i=>rfl
 | (k',v') :: l,i=>by
  simp only [List.cons_append,ents,Bv k v l (i + 1),List.length_cons]
  rw [show i + 1 + l.length = i + (l.length + 1) from by omega]
def At (w:World) (b:Nat) (l:List (Int × Value)):Prop:=w.heap[b]? = some (.map (ents 0 l).toArray l.length)
variable {P : Program}
theorem HV {w:World} {b:Nat} {l:List (Int × Value)} (h:At w b l) (t kt et:TypeId) (hm:P.underlying t = some (.map kt et)) (hk:P.underlying kt = some (.int .i64)) (k:Int) (v:Value) (hn:sP k l = none) :
  ∃ w',(Instr.mapUpdate t (.map (some b)) (.int .i64 k) v).run P w = .ok () w' ∧ At w' b (l ++ [(k,v)]) ∧ w.grownBy w' (some b):=by
 obtain ⟨r,h1,h2⟩:=oV k l 0 0
 rw [hn] at h2
 obtain rfl:r = none:=by cases r with | none=>rfl | some x=>cases h2
 have hc:(Instr.checkKey false 10000 kt (.int .i64 k)).run P w = .ok () w:=MapKept.run_checkKey (k:=.int .i64 k) hk (by simp [MapKept.IsKey]) false 9999
 refine ⟨{ w with heap:=w.heap.setIfInBounds b (.map (ents 0 (l ++ [(k,v)])).toArray (l ++ [(k,v)]).length) },?_,(MapKept.heap_set h).1,⟨rfl,rfl,rfl,by simp,fun i _ hi=>(MapKept.heap_set h).2 i (fun e=>hi (by rw [e]))⟩⟩
 unfold At at h
 simp [Instr.mapUpdate,run_underlying hm,MapKept.run_getObj_map h,hc,MapKept.run_findKey hk h1,MapKept.run_setObj_map _ h,Result.andThen]
 rw [Bv]
 simp
theorem look {w:World} {b:Nat} {l:List (Int × Value)} (h:At w b l) (t kt et:TypeId) (hm:P.underlying t = some (.map kt et)) (hk:P.underlying kt = some (.int .i64)) (z:Value) (hz:(zeroValue et).run P w = .ok z w) (k:Int) :
  (Instr.lookup t (.map (some b)) (.int .i64 k) true).run P w = .ok (.tuple #[(sP k l).getD z,.bool (sP k l).isSome]) w:=by
 obtain ⟨r,h1,h2⟩:=oV k l 0 0
 unfold At at h
 have hc:∀ e,(Instr.checkKey e 10000 kt (.int .i64 k)).run P w = .ok () w:=fun e=>MapKept.run_checkKey (k:=.int .i64 k) hk (by simp [MapKept.IsKey]) e 9999
 rw [← h2]
 cases r with
 | none=>simp [Instr.lookup,run_underlying hm,MapKept.run_getObj_map h,hc,MapKept.run_findKey hk h1,Result.andThen,hz]
 | some x=>obtain ⟨i,v⟩:=x;simp [Instr.lookup,run_underlying hm,MapKept.run_getObj_map h,hc,MapKept.run_findKey hk h1,Result.andThen]
theorem KT (w:World) {ops:Array Oper} {rest:List Oper} {o:Oper} {a:Act} {Q:Exit → Act → World → Prop}
  (hg:o.guard = none) (m x v:Operand) (t:TypeId) (hop:o.op = Op.insert t m x v)
  (kt et:TypeId) (ht:P.underlying t = some (.map kt et)) (hk:P.underlying kt = some (.int .i64)) (b:Nat) (l:List (Int × Value)) (hm:a.eval m = .map (some b)) (hat:At w b l) (k:Int) (val:Value) (hx:a.eval x = .int .i64 k) (hv:a.eval v = val) (hn:sP k l = none)
  (hK:∀ w',At w' b (l ++ [(k,val)]) → w.grownBy w' (some b) → wpList P ops Q rest (a.put o.dst undef) w') :
  wpList P ops Q (o :: rest) a w:=by
 refine wpList_plain hg fun K' hK'=>?_
 obtain ⟨w',hrun,r1,r2⟩:=HV hat t kt et ht hk k val hn
 unfold Oper.wp
 simp [execOp,hop,hm,hx,hv,hrun,Result.andThen]
 exact hK' _ _ (hK w' r1 r2)
theorem Sn (w:World):At (w.alloc (.map #[] 0)) w.heap.size []:=by
 unfold At ents
 exact heap_alloc_new w _
structure In (B0:Nat) (w0 w:World) (b:Nat) (l:List (Int × Value)):Prop where
 at_:At w b l
 ge:B0 ≤ b
 PS:RowKit.Below B0 w0 w
theorem In.made {w:World}:In w.heap.size w (w.alloc (.map #[] 0)) w.heap.size []:=⟨Sn w,ajd _,(RowKit.Below.refl _ _).alloc (ajd _) _⟩
theorem In.grown {B0 b:Nat} {w0 w w':World} {l l':List (Int × Value)} (h:In B0 w0 w b l) (h':At w' b l') (hg:w.grownBy w' (some b)):In B0 w0 w' b l':=by
 refine ⟨h',h.ge,h.PS.grown hg ?_ (fun k e=>by cases e;exact h.ge)⟩
 have:=(ake.1 h.at_).1
 have:=h.ge
 omega
theorem FL {w:World} {ops:Array Oper} {rest:List Oper} {o:Oper} {a:Act} {Q:Exit → Act → World → Prop} (t:TypeId) (m x v:Operand) (hop:o.op = Op.insert t m x v) (h:wpList P ops Q (o :: rest) a w):wpList P ops Q (o :: rest) a w:=h
theorem abZ (w:World) {ops:Array Oper} {rest:List Oper} {o:Oper} {a:Act} {Q:Exit → Act → World → Prop}
  (hg:o.guard = none) (m x v:Operand) (t:TypeId) (hop:o.op = Op.insert t m x v)
  (kt et:TypeId) (ht:P.underlying t = some (.map kt et)) (hk:P.underlying kt = some (.int .i64)) (b:Nat) (l:List (Int × Value)) (hm:a.eval m = .map (some b)) {B0:Nat} {w0:World} (hin:In B0 w0 w b l) (k:Int) (val:Value) (hx:a.eval x = .int .i64 k) (hv:a.eval v = val) (hn:sP k l = none)
  (hK:∀ w',ah (In B0 w0 w' b (l ++ [(k,val)])) → wpList P ops Q rest (a.put o.dst undef) w') :
  wpList P ops Q (o :: rest) a w :=
 KT w hg m x v t hop kt et ht hk b l hm hin.at_ k val hx hv hn fun w' h1 h2=>hK w' ⟨hin.grown h1 h2⟩
end Go.Proofs.YtfokaoeinpnagaaGreat.Mi

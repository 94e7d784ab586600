/- A part of the proof of SeekStill: cut, joined and given short names by a program of this session (wip/tools/pack.py); Lean checks it. No condition. -/
import Derived.Test.YtfokaoeinpnagaaGreatPSSllg
import Derived.WalkSpells
import Derived.Test.YtfokaoeinpnagaaGreatProg
import Derived.Shelf.Strings.OnBuilder
import Derived.KernelRfl
import Derived.Laws.Externs
import Derived.LaidEqlPtr
import Derived.WideMake
import Derived.WalkKit
import Derived.Below
import Derived.Deep.RegionHeld3
import Derived.Test.YtfokaoeinpnagaaGreatPSSlld
set_option linter.unusedSectionVars false
set_option linter.unusedSimpArgs false
set_option linter.unusedVariables false
set_option maxHeartbeats 16000000
set_option maxRecDepth 100000
namespace Go.Proofs.YtfokaoeinpnagaaGreat.ZQ
section
open Go.RowKit Go.Proofs.YtfokaoeinpnagaaGreatW.aX Go.Proofs.YtfokaoeinpnagaaGreatW.dQ Go.Proofs.YtfokaoeinpnagaaGreatW.eX
attribute [local go_sem] jX jY lC lD jl jm jZ j3
def eD.f (a0:ByteArray) (a1:Int) (a2:Int):Option (ByteArray × Bool) :=
 if (a0.size:Int) ≤ 9223372036854775807 then
  (if 0 ≤ a1 ∧ 0 ≤ a2 ∧ a1 + a2 ≤ (a0.size:Int) then some (a0.extract a1.toNat (a1 + a2).toNat,true) else some ((⟨#[]⟩:ByteArray),false))
 else none
theorem eD.mid (s:ByteArray) (a b:Int) (h0:0 ≤ a) (h1:0 ≤ b) (h2:a + b ≤ (s.size:Int)) :
  (s.extract a.toNat s.size).extract 0 b.toNat = s.extract a.toNat (a + b).toNat:=by
 rw [ByteArray.extract_extract]
 congr 1
 omega
theorem eD.calls (a0:ByteArray) (a1:Int) (a2:Int) (r1:ByteArray) (r2:Bool) (w:World) (h:eD.f a0 a1 a2 = some (r1,r2)) :
  Calls Tryz.prog 136 #[.string a0,.int .i64 a1,.int .i64 a2] w fun e w'=>e = .returned (.tuple #[.string r1,.bool r2]) ∧ bM w w':=by
 unfold eD.f at h
 by_cases hs:(a0.size:Int) ≤ 9223372036854775807
 ·rw [ahX hs] at h
  by_cases hc:0 ≤ a1 ∧ 0 ≤ a2 ∧ a1 + a2 ≤ (a0.size:Int)
  ·rw [ahX hc] at h
   simp only [aie,ain] at h
   obtain ⟨rfl,rfl⟩:=h
   obtain ⟨h0,h1,h2⟩:=hc
   have hw:wrap64 ((a0.size:Int) - a1) = (a0.size:Int) - a1:=by unfold wrap64;omega
   have hm:=ah.mk (eD.mid a0 a1 a2 h0 h1 h2)
   have c1:decide (a1 < 0) = false:=ah2 (by omega)
   have c2:decide (a2 < 0) = false:=ah2 (by omega)
   have c3:decide ((a0.size:Int) < a1) = false:=ah2 (by omega)
   have c4:decide (wrap64 ((a0.size:Int) - a1) < a2) = false:=ah2 (by omega)
   have c5:=ah9 h0
   have c6:(a1 ≤ (a0.size:Int)) = True:=ah9 (by omega)
   have c7:=ah9 h1
   have c8:(a2 ≤ ((a0.extract a1.toNat a0.size).size:Int)) = True:=ah9 (by simp only [aiF];omega)
   have c9:(a2 ≤ (a0.size:Int) - (a1.toNat:Int)) = True:=ah9 (by omega)
   have c10:(a2 ≤ ((a0.size - a1.toNat:Nat):Int)) = True:=ah9 (by omega)
   clear hs hw h0 h1 h2
   go_enter Tryz.func136,Tryz.ntmps136
   go_wp2
   go_ret2
   exact ⟨by rw [hm.out];rfl,by repeat (first | exact bM.refl _ | apply bM.step)⟩
  ·rw [ahY hc] at h
   simp only [aie,ain] at h
   obtain ⟨rfl,rfl⟩:=h
   by_cases c1:a1 < 0
   ·have c1':decide (a1 < 0) = true:=ah0 c1
    clear hs hc c1
    go_enter Tryz.func136,Tryz.ntmps136
    go_wp2
    go_ret2
    exact ⟨rfl,by repeat (first | exact bM.refl _ | apply bM.step)⟩
   ·by_cases c2:a2 < 0
    ·have c1':decide (a1 < 0) = false:=ah2 c1
     have c2':decide (a2 < 0) = true:=ah0 c2
     clear hs hc c1 c2
     go_enter Tryz.func136,Tryz.ntmps136
     go_wp2
     go_ret2
     exact ⟨rfl,by repeat (first | exact bM.refl _ | apply bM.step)⟩
    ·by_cases c3:(a0.size:Int) < a1
     ·have c1':decide (a1 < 0) = false:=ah2 c1
      have c2':decide (a2 < 0) = false:=ah2 c2
      have c3':decide ((a0.size:Int) < a1) = true:=ah0 c3
      clear hs hc c1 c2 c3
      go_enter Tryz.func136,Tryz.ntmps136
      go_wp2
      go_ret2
      exact ⟨rfl,by repeat (first | exact bM.refl _ | apply bM.step)⟩
     ·have hw:wrap64 ((a0.size:Int) - a1) = (a0.size:Int) - a1:=by unfold wrap64;omega
      have c1':decide (a1 < 0) = false:=ah2 c1
      have c2':decide (a2 < 0) = false:=ah2 c2
      have c3':decide ((a0.size:Int) < a1) = false:=ah2 c3
      have c4':decide (wrap64 ((a0.size:Int) - a1) < a2) = true:=ah0 (by omega)
      clear hs hc c1 c2 c3 hw
      go_enter Tryz.func136,Tryz.ntmps136
      go_wp2
      go_ret2
      exact ⟨rfl,by repeat (first | exact bM.refl _ | apply bM.step)⟩
 ·rw [ahY hs] at h
  exact absurd h (by simp)
def fQ.f (a0:Int):Option (Bool):=if a0 ≥ 1 then (some (decide (a0 ≤ 4))) else (some false)
theorem fQ.calls (a0:Int) (r:Bool) (w:World) (h:fQ.f a0 = some r) :
  Calls Tryz.prog 137 #[.int .i64 a0] w fun e w'=>e = .returned (.bool r) ∧ bM w w':=by
 have H:(if a0 ≥ 1 then (some (decide (a0 ≤ 4))) else (some false)) = some r:=h
 clear h
 by_cases c2:a0 ≥ 1
 ·rw [ahX c2] at H
  have zw:decide (1 ≤ a0) = true:=ah0 c2
  clear c2
  obtain rfl:=aiE H
  go_enter Tryz.func137,Tryz.ntmps137
  go_wp2
  go_ret
  exact ⟨by first | rfl | (simp;done) | (simp [*];done),by repeat (first | exact bM.refl _ | apply bM.step)⟩
 ·rw [ahY c2] at H
  have zw:decide (1 ≤ a0) = false:=ah2 c2
  clear c2
  obtain rfl:=aiE H
  go_enter Tryz.func137,Tryz.ntmps137
  go_wp2
  go_ret
  exact ⟨by first | rfl | (simp;done) | (simp [*];done),by repeat (first | exact bM.refl _ | apply bM.step)⟩
mutual
def aH.j0 : Nat → Int → ByteArray → Bool → Option (Int × Bool)
 | 0,_,_,_=>none
 | k + 1,x2,x8,x25=>if x25 = true then (some (0,false)) else (aH.l0 k x8 0 x2 0)
def aH.l0 : Nat → ByteArray → Int → Int → Int → Option (Int × Bool)
 | 0,_,_,_,_=>none
 | k + 1,x8,x10,x26,x27=>if x27 < x26 then (if 0 ≤ x27 then (if x27 < (x8.size:Int) then (aH.l0 k x8 (Go.bits .or .i64 (wrap64 (x10 * 256)) (wrap64 (bt x8 x27))) x26 (wrap64 (x27 + 1))) else (none)) else (none)) else (some (x10,true))
end
def aH.f (k:Nat) (a0:ByteArray) (a1:Int) (a2:Int):Option (Int × Bool):=(eD.f a0 a1 a2).bind fun yA=>(if yA.2 = true then ((fQ.f a2).bind fun yB=>(aH.j0 k a2 yA.1 (!yB))) else (aH.j0 k a2 yA.1 true))
theorem aH.yC : ∀ k,(∀ y0 y1 y2,mF (aH.j0 k y0 y1 y2) (aH.j0 (k + 1) y0 y1 y2)) ∧ (∀ y0 y1 y2 y3,mF (aH.l0 k y0 y1 y2 y3) (aH.l0 (k + 1) y0 y1 y2 y3))
 | 0=>⟨fun _ _ _ r h=>by simp [aH.j0] at h,fun _ _ _ _ r h=>by simp [aH.l0] at h⟩
 | k + 1=>by
  obtain ⟨ih0,ih1⟩:=aH.yC k
  refine ⟨?_,?_⟩
  ·intro y0 y1 y2
   unfold aH.j0
   repeat' first
   | (with_reducible exact mF.refl _)
   | exact ih0 _ _ _
   | exact ih1 _ _ _ _
   | exact mF.none _
   | refine mF.ite ?_ ?_
   | refine mF.bind ?_ (fun _=>?_)
  ·intro y0 y1 y2 y3
   unfold aH.l0
   repeat' first
   | (with_reducible exact mF.refl _)
   | exact ih0 _ _ _
   | exact ih1 _ _ _ _
   | exact mF.none _
   | refine mF.ite ?_ ?_
   | refine mF.bind ?_ (fun _=>?_)
theorem aH.mono : ∀ a0 a1 a2 k,mF (aH.f k a0 a1 a2) (aH.f (k + 1) a0 a1 a2):=by
 intro a0 a1 a2 k
 obtain ⟨ih0,ih1⟩:=aH.yC k
 unfold aH.f
 repeat' first
   | (with_reducible exact mF.refl _)
   | exact ih0 _ _ _
   | exact ih1 _ _ _ _
   | exact mF.none _
   | refine mF.ite ?_ ?_
   | refine mF.bind ?_ (fun _=>?_)
theorem aH.calls (k:Nat) (a0:ByteArray) (a1:Int) (a2:Int) (r1:Int) (r2:Bool) (w:World) (h:aH.f k a0 a1 a2 = some (r1,r2)) :
  Calls Tryz.prog 117 #[.string a0,.int .i64 a1,.int .i64 a2] w fun e w'=>e = .returned (.tuple #[.int .i64 r1,.bool r2]) ∧ bM w w':=by
 have H:((eD.f a0 a1 a2).bind fun yA=>(if yA.2 = true then ((fQ.f a2).bind fun yB=>(aH.j0 k a2 yA.1 (!yB))) else (aH.j0 k a2 yA.1 true))) = some (r1,r2):=h
 clear h
 replace H:=zbm H
 obtain ⟨⟨t119,Wt⟩,TI,H⟩:=H
 replace H:(if Wt = true then ((fQ.f a2).bind fun yB=>(aH.j0 k a2 t119 (!yB))) else (aH.j0 k a2 t119 true)) = some (r1,r2):=H
 have A4:=ah.mk TI
 clear TI
 have HC5:=ah.mk H
 clear H
 go_enter Tryz.func117,Tryz.ntmps117
 go_upto_region 2 with (first | ((with_reducible refine eP (f:=136) rfl ?_);refine jW (some 16) rfl rfl Tryz.func136 (by kernel_rfl) rfl #[.string a0,.int .i64 a1,.int .i64 a2] rfl (by (try simp only [aiW,ah8,ail]) <;> rfl) ?_;(with_reducible refine (eD.calls a0 a1 a2 t119 Wt _ A4.out).mono ?_);rintro e w' ⟨rfl,⟨nd,rfl⟩⟩;refine ⟨_,rfl,?_⟩))
 (try simp only [Act.put,aiG,List.set_cons_zero,List.set_cons_succ])
 go_cut [25] (fun v25 wc=>∃ (kq:Nat) (Ia:Bool),v25 = .bool Ia ∧ ah (aH.j0 kq a2 t119 Ia = some (r1,r2)) ∧ ah (kq ≤ k) ∧ bM w wc)
 case first =>
  have H:=HC5.out
  clear HC5
  by_cases c6:Wt = true
  ·subst c6
   have H1:((fQ.f a2).bind fun yB=>(aH.j0 k a2 t119 (!yB))) = some (r1,r2):=by rw [ahX rfl] at H;exact H
   clear H
   have H:=H1
   clear H1
   replace H:=zbm H
   obtain ⟨yB,A70,H⟩:=H
   replace H:(aH.j0 k a2 t119 (!yB)) = some (r1,r2):=H
   have A7:=ah.mk A70
   clear A70
   have H':=ah.mk H
   clear H
   go_wp2_with (first | (go_at_call 137;(with_reducible refine (fQ.calls a2 yB _ A7.out).mono ?_);rintro e w' ⟨rfl,⟨nd,rfl⟩⟩))
   go_meet
   case rel=>exact ⟨_,(!yB),(by first | rfl | (simp;done) | (simp [*];done) | (simp [B.eT];done) | (simp [B.eU];done)),H',⟨by first | omega | exact ah1 _⟩,by repeat (first | exact bM.refl _ | apply bM.step)⟩
  ·replace c6:=aiX.mpr c6
   subst c6
   have H1:(aH.j0 k a2 t119 true) = some (r1,r2):=by rw [ahY (show ¬ (false = true) by decide)] at H;exact H
   clear H
   have H:=H1
   clear H1
   have H':=ah.mk H
   clear H
   go_wp2
   go_meet
   case rel=>exact ⟨_,(true),(by first | rfl | (simp;done) | (simp [*];done) | (simp [B.eT];done) | (simp [B.eU];done)),H',⟨by first | omega | exact ah1 _⟩,by repeat (first | exact bM.refl _ | apply bM.step)⟩
 case rest =>
  clear HC5
  try clear c1
  try clear p2
  try clear c6
  obtain ⟨kq,Ia,rfl,HA,HJ4,⟨mc4,rfl⟩⟩:=hcut
  cases kq with
  | zero=>exact absurd HA.out (by simp [aH.j0])
  | succ kj4 =>
   have H:=HA.out
   clear HA
   simp only [aH.j0] at H
   by_cases c8:Ia = true
   ·subst c8
    have H1:(some (0,false)) = some (r1,r2):=by rw [ahX rfl] at H;exact H
    clear H
    have H:=H1
    clear H1
    simp only [aie,ain] at H
    obtain ⟨rfl,rfl⟩:=H
    go_wp2
    go_ret2
    exact ⟨by first | rfl | (simp;done) | (simp [*];done),by repeat (first | exact bM.refl _ | apply bM.step)⟩
   ·replace c8:=aiX.mpr c8
    subst c8
    have H1:(aH.l0 kj4 t119 0 a2 0) = some (r1,r2):=by rw [ahY (show ¬ (false = true) by decide)] at H;exact H
    clear H
    have H:=H1
    clear H1
    have H':=ah.mk H
    clear H
    go_wp2
    go_loopg [10,27] kj4 (fun kq v10 v27 w'=>∃ (Ib:Int) (mg:Int),v10 = .int .i64 Ib ∧ v27 = .int .i64 mg ∧ ah (aH.l0 kq t119 Ib a2 mg = some (r1,r2)) ∧ ah (kq ≤ kj4) ∧ bM w w')
    case atStart=>exact ⟨(0),(0),(by first | rfl | (simp;done) | (simp [*];done) | (simp [B.eT];done) | (simp [B.eU];done)),(by first | rfl | (simp;done) | (simp [*];done) | (simp [B.eT];done) | (simp [B.eU];done)),H',⟨ah1 _⟩,by repeat (first | exact bM.refl _ | apply bM.step)⟩
    case round =>
     clear H'
     try clear c1
     try clear p2
     try clear c4
     try clear c6
     try clear c8
     try clear p2
     obtain ⟨Ib,mg,rfl,rfl,HA,HK2,⟨m2,rfl⟩⟩:=hrel
     cases gk with
     | zero=>exact absurd HA.out (by simp [aH.l0])
     | succ k2 =>
      have H:=HA.out
      clear HA
      simp only [aH.l0] at H
      by_cases c9:mg < a2
      ·rw [ahX c9] at H
       have Ni:decide (mg < a2) = true:=ah0 c9
       clear c9
       by_cases c10:0 ≤ mg
       ·rw [ahX c10] at H
        have Nj:decide (0 ≤ mg) = true:=ah0 c10
        clear c10
        by_cases c11:mg < (t119.size:Int)
        ·rw [ahX c11] at H
         have TF:decide (mg < (t119.size:Int)) = true:=ah0 c11
         clear c11
         have H':=ah.mk H
         clear H
         have p12:0 ≤ (mg:Int):=aiB (by first | (with_reducible assumption) | assumption)
         have q12:mg < (t119.size:Int):=aiB (by first | (with_reducible assumption) | assumption)
         have ahQ:=vv t119 mg
         replace p12:=ah9 p12
         replace q12:=ah9 q12
         go_wp2
         go_roundg k2
         case measure=>have:=HJ4.out;have:=HK2.out;omega
         case rel=>exact ⟨(Go.bits .or .i64 (wrap64 (Ib * 256)) (wrap64 (bt t119 mg))),(wrap64 (mg + 1)),(by first | rfl | (simp;done) | (simp [*];done) | (simp [B.eT];done) | (simp [B.eU];done)),(by first | rfl | (simp;done) | (simp [*];done) | (simp [B.eT];done) | (simp [B.eU];done)),H',⟨by have:=HJ4.out;have:=HK2.out;omega⟩,by repeat (first | exact bM.refl _ | apply bM.step)⟩
        ·rw [ahY c11] at H
         exact absurd H (by simp)
       ·rw [ahY c10] at H
        exact absurd H (by simp)
      ·rw [ahY c9] at H
       have Ni:decide (mg < a2) = false:=ah2 c9
       clear c9
       simp only [aie,ain] at H
       obtain ⟨rfl,rfl⟩:=H
       go_wp2
       go_ret2
       exact ⟨by first | rfl | (simp;done) | (simp [*];done),by repeat (first | exact bM.refl _ | apply bM.step)⟩
end
section
open Go.RowKit Go.Proofs.YtfokaoeinpnagaaGreatW.aX Go.Proofs.YtfokaoeinpnagaaGreatW.dQ Go.Proofs.YtfokaoeinpnagaaGreatW.eX Go.Proofs.YtfokaoeinpnagaaGreat.B
def aaQ : Nat → Int → List Int
 | 0,_=>[]
 | s + 1,n=>n / 256 ^ s % 256 :: aaQ s n
def Nr (n size:Int):Prop:=1 ≤ size ∧ size ≤ 4 ∧ 0 ≤ n ∧ n < 256 ^ size.toNat
instance (n size:Int):Decidable (Nr n size):=by unfold Nr;infer_instance
def aft (n size:Int):ByteArray:=if Nr n size then strOfNums (aaQ size.toNat n) else ⟨#[]⟩
def ig (s:ByteArray) (i n:Int):Prop:=0 ≤ i ∧ 0 ≤ n ∧ i + n ≤ (s.size:Int)
instance (s : ByteArray) (i n:Int):Decidable (ig s i n):=by unfold ig;infer_instance
def gP : Nat → ByteArray → Int → Int
 | 0,_,_=>0
 | k + 1,s,i=>gP k s i * 256 + bt s (i + k)
def jO (s:ByteArray) (i n:Int):Prop:=0 ≤ i ∧ 1 ≤ n ∧ n ≤ 4 ∧ i + n ≤ (s.size:Int)
instance (s : ByteArray) (i n:Int):Decidable (jO s i n):=by unfold jO;infer_instance
theorem tN (s:ByteArray) (i n:Int) (hs:s.size ≤ 9223372036854775807) :
  eD.f s i n = some (if ig s i n then (s.extract i.toNat (i + n).toNat,true) else (⟨#[]⟩,false)):=by
 unfold eD.f ig
 rw [ahX (by omega)]
 split <;> rename_i h <;> simp [h]
theorem kK (x b:Int) (hx0:0 ≤ x) (hx:x < 16777216) (hb0:0 ≤ b) (hb:b ≤ 255):Go.bits .or .i64 (wrap64 (x * 256)) (wrap64 b) = x * 256 + b:=by
 rw [lF (by omega) (by omega),lF (by omega) (by omega)]
 refine Go.bits_join .i64 62 (by decide) ?_ 8 (x * 256) b (by omega) (by omega) (by omega) hb0 (by omega) (by omega)
 intro n h0 h1
 rw [IntKind.wrap_i64]
 omega
theorem get_eq (k:Nat) (hk:9 ≤ k) (s:ByteArray) (i n:Int) (hs:s.size ≤ 9223372036854775807) :
  aH.f k s i n = some (if jO s i n then (gP n.toNat s i,true) else (0,false)):=by
 refine uL (fun k=>aH.mono s i n k) hk ?_
 unfold aH.f
 rw [tN s i n hs]
 by_cases ht:ig s i n
 ·rw [ahX ht]
  simp only [Option.bind_some,aiu]
  obtain ⟨h0,h1,h2⟩:=ht
  by_cases hz:1 ≤ n ∧ n ≤ 4
  ·have hf:fQ.f n = some true:=by unfold fQ.f;rw [ahX (by omega)];simp;omega
   rw [ahX (show jO s i n from ⟨h0,hz.1,hz.2,h2⟩),hf]
   have hz':=size_ext h0 h1 h2
   have hb:∀ j,0 ≤ j → j < n → bt (s.extract i.toNat (i + n).toNat) j = bt s (i + j):=fun j a b=>M8 h0 a b h2
   have e0:=hb 0
   have e1:=hb 1
   have e2:=hb 2
   have e3:=hb 3
   have r0:=gI s (i + 0)
   have r1:=gI s (i + 1)
   have r2:=gI s (i + 2)
   have r3:=gI s (i + 3)
   generalize s.extract i.toNat (i + n).toNat = t at *
   clear hb
   obtain ⟨hz1,hz4⟩:=hz
   have hn:n = 1 ∨ n = 2 ∨ n = 3 ∨ n = 4:=by omega
   have y0:wrap64 (0 + 1) = 1:=lF (by omega) (by omega)
   have y1:wrap64 (1 + 1) = 2:=lF (by omega) (by omega)
   have y2:wrap64 (2 + 1) = 3:=lF (by omega) (by omega)
   have y3:wrap64 (3 + 1) = 4:=lF (by omega) (by omega)
   rcases hn with rfl | rfl | rfl | rfl
   ·have o0:=kK 0 (bt s (i + 0)) (by omega) (by omega) r0.1 r0.2
    simp only [aH.j0,aH.l0,Option.bind_some,ajw,ais,aik,hz',e0 (by omega) (by omega),o0,y0]
    simp [gP]
   ·have o0:=kK 0 (bt s (i + 0)) (by omega) (by omega) r0.1 r0.2
    have o1:=kK (0 * 256 + bt s (i + 0)) (bt s (i + 1)) (by omega) (by omega) r1.1 r1.2
    simp only [aH.j0,aH.l0,Option.bind_some,ajw,ais,aik,hz',e0 (by omega) (by omega),e1 (by omega) (by omega),o0,o1,y0,y1]
    simp [gP]
   ·have o0:=kK 0 (bt s (i + 0)) (by omega) (by omega) r0.1 r0.2
    have o1:=kK (0 * 256 + bt s (i + 0)) (bt s (i + 1)) (by omega) (by omega) r1.1 r1.2
    have o2:=kK ((0 * 256 + bt s (i + 0)) * 256 + bt s (i + 1)) (bt s (i + 2)) (by omega) (by omega) r2.1 r2.2
    simp only [aH.j0,aH.l0,Option.bind_some,ajw,ais,aik,hz',e0 (by omega) (by omega),e1 (by omega) (by omega),e2 (by omega) (by omega),o0,o1,o2,y0,y1,y2]
    simp [gP]
   ·have o0:=kK 0 (bt s (i + 0)) (by omega) (by omega) r0.1 r0.2
    have o1:=kK (0 * 256 + bt s (i + 0)) (bt s (i + 1)) (by omega) (by omega) r1.1 r1.2
    have o2:=kK ((0 * 256 + bt s (i + 0)) * 256 + bt s (i + 1)) (bt s (i + 2)) (by omega) (by omega) r2.1 r2.2
    have o3:=kK (((0 * 256 + bt s (i + 0)) * 256 + bt s (i + 1)) * 256 + bt s (i + 2)) (bt s (i + 3)) (by omega) (by omega) r3.1 r3.2
    simp only [aH.j0,aH.l0,Option.bind_some,ajw,ais,aik,hz',e0 (by omega) (by omega),e1 (by omega) (by omega),e2 (by omega) (by omega),e3 (by omega) (by omega),o0,o1,o2,o3,y0,y1,y2,y3]
    simp [gP]
  ·have hf:fQ.f n = some false:=by
    unfold fQ.f
    by_cases h2:1 ≤ n
    ·rw [ahX (by omega)];simp;omega
    ·rw [ahY (by omega)]
   rw [ahY (show ¬ jO s i n from fun h=>hz ⟨h.2.1,h.2.2.1⟩),hf]
   simp [aH.j0]
 ·rw [ahY ht,ahY (show ¬ jO s i n from fun h=>ht ⟨h.1,by have:=h.2.1;omega,h.2.2.2⟩)]
  simp [aH.j0]
theorem Es (s:ByteArray) (i:Int):gP 1 s i = bt s i:=by simp [gP]
theorem Gb (k:Nat) (s t:ByteArray) (i j:Int) (h:∀ m:Nat,m < k → bt s (i + m) = bt t (j + m)):gP k s i = gP k t j:=by
 induction k with
 | zero=>rfl
 | succ k ih=>simp only [gP];rw [ih fun m hm=>h m (by omega),h k (by omega)]
theorem nU (k:Nat) (s:ByteArray) (i:Int):0 ≤ gP k s i ∧ gP k s i < 256 ^ k:=by
 induction k with
 | zero=>simp [gP]
 | succ k ih =>
  have:=gI s (i + k)
  simp only [gP]
  rw [Int.pow_succ]
  omega
end
section
open Go.RowKit Go.Proofs.YtfokaoeinpnagaaGreatW.aX Go.Proofs.YtfokaoeinpnagaaGreatW.dQ Go.Proofs.YtfokaoeinpnagaaGreatW.eX
attribute [local go_sem] jX jY lC lD jl jm jZ j3
def gV.f (a0:ByteArray) (a1:Int) (a2:Int):Option (ByteArray × Bool):=if a1 < 0 then (some ((⟨#[]⟩:ByteArray),false)) else (if a2 < 0 then (some ((⟨#[]⟩:ByteArray),false)) else (if a1 > (a0.size:Int) then (some ((⟨#[]⟩:ByteArray),false)) else (if a2 > (wrap64 ((a0.size:Int) - a1)) then (some ((⟨#[]⟩:ByteArray),false)) else (if 0 ≤ a1 then (if a1 ≤ (wrap64 (a1 + a2)) then (if (wrap64 (a1 + a2)) ≤ (a0.size:Int) then (some (a0.extract (a1:Int).toNat ((wrap64 (a1 + a2)):Int).toNat,true)) else (none)) else (none)) else (none)))))
mutual
def bn.j0 : Nat → Int → ByteArray → Bool → Option (Int × Bool)
 | 0,_,_,_=>none
 | k + 1,x2,x8,x28=>if x28 = true then (some (0,false)) else (bn.l0 k x2 x8 0 0)
def bn.l0 : Nat → Int → ByteArray → Int → Int → Option (Int × Bool)
 | 0,_,_,_,_=>none
 | k + 1,x2,x8,x10,x11=>if x11 < x2 then (if 0 ≤ x11 then (if x11 < (x8.size:Int) then (bn.l0 k x2 x8 (wrap64 ((wrap64 (256 * x10)) + (wrap64 (bt x8 x11)))) (wrap64 (x11 + 1))) else (none)) else (none)) else (some (x10,true))
end
def bn.f (k:Nat) (a0:ByteArray) (a1:Int) (a2:Int):Option (Int × Bool):=(gV.f a0 a1 a2).bind fun Ic=>(if Ic.2 = true then (if a2 < 1 then (bn.j0 k a2 Ic.1 true) else (bn.j0 k a2 Ic.1 (decide (a2 > 4)))) else (bn.j0 k a2 Ic.1 true))
end
section
open Go.RowKit Go.Proofs.YtfokaoeinpnagaaGreatW.aX Go.Proofs.YtfokaoeinpnagaaGreatW.dQ Go.Proofs.YtfokaoeinpnagaaGreatW.eX Go.Proofs.YtfokaoeinpnagaaGreat.B
theorem vF (s:ByteArray) (i n:Int) (hs:s.size ≤ 1000000) :
  gV.f s i n = some (if ig s i n then (s.extract i.toNat (i + n).toNat,true) else (⟨#[]⟩,false)):=by
 have u:ig s i n = (0 ≤ i ∧ 0 ≤ n ∧ i + n ≤ (s.size:Int)):=rfl
 unfold gV.f
 by_cases h0:i < 0
 ·rw [ahX h0,ahY (by rw [u];omega)]
 ·by_cases h1:n < 0
  ·rw [ahY h0,ahX h1,ahY (by rw [u];omega)]
  ·by_cases h2:i > (s.size:Int)
   ·rw [ahY h0,ahY h1,ahX h2,ahY (by rw [u];omega)]
   ·rw [ahY h0,ahY h1,ahY h2]
    have e1:wrap64 ((s.size:Int) - i) = s.size - i:=lF (by omega) (by omega)
    rw [e1]
    by_cases h3:n > (s.size:Int) - i
    ·rw [ahX h3,ahY (by rw [u];omega)]
    ·have e2:wrap64 (i + n) = i + n:=lF (by omega) (by omega)
     rw [ahY h3,e2,ahX (by omega),ahX (by omega),ahX (by omega),ahX (by rw [u];omega)]
theorem Gc (n:Nat) (hn:n ≤ 4) (t:ByteArray) (ht:t.size = n) (d:Nat):∀ k j,n - j = d → j ≤ n → d < k →
  bn.l0 k n t (gP j t 0) j = some (gP n t 0,true):=by
 induction d with
 | zero =>
  intro k j hd hj hk
  obtain rfl:j = n:=by omega
  obtain ⟨k,rfl⟩:∃ m,k = m + 1:=⟨k - 1,by omega⟩
  rw [bn.l0,ahY (by omega)]
 | succ d ih =>
  intro k j hd hj hk
  obtain ⟨k,rfl⟩:∃ m,k = m + 1:=⟨k - 1,by omega⟩
  have hr:=nU j t 0
  have hp:(256:Int) ^ j ≤ 16777216:=by
   have:j = 0 ∨ j = 1 ∨ j = 2 ∨ j = 3:=by omega
   rcases this with rfl | rfl | rfl | rfl <;> simp
  have hb:=gI t j
  rw [bn.l0,ahX (by omega),ahX (by omega),ahX (by omega),lF (n:=bt t j) (by omega) (by omega),lF (n:=256 * gP j t 0) (by omega) (by omega),lF (n:=256 * gP j t 0 + bt t j) (by omega) (by omega),lF (n:=(j:Int) + 1) (by omega) (by omega)]
  have e:256 * gP j t 0 + bt t j = gP (j + 1) t 0:=by
   simp only [gP]
   rw [show (0:Int) + (j:Int) = j from by omega]
   omega
  rw [e,show ((j:Int) + 1) = ((j + 1:Nat):Int) from by omega]
  exact ih k (j + 1) (by omega) (by omega) (by omega)
theorem yD (k:Nat) (hk:9 ≤ k) (s:ByteArray) (i n:Int) (hs:s.size ≤ 1000000) :
  bn.f k s i n = some (if jO s i n then (gP n.toNat s i,true) else (0,false)):=by
 obtain ⟨k,rfl⟩:∃ m,k = m + 1:=⟨k - 1,by omega⟩
 unfold bn.f
 rw [vF s i n hs]
 simp only [Option.bind_some]
 by_cases ht:ig s i n
 ·simp only [ahX ht,aiu]
  obtain ⟨h0,h1,h2⟩:=ht
  by_cases c1:n < 1
  ·rw [ahX c1,bn.j0,ahX rfl,ahY (fun h=>by have:=h.2.1;omega)]
  ·rw [ahY c1]
   by_cases c2:n > 4
   ·rw [ah0 c2,bn.j0,ahX rfl,ahY (fun h=>by have:=h.2.2.1;omega)]
   ·rw [ah2 c2,bn.j0,ahY aiZ,ahX ⟨h0,by omega,by omega,h2⟩]
    have hz:=size_ext h0 h1 h2
    have e:((n.toNat:Nat):Int) = n:=by omega
    have:=Gc n.toNat (by omega) (s.extract i.toNat (i + n).toNat) (by omega) n.toNat k 0 (by omega) (by omega) (by omega)
    rw [e] at this
    rw [show (0:Int) = ((0:Nat):Int) from rfl]
    refine Eq.trans this ?_
    congr 2
    refine Gb _ _ _ _ _ fun m hm=>?_
    rw [show (0:Int) + (m:Int) = m from by omega,M8 h0 (by omega) (by omega) h2]
 ·simp only [ahY ht,ais,aik]
  rw [bn.j0,ahX rfl,ahY (fun h=>ht ⟨h.1,by have:=h.2.1;omega,h.2.2.2⟩)]
end
section
open Go.Shelf Go.RowKit
def vG : Go.Shelf.Ren:=⟨fun | 156=>156 | 165=>160 | 166=>159 | 169=>157 | 240=>161 | 241=>162 | 276=>163 | 277=>164 | n=>n,fun | 0=>0 | 3=>3 | 4=>4 | 5=>5 | 9=>9 | 20=>20 | 31=>40 | 37=>189 | 70=>224 | 72=>226 | 75=>234 | 76=>235 | 80=>219 | 127=>238 | 164=>239 | n=>n,fun n=>n⟩
theorem Ie : Lays.n156 Tryz.prog vG where
 mixed:=by kernel_rfl
 f156:=by kernel_rfl
 f165:=by kernel_rfl
 f166:=by kernel_rfl
 f169:=by kernel_rfl
 f240:=by kernel_rfl
 f241:=by kernel_rfl
 f276:=by kernel_rfl
 f277:=by kernel_rfl
 t0:=Tryz.underlying0
 a0:=Tryz.isAgg0
 z0:=Tryz.sizeOf0
 v0:=Tryz.zeroValue0
 t3:=Tryz.underlying3
 a3:=Tryz.isAgg3
 z3:=Tryz.sizeOf3
 v3:=Tryz.zeroValue3
 t4:=Tryz.underlying4
 a4:=Tryz.isAgg4
 z4:=Tryz.sizeOf4
 v4:=Tryz.zeroValue4
 t9:=Tryz.underlying9
 a9:=Tryz.isAgg9
 z9:=Tryz.sizeOf9
 v9:=Tryz.zeroValue9
 t20:=Tryz.underlying20
 a20:=Tryz.isAgg20
 z20:=Tryz.sizeOf20
 v20:=Tryz.zeroValue20
 t31:=Tryz.underlying40
 a31:=Tryz.isAgg40
 z31:=Tryz.sizeOf40
 v31:=Tryz.zeroValue40
 t37:=Tryz.underlying189
 a37:=Tryz.isAgg189
 z37:=Tryz.sizeOf189
 v37:=Tryz.zeroValue189
 t70:=Tryz.underlying224
 a70:=Tryz.isAgg224
 z70:=Tryz.sizeOf224
 v70:=Tryz.zeroValue224
 t72:=Tryz.underlying226
 a72:=Tryz.isAgg226
 z72:=Tryz.sizeOf226
 v72:=Tryz.zeroValue226
 t75:=Tryz.underlying234
 a75:=Tryz.isAgg234
 z75:=Tryz.sizeOf234
 v75:=Tryz.zeroValue234
 t76:=Tryz.underlying235
 a76:=Tryz.isAgg235
 z76:=Tryz.sizeOf235
 v76:=Tryz.zeroValue235
 t127:=Tryz.underlying238
 a127:=Tryz.isAgg238
 z127:=Tryz.sizeOf238
 v127:=Tryz.zeroValue238
 t164:=Tryz.underlying239
 a164:=Tryz.isAgg239
 z164:=Tryz.sizeOf239
 v164:=Tryz.zeroValue239
theorem vH : Builder.Extra Tryz.prog vG where
 sizeBuilder:=by kernel_rfl
 liesBuilder:=by kernel_rfl
 t5:=Tryz.underlying5
 a5:=Tryz.isAgg5
 z5:=Tryz.sizeOf5
 v5:=Tryz.zeroValue5
 infoByte:=by kernel_rfl
 cellsByte:=by kernel_rfl
 sizeByte:=by kernel_rfl
 neB5:=by decide
end
section
open Go.RowKit Go.Proofs.YtfokaoeinpnagaaGreatW.aX Go.Proofs.YtfokaoeinpnagaaGreatW.dQ Go.Proofs.YtfokaoeinpnagaaGreatW.eX
attribute [local go_sem] jX jY lC lD jl jm jZ j3
theorem aG.told (T:TypeId) (B0 b o:Nat) (cs:Array Value) (p v:Value) (l:List UInt8) (w:World) (h:B.uO T 5 B0 b o cs p v (Lib.byteCells l) w) (h0:l ≠ []) :
  Calls Tryz.prog 157 #[.pointer (some ⟨b,o,none⟩)] w fun e w'=>e = .returned (.string ⟨l.toArray⟩) ∧ ∃ g,B0 ≤ g ∧ g ≠ b ∧ w' = w.drew.freeze ⟨g,0,none⟩ l.length:=by
 have hl0:l.length ≠ 0:=by simpa using h0
 have hown:=h.own
 rw [Lib.byteCells_length] at hown
 obtain ⟨g,cap,cur,rfl,hbg,hg,hnc,hcm,hcs,htake⟩:∃ g cap cur,v = .slice (some ⟨g,0,none⟩) l.length cap ∧ B0 ≤ g ∧ w.heap[g]? = some (.cells cur 5 (0,0)) ∧ l.length ≤ cap ∧ cap ≤ maxLen ∧ cur.size = cap * 1 ∧ cur.toList.take (l.length * 1) = Lib.byteCells l:=by
  rcases hown.2 with ⟨_,hz⟩ | ⟨g,cap,cur,hv,r⟩
  ·exact absurd hz hl0
  ·exact ⟨g,cap,cur,hv,r⟩
 have hgb:g ≠ b:=fun e=>h.ne (by rw [e];rfl)
 have c1:w.drew.cell? ⟨b,o + 1,none⟩ = some (.slice (some ⟨g,0,none⟩) l.length cap):=by
  have:w.drew.heap[b]? = some (.cells cs T (0,0)):=h.blk
  rw [Lib.cell_of_heap this];exact h.v_
 have hSD:(Builtin.unsafeSliceData_ #[189] 238 #[.slice (some ⟨g,0,none⟩) l.length cap]).run Tryz.prog w.drew = .ok (.pointer (some ⟨g,0,none⟩)) w.drew :=
  Lib.run_unsafeSliceData_row _ _ _ _ _ _ (by omega)
 have hUS:(Builtin.unsafeString_ #[238,3] 9 #[.pointer (some ⟨g,0,none⟩),.int .i64 l.length]).run Tryz.prog w.drew = .ok (.string ⟨l.toArray⟩) (w.drew.freeze ⟨g,0,none⟩ l.length):=by
  refine Lib.run_unsafeString_row w.drew 238 3 9 5 Tryz.underlying238 (by kernel_rfl) g cur.size (by have hg':w.drew.heap[g]? = some (.cells cur 5 (0,0)):=hg;simp [World.shape?,hg']) l h0 (by omega) (by unfold maxLen at hcm;omega) ?_
  intro j x hx
  have:=hown.cells (g:=g) rfl j (.int .u8 x.toNat) (by simp [Lib.byteCells,hx])
  exact this
 have afu:=ah.mk hbg
 have hgb':=ah.mk hgb
 clear hbg hgb h hown hg hnc hcm hcs htake hl0 h0
 go_enter Tryz.func157,Tryz.ntmps157
 go_wp2
 go_region
 all_goals (go_wp2;go_ret;exact ⟨rfl,_,afu.out,hgb'.out,rfl⟩)
def aG.Kept (b:Nat) (w w':World):Prop:=∀ a:Addr,a.block = b → w'.cell? a = w.cell? a ∧ w'.frozen? a = w.frozen? a
theorem aG.Kept.of_block {b:Nat} {w w':World} (h:w'.heap[b]? = w.heap[b]?):aG.Kept b w w':=by
 rintro a rfl
 exact ⟨World.cell?_of_block h,World.frozen?_of_block h⟩
theorem aG.Cr (W:World) (q:Option Addr):(Builtin.unsafeString_ #[238,3] 9 #[.pointer q,.int .i64 0]).run Tryz.prog W = .ok (.string .empty) W :=
 Lib.run_unsafeString_none W _ _ _ q
theorem aG.of_nil (B0 b o:Nat) (w:World) (c1:w.drew.cell? ⟨b,o + 1,none⟩ = some (.slice none 0 0)) :
  Calls Tryz.prog 157 #[.pointer (some ⟨b,o,none⟩)] w fun e w'=>e = .returned (.string ⟨#[]⟩) ∧ aG.Kept b w w' ∧ Below B0 w w':=by
 have hUS:=aG.Cr
 have hSD:(Builtin.unsafeSliceData_ #[189] 238 #[.slice none 0 0]).run Tryz.prog w.drew = .ok (.pointer none) w.drew:=rfl
 go_enter Tryz.func157,Tryz.ntmps157
 go_wp2
 go_region
 all_goals (go_wp2;go_ret;exact ⟨rfl,aG.Kept.of_block rfl,Below.drew (Below.refl B0 w)⟩)
theorem aG.JB (B0 b o g:Nat) (cur:Array Value) (w:World) (hBw:B0 ≤ w.heap.size) (hlt:b < w.heap.size) (c0:w.cell? ⟨b,o + 1,none⟩ = some (.slice (some ⟨g,0,none⟩) 0 0)) (hg:w.heap[g]? = some (.cells cur 5 (0,0))) :
  Calls Tryz.prog 157 #[.pointer (some ⟨b,o,none⟩)] w fun e w'=>e = .returned (.string ⟨#[]⟩) ∧ aG.Kept b w w' ∧ Below B0 w w':=by
 have hUS:=aG.Cr
 have hSD:(Builtin.unsafeSliceData_ #[189] 238 #[.slice (some ⟨g,0,none⟩) 0 0]).run Tryz.prog w.drew = .ok (.pointer (some ⟨w.drew.heap.size,0,none⟩)) (w.drew.alloc (.view ⟨g,0,none⟩ 5)) :=
  Lib.run_unsafeSliceData_zero w.drew _ _ 5 Tryz.underlying238 ⟨g,0,none⟩ 0 (5,cur.size) (by have hg':w.drew.heap[g]? = some (.cells cur 5 (0,0)):=hg;simp [World.shape?,hg'])
 have hold:(w.drew.alloc (.view ⟨g,0,none⟩ 5)).heap[b]? = w.heap[b]?:=(Lib.alloc_old w.drew _ b hlt)
 have c2:(w.drew.alloc (.view ⟨g,0,none⟩ 5)).cell? ⟨b,o + 1,none⟩ = some (.slice (some ⟨g,0,none⟩) 0 0):=by
  rw [World.cell?_of_block (w:=w) (a:=⟨b,o + 1,none⟩) hold];exact c0
 have c3:(w.alloc (.view ⟨g,0,none⟩ 5)).drew.cell? ⟨b,o + 1,none⟩ = some (.slice (some ⟨g,0,none⟩) 0 0):=c2
 have hold':=ah.mk hold
 have hBw':=ah.mk hBw
 clear hold hBw hlt
 go_enter Tryz.func157,Tryz.ntmps157
 go_wp2
 go_region
 all_goals (go_wp2;go_ret;exact ⟨rfl,aG.Kept.of_block hold'.out,(Below.drew (Below.refl B0 w)).alloc hBw'.out _⟩)
theorem aG.Q6 (B0 b o g cap:Nat) (w:World) (hc0:cap ≠ 0) (c1:w.drew.cell? ⟨b,o + 1,none⟩ = some (.slice (some ⟨g,0,none⟩) 0 cap)) :
  Calls Tryz.prog 157 #[.pointer (some ⟨b,o,none⟩)] w fun e w'=>e = .returned (.string ⟨#[]⟩) ∧ aG.Kept b w w' ∧ Below B0 w w':=by
 have hUS:=aG.Cr
 have hSD:(Builtin.unsafeSliceData_ #[189] 238 #[.slice (some ⟨g,0,none⟩) 0 cap]).run Tryz.prog w.drew = .ok (.pointer (some ⟨g,0,none⟩)) w.drew :=
  Lib.run_unsafeSliceData_row _ _ _ _ _ _ hc0
 clear hc0
 go_enter Tryz.func157,Tryz.ntmps157
 go_wp2
 go_region
 all_goals (go_wp2;go_ret;exact ⟨rfl,aG.Kept.of_block rfl,Below.drew (Below.refl B0 w)⟩)
theorem aG.any (T:TypeId) (B0 b o:Nat) (cs:Array Value) (p v:Value) (t:ByteArray) (w:World) (h:B.uO T 5 B0 b o cs p v (Lib.strCells t) w) (hBw:B0 ≤ w.heap.size) :
  Calls Tryz.prog 157 #[.pointer (some ⟨b,o,none⟩)] w fun e w'=>e = .returned (.string t) ∧ aG.Kept b w w' ∧ Below B0 w w':=by
 have c1:∀ W:World,W.heap = w.heap → W.cell? ⟨b,o + 1,none⟩ = some v:=by
  intro W hW
  have:W.heap[b]? = some (.cells cs T (0,0)):=by rw [hW];exact h.blk
  rw [Lib.cell_of_heap this];exact h.v_
 by_cases h0:t.data.toList = []
 ·have ht:t = ⟨#[]⟩:=ajc (Array.toList_inj.mp h0)
  subst ht
  rcases h.own.2 with ⟨rfl,_⟩ | ⟨g,cap,cur,rfl,hbg,hg,_,_,_,_⟩
  ·exact aG.of_nil B0 b o w (c1 _ rfl)
  ·by_cases hc:cap = 0
   ·subst hc
    exact aG.JB B0 b o g cur w hBw h.lt (c1 _ rfl) hg
   ·exact aG.Q6 B0 b o g cap w hc (c1 _ rfl)
 ·refine (aG.told T B0 b o cs p v t.data.toList w (by rw [← B.yw];exact h) h0).mono ?_
  rintro e w' ⟨rfl,g,h1,h2,rfl⟩
  refine ⟨rfl,aG.Kept.of_block ?_,Lib.below_freeze (Below.drew (Below.refl B0 w)) (p:=⟨g,0,none⟩) h1 _⟩
  unfold World.freeze
  split
  ·rfl
  ·simp [Array.getElem?_modify,h2]
   rfl
theorem qD.any (T:TypeId) (B0 b o:Nat) (cs:Array Value) (p v:Value) (bs:List Value) (w:World) (h:B.uO T 5 B0 b o cs p v bs w) :
  Calls Tryz.prog 158 #[.pointer (some ⟨b,o,none⟩)] w fun e w'=>e = .returned (.int .i64 bs.length) ∧ w = w':=by
 obtain ⟨ao,cap,rfl⟩:∃ ao cap,v = .slice ao bs.length cap:=by
  rcases h.own.2 with ⟨hv,h0⟩ | ⟨g,cap,cur,hv,_⟩
  ·exact ⟨none,0,by rw [hv,h0]⟩
  ·exact ⟨_,_,hv⟩
 have c1:w.cell? ⟨b,o + 1,none⟩ = some (.slice ao bs.length cap):=by rw [Lib.cell_of_heap h.blk];exact h.v_
 clear h
 go_enter Tryz.func158,Tryz.ntmps158
 go_wp2
 go_ret
 exact ⟨rfl,rfl⟩
theorem bY.info : (Tryz.prog.info? 226).map (·.size) = some 2:=by kernel_rfl
theorem bY.used (b o:Nat) (w:World) (h0:w.cell? ⟨b,o,none⟩ = some (.pointer (some ⟨b,o,none⟩))) :
  Calls Tryz.prog 161 #[.pointer (some ⟨b,o,none⟩)] w fun e w'=>e = .returned (.tuple #[]) ∧ w' = w:=by
 obtain ⟨j,hj,_⟩:=ajy.1 bY.info
 go_enter Tryz.func161,Tryz.ntmps161
 go_wp2
 rw [Lib.run_neq_ptr_same w _ Tryz.underlying224 hj]
 go_wp2
 go_end0
 exact ⟨rfl,rfl⟩
theorem bY.fresh (b o:Nat) (T:TypeId) (n:Nat) (w:World) (h0:w.cell? ⟨b,o,none⟩ = some (.pointer none)) (hsh:w.shape? b = some (T,n)) (hn:o < n)
  (hlies:liesAt Tryz.prog Tryz.prog.depth T (n / Tryz.prog.cellsOf T) o 226 1 = true) (hfz:w.frozen? ⟨b,o,none⟩ = false) :
  Calls Tryz.prog 161 #[.pointer (some ⟨b,o,none⟩)] w fun e w'=>e = .returned (.tuple #[]) ∧ w' = w.setCell ⟨b,o,none⟩ (.pointer (some ⟨b,o,none⟩)):=by
 obtain ⟨j,hj,hjs⟩:=ajy.1 bY.info
 have afv:j.size ≠ 0:=by rw [hjs];decide
 clear hjs
 have hn':=ah.mk hn
 clear hn
 go_enter Tryz.func161,Tryz.ntmps161
 go_wp2
 rw [Lib.run_to_unsafe w ⟨b,o,none⟩ Tryz.underlying224 Tryz.underlying239 hj afv hsh hn'.out]
 simp only [Result.andThen]
 rw [Oper.upon_value]
 go_wp2
 rw [run_callFunc_extern Tryz.func163 (by kernel_rfl) (by kernel_rfl) (by kernel_rfl) (e:=Extern.AbiNoEscape.same) (by kernel_rfl)]
 rw [Lib.run_noEscape]
 simp only [Result.andThen]
 rw [Oper.upon_value]
 go_wp2
 rw [Lib.run_from_unsafe w ⟨b,o,none⟩ Tryz.underlying239 Tryz.underlying224 hj hsh hlies]
 simp only [Result.andThen]
 rw [Oper.upon_value]
 go_wp2
 go_end0
 exact ⟨rfl,rfl⟩
theorem bY.any (T:TypeId) (B0 b o:Nat) (cs:Array Value) (p v:Value) (bs:List Value) (w:World) (h:B.uO T 5 B0 b o cs p v bs w)
  (hlies:liesAt Tryz.prog Tryz.prog.depth T (cs.size / Tryz.prog.cellsOf T) o 226 1 = true) :
  Calls Tryz.prog 161 #[.pointer (some ⟨b,o,none⟩)] w fun e w'=>e = .returned (.tuple #[]) ∧
   B.uO T 5 B0 b o (cs.setIfInBounds o (.pointer (some ⟨b,o,none⟩))) (.pointer (some ⟨b,o,none⟩)) v bs w' ∧ Below B0 w w':=by
 have ho:o < cs.size:=by
  rcases ajf o cs.size with h' | h'
  ·exact h'
  ·have:=h.p_;rw [aja h'] at this;cases this
 have hsh:w.shape? b = some (T,cs.size):=by simp [World.shape?,h.blk]
 have hc:w.cell? ⟨b,o,none⟩ = some p:=by rw [Lib.cell_of_heap h.blk];exact h.p_
 rcases h.self with rfl | rfl
 ·refine (bY.fresh b o T cs.size w hc hsh ho hlies (Lib.frozen_of_heap h.blk o)).mono ?_
  rintro e w' ⟨rfl,rfl⟩
  exact ⟨rfl,h.used,(Below.refl B0 w).setCell (p:=⟨b,o,none⟩) h.base _⟩
 ·refine (bY.used b o w hc).mono ?_
  rintro e w' ⟨rfl,rfl⟩
  exact ⟨rfl,by rw [h.JA];exact h,Below.refl B0 _⟩
theorem gD.infoByte : (Tryz.prog.info? 5).map (fun i=>(i.zero,i.size,i.bytes)) = some (some (.int .u8 0),1,1):=by kernel_rfl
theorem gD.any (T:TypeId) (B0 b o:Nat) (cs:Array Value) (p v:Value) (t:ByteArray) (s:ByteArray) (w:World) (h:B.uO T 5 B0 b o cs p v (Lib.strCells t) w)
  (hlies:liesAt Tryz.prog Tryz.prog.depth T (cs.size / Tryz.prog.cellsOf T) o 226 1 = true) (hT:T ≠ 5) (hlen:t.size + s.size ≤ 140737488355328) (hBw:B0 ≤ w.heap.size) :
  Calls Tryz.prog 159 #[.pointer (some ⟨b,o,none⟩),.string s] w fun e w'=>e = .returned (.tuple #[.int .i64 s.size,.nilIface]) ∧
   (∃ v',B.uO T 5 B0 b o ((cs.setIfInBounds o (.pointer (some ⟨b,o,none⟩))).setIfInBounds (o + 1) v') (.pointer (some ⟨b,o,none⟩)) v' (Lib.strCells (t ++ s)) w') ∧ Below B0 w w':=by
 obtain ⟨i0,hi,hz0,hz1,hz2⟩:=info_parts gD.infoByte
 have hL:=Lib.strCells_length t
 have Wu:=ah.mk hlies
 clear hlies
 have hC:=ah.mk h
 clear h
 have hT':=ah.mk hT
 clear hT
 have hlen':=ah.mk hlen
 clear hlen
 go_enter Tryz.func159,Tryz.ntmps159
 go_wp2_with (go_at_call 161;refine (bY.any T B0 b o cs p v _ _ hC.out Wu.out).mono ?_)
 rintro e w1 ⟨rfl,h1,hb1⟩
 have c1:w1.cell? ⟨b,o + 1,none⟩ = some v:=by rw [Lib.cell_of_heap h1.blk];exact h1.v_
 have hown:=h1.own
 go_wp2_with (at_builtin;refine Lib.wpList_append_own_string _ rfl _ _ 189 9 rfl B0 5 i0 Tryz.underlying189 Tryz.underlying9 hi hz0 hz1 hz2 _ _ _ rfl hown s rfl ?c3 ?c4 ?c5 ?_)
 case c3=>rw [hL];unfold maxLen;have:=hlen'.out;omega
 case c4=>rw [hL];have:=hlen'.out;omega
 case c5=>have:=hb1.size;omega
 intro v' w2 hown' hgrow _
 have hlt:=h1.lt
 have hb2:w2.heap[b]? = some (.cells (cs.setIfInBounds o (.pointer (some ⟨b,o,none⟩))) T (0,0)):=by
  rw [hgrow.block b hlt (fun e=>h1.ne e.symm)]
  exact h1.blk
 have d1:w2.cell? ⟨b,o + 1,none⟩ = some v:=by rw [Lib.cell_of_heap hb2];exact h1.v_
 have f1:w2.frozen? ⟨b,o + 1,none⟩ = false:=Lib.frozen_of_heap hb2 (o + 1)
 obtain ⟨ao,n',cap,rfl⟩:∃ ao n' cap,v' = .slice ao n' cap:=by
  rcases hown'.2 with ⟨hv,_⟩ | ⟨g,cap,cur,hv,_⟩
  ·exact ⟨_,_,_,hv⟩
  ·exact ⟨_,_,_,hv⟩
 have hown2:w2.ownsRow B0 5 1 (.slice ao n' cap) (Lib.strCells (t ++ s)).length (Lib.strCells (t ++ s)):=by
  rw [← B.vY]
  simpa [Lib.strCells_length] using hown'
 have hput:=ah.mk (h1.put hb2 hown2 hT'.out)
 have hbel:=ah.mk ((hb1.grown hgrow (by have:=hb1.size;omega) (fun k hk=>(hown.lt k hk).1)).setCell (p:=⟨b,o + 1,none⟩) h1.base (.slice ao n' cap))
 clear hb2 hown2 hown' hgrow h1 hown hL hb1 c1
 go_wp2
 go_ret2
 exact ⟨rfl,⟨_,hput.out⟩,hbel.out⟩
def strings_Join.cat : List ByteArray → ByteArray
 | []=>⟨#[]⟩
 | x :: l=>x ++ strings_Join.cat l
theorem strings_Join.yE : ∀ l:List ByteArray,(⟨(Lib.join (l.map (·.data.toList)) (⟨#[]⟩:ByteArray).data.toList).toArray⟩:ByteArray) = strings_Join.cat l
 | []=>rfl
 | [x]=>by
  rw [ah8,ail,Lib.join_one]
  refine ajc ?_
  simp [strings_Join.cat,ajQ]
 | x :: y :: l=>by
  have h:=strings_Join.yE (y :: l)
  refine ajc ?_
  rw [strings_Join.cat,ajQ,← h]
  simp [Lib.join,List.intercalate]
theorem strings_Join.calls (v:Value) (l:List ByteArray) (base:Nat) (ok:Nat → Prop) (w:World) (hr:Kd.R Kd.string 9 w base ok v l) (hl:l.length ≤ 1000000) (hz:(strings_Join.cat l).size ≤ 140737488355328) :
  Calls Tryz.prog 156 #[v,.string ⟨#[]⟩] w fun e w'=>e = .returned (.string (strings_Join.cat l)) ∧ Below w.heap.size w w':=by
 have ho:=Kd.sW hr
 rcases ho.2 with ⟨rfl,h0⟩ | ⟨g,cap,cur,rfl,hg,hh,hc,_,_,ht⟩
 ·obtain rfl:=List.length_eq_zero_iff.mp h0
  exact (Any.strings_Join_none Ie vH none 0 ⟨#[]⟩ w).mono fun e w' ⟨he,hw⟩=>⟨he,hw ▸ Below.refl _ _⟩
 ·have hlt:g < w.heap.size:=(ai5.1 hh).1
  have hcells:∀ (j:Nat) x,l[j]? = some x → w.cell? ⟨g,0 + j,none⟩ = some (.string x):=by
   intro j x hx
   have hj:j < l.length:=(aiO.1 hx).1
   have h:=(Kd.MZ ByteArray.empty hr (j:Int) (by omega) (by omega)).1
   rw [aip]
   rw [Int.toNat_natCast] at h
   rw [h]
   unfold FT
   rw [Int.toNat_natCast,aix,hx]
   rfl
  have hlen:(Lib.join (l.map (·.data.toList)) (⟨#[]⟩:ByteArray).data.toList).length ≤ 140737488355328:=by
   have h:=aio ByteArray.size (strings_Join.yE l)
   rw [← h] at hz
   simpa [ByteArray.size] using hz
  refine (Any.strings_Join Ie vH g 0 cap l ⟨#[]⟩ w hcells hlt (by omega) hc hlen).mono fun e w' ⟨he,hw⟩=>⟨?_,hw⟩
  rw [he,strings_Join.yE]
end
section
open Go.RowKit Go.Proofs.YtfokaoeinpnagaaGreatW.aX Go.Proofs.YtfokaoeinpnagaaGreatW.dQ Go.Proofs.YtfokaoeinpnagaaGreatW.eX
attribute [local go_sem] jX jY lC lD jl jm jZ j3
def au.cs (msg:ByteArray) (i l n:Int) (p v:Value):Array Value:=#[.string msg,.int .i64 i,.int .i64 l,.int .i64 n,p,v]
def au.Rd (B0 g:Nat) (msg:ByteArray) (i l n:Int) (t:ByteArray) (w:World):Prop :=
 ∃ p v,B.uO 228 5 B0 g 4 (au.cs msg i l n p v) p v (Lib.strCells t) w
theorem au.Rd.cells {B0 g:Nat} {msg:ByteArray} {i l n:Int} {t:ByteArray} {w:World} (h:au.Rd B0 g msg i l n t w) :
  w.cell? ⟨g,0,none⟩ = some (.string msg) ∧ w.cell? ⟨g,1,none⟩ = some (.int .i64 i) ∧ w.cell? ⟨g,2,none⟩ = some (.int .i64 l) ∧ w.cell? ⟨g,3,none⟩ = some (.int .i64 n) ∧
  w.frozen? ⟨g,1,none⟩ = false ∧ w.frozen? ⟨g,2,none⟩ = false ∧ w.frozen? ⟨g,3,none⟩ = false:=by
 obtain ⟨p,v,h⟩:=h
 exact ⟨by rw [Lib.cell_of_heap h.blk];rfl,by rw [Lib.cell_of_heap h.blk];rfl,by rw [Lib.cell_of_heap h.blk];rfl,by rw [Lib.cell_of_heap h.blk];rfl,Lib.frozen_of_heap h.blk 1,Lib.frozen_of_heap h.blk 2,Lib.frozen_of_heap h.blk 3⟩
theorem au.Rd.base {B0 g:Nat} {msg:ByteArray} {i l n:Int} {t:ByteArray} {w:World} (h:au.Rd B0 g msg i l n t w):B0 ≤ g ∧ g < w.heap.size:=by
 obtain ⟨p,v,h⟩:=h
 exact ⟨h.base,h.lt⟩
theorem au.Rd.drewN {B0 g:Nat} {msg:ByteArray} {i l n:Int} {t:ByteArray} {w:World} (h:au.Rd B0 g msg i l n t w) (m:Nat):au.Rd B0 g msg i l n t (w.drewN m):=by
 obtain ⟨p,v,h⟩:=h
 exact ⟨p,v,h.drewN m⟩
theorem au.Rd.set1 {B0 g:Nat} {msg:ByteArray} {i l n:Int} {t:ByteArray} {w:World} (h:au.Rd B0 g msg i l n t w) (x:Int):au.Rd B0 g msg x l n t (w.setCell ⟨g,1,none⟩ (.int .i64 x)):=by
 obtain ⟨p,v,h⟩:=h
 exact ⟨p,v,h.set 1 _ (by omega) (by omega)⟩
theorem au.Rd.set2 {B0 g:Nat} {msg:ByteArray} {i l n:Int} {t:ByteArray} {w:World} (h:au.Rd B0 g msg i l n t w) (x:Int):au.Rd B0 g msg i x n t (w.setCell ⟨g,2,none⟩ (.int .i64 x)):=by
 obtain ⟨p,v,h⟩:=h
 exact ⟨p,v,h.set 2 _ (by omega) (by omega)⟩
theorem au.Rd.aaR {B0 g:Nat} {msg:ByteArray} {i l n:Int} {t:ByteArray} {w:World} (h:au.Rd B0 g msg i l n t w) (x:Int):au.Rd B0 g msg i l x t (w.setCell ⟨g,3,none⟩ (.int .i64 x)):=by
 obtain ⟨p,v,h⟩:=h
 exact ⟨p,v,h.set 3 _ (by omega) (by omega)⟩
theorem au.cut (B0 g:Nat) (msg:ByteArray) (i l n:Int) (t:ByteArray) (w:World) (h:au.Rd B0 g msg i l n t w) (hs:msg.size ≤ 140737488355328) (hg:¬ jO msg i 2) :
  Calls Tryz.prog 154 #[.pointer (some ⟨g,0,none⟩)] w fun e w'=>e = .returned (.int .i64 2) ∧ au.Rd B0 g msg i l n t w' ∧ Below B0 w w':=by
 have hget:=get_eq 9 (ah1 _) msg i 2 (by omega)
 rw [ahY hg] at hget
 have mR:=ah.mk hget
 obtain ⟨c0,c1,c2,c3,f1,f2,f3⟩:=h.cells
 have hR:=ah.mk h
 clear hget h hs hg
 go_enter Tryz.func154,Tryz.ntmps154
 go_wp2
 go_quiet ((go_at_call 117;exact Calls.quiet_of ((aH.calls 9 msg i 2 _ _ _ mR.out).mono fun _ _ h=>⟨h.1,h.2.out⟩)))
 go_wp2
 go_ret
 exact ⟨rfl,hR.out.drewN _,aj (Below.refl B0 w) _⟩
theorem au.name (B0 g:Nat) (msg:ByteArray) (i l n:Int) (t:ByteArray) (w:World) (h:au.Rd B0 g msg i l n t w) (hs:msg.size ≤ 140737488355328) (hg:jO msg i 2) (hl:l ≤ gP 2 msg i - 49152) :
  Calls Tryz.prog 154 #[.pointer (some ⟨g,0,none⟩)] w fun e w'=>e = .returned (.int .i64 3) ∧ au.Rd B0 g msg i l n t w' ∧ Below B0 w w':=by
 have hget:=get_eq 9 (ah1 _) msg i 2 (by omega)
 rw [ahX hg] at hget
 have hr:=nU 2 msg i
 have mR:=ah.mk (show aH.f 9 msg i 2 = some (gP 2 msg i,true) from hget)
 obtain ⟨c0,c1,c2,c3,f1,f2,f3⟩:=h.cells
 have hR:=ah.mk h
 generalize gP 2 msg i = q at mR hr hl
 have hb0:0 ≤ q:=hr.1
 have hb1:q ≤ 65535:=by have:=hr.2;simp at this;omega
 have d1:decide (l ≤ q - 49152) = true:=ah0 hl
 clear hget h hs hg hr hl
 go_enter Tryz.func154,Tryz.ntmps154
 go_wp2
 go_quiet ((go_at_call 117;exact Calls.quiet_of ((aH.calls 9 msg i 2 _ _ _ mR.out).mono fun _ _ h=>⟨h.1,h.2.out⟩)))
 go_wp2
 go_ret
 exact ⟨rfl,hR.out.drewN _,aj (Below.refl B0 w) _⟩
theorem au.ok (B0 g:Nat) (msg:ByteArray) (i l n:Int) (t:ByteArray) (w:World) (h:au.Rd B0 g msg i l n t w) (hs:msg.size ≤ 140737488355328) (hg:jO msg i 2) (hl:gP 2 msg i - 49152 < l) (n':Int) (hn0:ah (n' = if n = -1 then i + 2 else n)) :
  Calls Tryz.prog 154 #[.pointer (some ⟨g,0,none⟩)] w fun e w'=>e = .returned (.int .i64 0) ∧ au.Rd B0 g msg (gP 2 msg i - 49152) (gP 2 msg i - 49152) n' t w' ∧ Below B0 w w':=by
 have hget:=get_eq 9 (ah1 _) msg i 2 (by omega)
 rw [ahX hg] at hget
 have hr:=nU 2 msg i
 have mR:=ah.mk (show aH.f 9 msg i 2 = some (gP 2 msg i,true) from hget)
 obtain ⟨c0,c1,c2,c3,f1,f2,f3⟩:=h.cells
 have hR:=ah.mk h
 have hi0:=hg.1
 have hi1:i ≤ 140737488355328:=by have:=hg.2.2.2;omega
 have hB:=ah.mk h.base.1
 generalize gP 2 msg i = q at mR hr hl ⊢
 have hb0:0 ≤ q:=hr.1
 have hb1:q ≤ 65535:=by have:=hr.2;simp at this;omega
 have d1:decide (l ≤ q - 49152) = false:=ah2 (by omega)
 by_cases hn:n = -1
 ·subst hn
  have e':=hn0.out
  rw [ahX rfl] at e'
  subst e'
  clear hn0
  have Kh:=ah.mk (((hR.out.aaR (i + 2)).set1 (q - 49152)).set2 (q - 49152))
  have hBl:=ah.mk ((((Below.refl B0 w).setCell (p:=⟨g,3,none⟩) hB.out (.int .i64 (i + 2))).setCell (p:=⟨g,1,none⟩) hB.out (.int .i64 (q - 49152))).setCell (p:=⟨g,2,none⟩) hB.out (.int .i64 (q - 49152)))
  clear hget h hs hg hr hl hR
  go_enter Tryz.func154,Tryz.ntmps154
  go_wp2
  go_quiet ((go_at_call 117;exact Calls.quiet_of ((aH.calls 9 msg i 2 _ _ _ mR.out).mono fun _ _ h=>⟨h.1,h.2.out⟩)))
  go_wp2
  go_ret
  exact ⟨rfl,Kh.out.drewN _,aj hBl.out _⟩
 ·have e':=hn0.out
  have d2:(n == -1) = false:=by simpa using hn
  rw [ahY hn] at e'
  subst e'
  clear hn0
  have Kh:=ah.mk ((hR.out.set1 (q - 49152)).set2 (q - 49152))
  have hBl:=ah.mk (((Below.refl B0 w).setCell (p:=⟨g,1,none⟩) hB.out (.int .i64 (q - 49152))).setCell (p:=⟨g,2,none⟩) hB.out (.int .i64 (q - 49152)))
  clear hget h hs hg hr hl hR hn
  go_enter Tryz.func154,Tryz.ntmps154
  go_wp2
  go_quiet ((go_at_call 117;exact Calls.quiet_of ((aH.calls 9 msg i 2 _ _ _ mR.out).mono fun _ _ h=>⟨h.1,h.2.out⟩)))
  go_wp2
  go_ret
  exact ⟨rfl,Kh.out.drewN _,aj hBl.out _⟩
theorem jE.str (B0 g:Nat) (msg:ByteArray) (i l n:Int) (t:ByteArray) (w:World) (h:au.Rd B0 g msg i l n t w) (hw:B0 ≤ w.heap.size) :
  Calls Tryz.prog 157 #[.pointer (some ⟨g,4,none⟩)] w fun e w'=>e = .returned (.string t) ∧ (w'.cell? ⟨g,3,none⟩ = some (.int .i64 n)) ∧ Below B0 w w':=by
 have hc:=h.cells.2.2.2.1
 obtain ⟨p,v,h⟩:=h
 refine (aG.any _ B0 g 4 _ p v t w h hw).mono ?_
 rintro e w' ⟨rfl,hk,hb⟩
 exact ⟨rfl,by rw [(hk ⟨g,3,none⟩ rfl).1];exact hc,hb⟩
theorem jE.any (B0 g:Nat) (msg:ByteArray) (i l n:Int) (t:ByteArray) (w:World) (h:au.Rd B0 g msg i l n t w) (hw:B0 ≤ w.heap.size) (ht:t.size ≤ 140737488355328) (hi:0 ≤ i) (hi2:i ≤ 140737488355328)
  (n':Int) (hn0:ah (n' = if n = -1 then i + 1 else n)) :
  Calls Tryz.prog 153 #[.pointer (some ⟨g,0,none⟩)] w fun e w'=>e = .returned (.tuple #[.string (t ++ (⟨#[0]⟩:ByteArray)),.int .i64 n',.int .i64 0]) ∧ Below B0 w w':=by
 obtain ⟨c0,c1,c2,c3,f1,f2,f3⟩:=h.cells
 have hR:=ah.mk h
 have hB:=ah.mk h.base.1
 have hw':=ah.mk hw
 have ht1:(t.size + 1 ≤ 9223372036854775807) = True:=ah9 (by omega)
 have ht2:(9223372036854775807 < t.size + 1) = False:=eq_false (by omega)
 have ht3:decide (t.size + 1 ≤ 9223372036854775807) = true:=ah0 (by omega)
 by_cases hn:n = -1
 ·subst hn
  have e':=hn0.out
  rw [ahX rfl] at e'
  subst e'
  clear hn0
  have Kh:=ah.mk (hR.out.aaR (i + 1))
  have hc3:=Kh.out.cells.2.2.2.1
  have hBl:=ah.mk ((Below.refl B0 w).setCell (p:=⟨g,3,none⟩) hB.out (.int .i64 (i + 1)))
  have hsz:=ah.mk (show B0 ≤ (w.setCell ⟨g,3,none⟩ (.int .i64 (i + 1))).heap.size by have:=hBl.out.size;omega)
  clear h hw hR ht hB hw'
  go_enter Tryz.func153,Tryz.ntmps153
  go_wp2
  generalize w.setCell ⟨g,3,none⟩ (.int .i64 (i + 1)) = w1 at *
  clear c0 c1 c2 c3 f1 f2 f3
  go_region_with (go_at_call 157;refine (jE.str B0 g msg i l (i + 1) t _ (by first | exact Kh.out | exact Kh.out.drewN 1 | exact Kh.out.drewN _) (by first | exact hsz.out | (simp;exact hsz.out))).mono ?_;rintro e w' ⟨rfl,hk3,hb⟩;have hb':=ah.mk hb;clear hb)
  all_goals
   go_wp2
   go_ret3
   exact ⟨rfl,by first | exact hBl.out.trans hb'.out | exact (je hBl.out).trans hb'.out | exact je (hBl.out.trans hb'.out) | exact hBl.out.trans (je hb'.out)⟩
 ·have e':=hn0.out
  have d2:(n == -1) = false:=by simpa using hn
  rw [ahY hn] at e'
  subst e'
  clear hn0
  clear h hw ht hB
  go_enter Tryz.func153,Tryz.ntmps153
  go_wp2
  clear c0 c1 c2 f1 f2 f3
  go_region_with (go_at_call 157;refine (jE.str B0 g msg i l n' t _ (by first | exact hR.out | exact hR.out.drewN 1 | exact hR.out.drewN _) (by first | exact hw'.out | (simp;exact hw'.out))).mono ?_;rintro e w' ⟨rfl,hk3,hb⟩;have hb':=ah.mk hb;clear hb)
  all_goals
   go_wp2
   go_ret3
   exact ⟨rfl,by first | exact hb'.out | exact (je (Below.refl B0 w)).trans hb'.out | exact je hb'.out⟩
theorem dn.cut (B0 g:Nat) (msg:ByteArray) (i l n z:Int) (t:ByteArray) (w:World) (h:au.Rd B0 g msg i l n t w) (hs:msg.size ≤ 140737488355328) (hz0:0 ≤ z) (hz1:z ≤ 255) (hg:¬ ig msg i (1 + z)) :
  Calls Tryz.prog 155 #[.pointer (some ⟨g,0,none⟩),.int .i64 z] w fun e w'=>e = .returned (.int .i64 2) ∧ au.Rd B0 g msg i l n t w' ∧ Below B0 w w':=by
 have hget:=tN msg i (1 + z) (by omega)
 rw [ahY hg] at hget
 have mR:=ah.mk hget
 obtain ⟨c0,c1,c2,c3,f1,f2,f3⟩:=h.cells
 have hR:=ah.mk h
 clear hget h hs hg
 go_enter Tryz.func155,Tryz.ntmps155
 go_wp2
 go_quiet ((go_at_call 136;exact Calls.quiet_of ((eD.calls msg i (1 + z) _ _ _ mR.out).mono fun _ _ h=>⟨h.1,h.2.out⟩)))
 go_wp2
 go_ret
 exact ⟨rfl,hR.out.drewN _,aj (Below.refl B0 w) _⟩
theorem dn.len (B0 g:Nat) (msg:ByteArray) (i l n:Int) (t:ByteArray) (w:World) (h:au.Rd B0 g msg i l n t w) :
  Calls Tryz.prog 158 #[.pointer (some ⟨g,4,none⟩)] w fun e w'=>e = .returned (.int .i64 t.size) ∧ w = w':=by
 obtain ⟨p,v,h⟩:=h
 have:=qD.any _ B0 g 4 _ p v _ w h
 rw [Lib.strCells_length] at this
 exact this
theorem dn.lies : liesAt Tryz.prog Tryz.prog.depth 228 (6 / Tryz.prog.cellsOf 228) 4 226 1 = true:=by kernel_rfl
theorem dn.write (B0 g:Nat) (msg:ByteArray) (i l n:Int) (t s:ByteArray) (w:World) (h:au.Rd B0 g msg i l n t w) (hlen:t.size + s.size ≤ 140737488355328) (hBw:B0 ≤ w.heap.size) :
  Calls Tryz.prog 159 #[.pointer (some ⟨g,4,none⟩),.string s] w fun e w'=>e = .returned (.tuple #[.int .i64 s.size,.nilIface]) ∧ au.Rd B0 g msg i l n (t ++ s) w' ∧ Below B0 w w':=by
 obtain ⟨p,v,h⟩:=h
 refine (gD.any _ B0 g 4 _ p v t s w h dn.lies (by decide) hlen hBw).mono ?_
 rintro e w' ⟨rfl,⟨v',h'⟩,hb⟩
 exact ⟨rfl,⟨_,v',h'⟩,hb⟩
theorem dn.name (B0 g:Nat) (msg:ByteArray) (i l n z:Int) (t:ByteArray) (w:World) (h:au.Rd B0 g msg i l n t w) (hs:msg.size ≤ 140737488355328) (hz0:0 ≤ z) (hz1:z ≤ 255) (hg:ig msg i (1 + z)) (ht:t.size ≤ 140737488355328) (hl:255 ≤ (t.size:Int) + (1 + z)) :
  Calls Tryz.prog 155 #[.pointer (some ⟨g,0,none⟩),.int .i64 z] w fun e w'=>e = .returned (.int .i64 3) ∧ au.Rd B0 g msg i l n t w' ∧ Below B0 w w':=by
 have hget:=tN msg i (1 + z) (by omega)
 rw [ahX hg] at hget
 have hsz:=B.size_ext hg.1 hg.2.1 hg.2.2
 have mR:=ah.mk hget
 obtain ⟨c0,c1,c2,c3,f1,f2,f3⟩:=h.cells
 have hR:=ah.mk h
 generalize msg.extract i.toNat (i + (1 + z)).toNat = lb at *
 have hlb:lb.size ≤ 256:=by omega
 have d1:decide (255 ≤ (t.size:Int) + (lb.size:Int)) = true:=ah0 (by omega)
 have d2:decide (255 ≤ t.size + lb.size) = true:=ah0 (by omega)
 clear hget h hs hg hsz hl
 go_enter Tryz.func155,Tryz.ntmps155
 go_wp2
 go_quiet ((go_at_call 136;exact Calls.quiet_of ((eD.calls msg i (1 + z) _ _ _ mR.out).mono fun _ _ h=>⟨h.1,h.2.out⟩)))
 go_wp2_with (go_at_call 158;refine (dn.len B0 g msg i l n t _ (hR.out.drewN _)).mono ?_;rintro e w' ⟨rfl,rfl⟩)
 go_ret
 exact ⟨rfl,hR.out.drewN _,aj (Below.refl B0 w) _⟩
theorem dn.ok (B0 g:Nat) (msg:ByteArray) (i l n z:Int) (t:ByteArray) (w:World) (h:au.Rd B0 g msg i l n t w) (hw:B0 ≤ w.heap.size) (hs:msg.size ≤ 140737488355328) (hz0:0 ≤ z) (hz1:z ≤ 255) (hg:ig msg i (1 + z)) (hl:(t.size:Int) + (1 + z) < 255) :
  Calls Tryz.prog 155 #[.pointer (some ⟨g,0,none⟩),.int .i64 z] w fun e w'=>e = .returned (.int .i64 0) ∧ au.Rd B0 g msg (i + (1 + z)) l n (t ++ msg.extract i.toNat (i + (1 + z)).toNat) w' ∧ Below B0 w w':=by
 have hget:=tN msg i (1 + z) (by omega)
 rw [ahX hg] at hget
 have hsz:=B.size_ext hg.1 hg.2.1 hg.2.2
 have mR:=ah.mk hget
 obtain ⟨c0,c1,c2,c3,f1,f2,f3⟩:=h.cells
 have hR:=ah.mk h
 have hi0:=hg.1
 have hi1:i ≤ 140737488355328:=by have:=hg.2.2;omega
 have hB:=ah.mk h.base.1
 generalize msg.extract i.toNat (i + (1 + z)).toNat = lb at *
 have hlb:lb.size ≤ 256:=by omega
 have htb:t.size ≤ 256:=by omega
 have d1:decide (255 ≤ (t.size:Int) + (lb.size:Int)) = false:=ah2 (by omega)
 have d2:decide (255 ≤ t.size + lb.size) = false:=ah2 (by omega)
 have hsum:=ah.mk (show i + (lb.size:Int) = i + (1 + z) by omega)
 have hw':=ah.mk hw
 clear hget h hs hg hsz hl hw
 go_enter Tryz.func155,Tryz.ntmps155
 go_wp2
 go_quiet ((go_at_call 136;exact Calls.quiet_of ((eD.calls msg i (1 + z) _ _ _ mR.out).mono fun _ _ h=>⟨h.1,h.2.out⟩)))
 go_wp2_with (first | (go_at_call 158;refine (dn.len B0 g msg i l n t _ (hR.out.drewN _)).mono ?_;rintro e w' ⟨rfl,rfl⟩) | (go_at_call 159;refine (dn.write B0 g msg i l n t lb _ (hR.out.drewN _) (by omega) (by simpa using hw'.out)).mono ?_))
 rintro e w1 ⟨rfl,Kh,hb1⟩
 obtain ⟨e0,e1,e2,e3,g1,g2,g3⟩:=Kh.cells
 have hR2:=ah.mk (Kh.set1 (i + (1 + z)))
 rw [← hsum.out] at hR2
 have hBl:=ah.mk ((aj (Below.refl B0 w) _).trans (hb1.setCell (p:=⟨g,1,none⟩) hB.out (.int .i64 (i + (lb.size:Int)))))
 clear Kh hb1 c0 c1 c2 c3 f1 f2 f3
 go_wp2
 go_ret
 exact ⟨rfl,by rw [← hsum.out];exact hR2.out,hBl.out⟩
def aW.l : Nat → ByteArray → Int → Int → Int → ByteArray → Option (ByteArray × Int × Int)
 | 0,_,_,_,_,_=>none
 | k + 1,msg,i,least,next,t =>
  if jO msg i 1 then
   (if bt msg i = 0 then some (t ++ (⟨#[0]⟩:ByteArray),(if next = -1 then i + 1 else next),0)
   else if 192 ≤ bt msg i then
    (if jO msg i 2 then
     (if gP 2 msg i - 49152 ≥ least then some (⟨#[]⟩,0,3)
     else aW.l k msg (gP 2 msg i - 49152) (gP 2 msg i - 49152) (if next = -1 then i + 2 else next) t)
    else some (⟨#[]⟩,0,2))
   else if 63 < bt msg i then some (⟨#[]⟩,0,3)
   else if ig msg i (1 + bt msg i) then
    (if (t.size:Int) + (1 + bt msg i) ≥ 255 then some (⟨#[]⟩,0,3)
    else aW.l k msg (i + (1 + bt msg i)) least next (t ++ msg.extract i.toNat (i + (1 + bt msg i)).toNat))
   else some (⟨#[]⟩,0,2))
  else some (⟨#[]⟩,0,2)
def aW.f (k:Nat) (a0:ByteArray) (a1:Int):Option (ByteArray × Int × Int):=if a0.size ≤ 140737488355328 then aW.l k a0 a1 a1 (-1) ⟨#[]⟩ else none
theorem aW.yC : ∀ k m i l n t,mF (aW.l k m i l n t) (aW.l (k + 1) m i l n t)
 | 0,_,_,_,_,_=>fun r h=>by simp [aW.l] at h
 | k + 1,m,i,l,n,t=>by
  have ih:=aW.yC k
  rw [aW.l,aW.l]
  repeat' first
   | (with_reducible exact ih _ _ _ _ _)
   | (with_reducible exact mF.refl _)
   | (with_reducible refine mF.ite ?_ ?_)
theorem aW.mono : ∀ a0 a1 k,mF (aW.f k a0 a1) (aW.f (k + 1) a0 a1):=by
 intro a0 a1 k
 unfold aW.f
 exact mF.ite (aW.yC k _ _ _ _ _) (mF.refl _)
theorem aW.afw (msg:ByteArray) (i:Int) (hs:msg.size ≤ 140737488355328) (hg:jO msg i 1):aH.f 9 msg i 1 = some (bt msg i,true):=by
 have h:=get_eq 9 (ah1 _) msg i 1 (by omega)
 rw [ahX hg] at h
 rw [h]
 congr 1
 exact aio (·,true) (Es msg i)
theorem aW.start (w:World) (msg:ByteArray) (i:Int) :
  au.Rd w.heap.size w.heap.size msg i i (-1) ⟨#[]⟩ (w.alloc (.cells #[.string msg,.int .i64 i,.int .i64 i,.int .i64 (-1),.pointer none,.slice none 0 0] 228)) :=
 ⟨.pointer none,.slice none 0 0,ah1 _,heap_alloc_new w _,rfl,rfl,.inl rfl,World.ownsRow_nil _ _ _ _,by simp [Value.ownBlock]⟩
def aW.St (R:ByteArray × Int × Int) (B0 g:Nat) (msg:ByteArray) (k:Nat) (x:Int) (w:World):Prop :=
 (x = 0 ∧ ∃ i l n t,au.Rd B0 g msg i l n t w ∧ aW.l k msg i l n t = some R ∧ t.size ≤ 255) ∨ (x ≠ 0 ∧ R = (⟨#[]⟩,0,x))
theorem aW.calls (k:Nat) (a0:ByteArray) (a1:Int) (r1:ByteArray) (r2 r3:Int) (w:World) (h:aW.f k a0 a1 = some (r1,r2,r3)) :
  Calls Tryz.prog 146 #[.string a0,.int .i64 a1] w fun e w'=>e = .returned (.tuple #[.string r1,.int .i64 r2,.int .i64 r3]) ∧ Below w.heap.size w w':=by
 unfold aW.f at h
 by_cases hs:a0.size ≤ 140737488355328
 ·rw [ahX hs] at h
  have hR:=ah.mk (aW.start w a0 a1)
  have hB:=ah.mk (av (Below.refl w.heap.size w) (.cells #[.string a0,.int .i64 a1,.int .i64 a1,.int .i64 (-1),.pointer none,.slice none 0 0] 228))
  have hH:=ah.mk h
  have hsz:=ah.mk hs
  clear h hs
  go_enter Tryz.func146,Tryz.ntmps146
  go_wp2
  go_step3
  go_wp2
  go_step3
  go_wp2
  have hSt:=ah.mk (show aW.St (r1,r2,r3) w.heap.size w.heap.size a0 k 0 _ from .inl ⟨rfl,a1,a1, -1,⟨#[]⟩,hR.out,hH.out,by decide⟩)
  clear hR hH
  generalize w.alloc (.cells #[.string a0,.int .i64 a1,.int .i64 a1,.int .i64 (-1),.pointer none,.slice none 0 0] 228) = w1 at hSt hB ⊢
  generalize hgg:w.heap.size = g at hSt hB ⊢
  have hg':=ah.mk hgg
  clear hgg
  go_loopg [8] k (fun kq v8 wr=>∃ x:Int,v8 = .int .i64 x ∧ ah (aW.St (r1,r2,r3) g g a0 kq x wr) ∧ ah (kq ≤ k) ∧ ah (Below g w wr))
  case atStart=>exact ⟨0,rfl,hSt,⟨ah1 _⟩,hB⟩
  case round =>
   clear hSt hB
   obtain ⟨x,rfl,HS,HK,HB⟩:=hrel
   rcases HS.out with ⟨hx,i,l,n,t,hR0,hH0,ht0⟩ | ⟨hx,hR⟩
   ·subst hx
    clear HS
    cases gk with
    | zero=>exact absurd hH0 (by simp [aW.l])
    | succ k2 =>
     have hR:=ah.mk hR0
     have m0:=hR0.cells.1
     have m1:=hR0.cells.2.1
     have hsz':=hsz.out
     have hBs:=ah.mk (show g ≤ wr.heap.size by have:=hR0.base.2;omega)
     have ht:=ah.mk ht0
     rw [aW.l] at hH0
     clear hR0 ht0
     by_cases hg:jO a0 i 1
     ·rw [ahX hg] at hH0
      have hget:=ah.mk (aW.afw a0 i hsz' hg)
      have hi0:=hg.1
      have hi1:i ≤ 140737488355328:=by have:=hg.2.2.2;omega
      have hii:=ah.mk (And.intro hi0 hi1)
      have hbr:=gI a0 i
      clear hi0 hi1 hsz' hg
      by_cases c1:bt a0 i = 0
      ·rw [ahX c1] at hH0
       rw [c1] at hget
       simp only [aie,ain] at hH0
       obtain ⟨rfl,h2,rfl⟩:=hH0
       have h2':=ah.mk h2.symm
       clear c1 hbr h2
       go_wp2
       go_quiet ((go_at_call 117;exact Calls.quiet_of ((aH.calls 9 a0 i 1 _ _ _ hget.out).mono fun _ _ h=>⟨h.1,h.2.out⟩)))
       go_wp2_with (go_at_call 153;refine (jE.any g g a0 i l n t _ (hR.out.drewN _) (by simpa using hBs.out) (by have:=ht.out;omega) hii.out.1 hii.out.2 r2 h2').mono ?_;rintro e w' ⟨rfl,hb⟩)
       (try rw [Exit.noGoto_ret])
       go_ret3
       exact ⟨rfl,by rw [hg'.out];exact (aj HB.out _).trans hb⟩
      ·rw [ahY c1] at hH0
       have d1:(bt a0 i == 0) = false:=by simpa using c1
       by_cases c2:192 ≤ bt a0 i
       ·rw [ahX c2] at hH0
        have d2:decide (192 ≤ bt a0 i) = true:=ah0 c2
        by_cases c3:jO a0 i 2
        ·rw [ahX c3] at hH0
         by_cases c4:gP 2 a0 i - 49152 ≥ l
         ·rw [ahX c4] at hH0
          simp only [aie,ain] at hH0
          obtain ⟨rfl,rfl,rfl⟩:=hH0
          have hF:=fun (W:World) (hW:au.Rd g g a0 i l n t W)=>au.name g g a0 i l n t W hW hsz.out c3 c4
          have hF':=ah.mk hF
          clear hF c1 c2 c3 c4 hbr
          generalize bt a0 i = c at *
          go_wp2
          go_quiet ((go_at_call 117;exact Calls.quiet_of ((aH.calls 9 a0 i 1 _ _ _ hget.out).mono fun _ _ h=>⟨h.1,h.2.out⟩)))
          go_wp2_with (go_at_call 154;refine (hF'.out _ (hR.out.drewN _)).mono ?_;rintro e w' ⟨rfl,hR',hb⟩)
          go_roundg k2
          case measure=>have:=HK.out;omega
          case rel=>exact ⟨3,rfl,⟨.inr ⟨by decide,rfl⟩⟩,⟨by have:=HK.out;omega⟩,⟨(aj HB.out _).trans hb⟩⟩
         ·rw [ahY c4] at hH0
          have hF:=fun (W:World) (hW:au.Rd g g a0 i l n t W)=>au.ok g g a0 i l n t W hW hsz.out c3 (by omega) _ ⟨rfl⟩
          have hF':=ah.mk hF
          have hH1:=ah.mk hH0
          clear hF c1 c2 c3 c4 hbr hH0
          generalize bt a0 i = c at *
          go_wp2
          go_quiet ((go_at_call 117;exact Calls.quiet_of ((aH.calls 9 a0 i 1 _ _ _ hget.out).mono fun _ _ h=>⟨h.1,h.2.out⟩)))
          go_wp2_with (go_at_call 154;refine (hF'.out _ (hR.out.drewN _)).mono ?_;rintro e w' ⟨rfl,hR',hb⟩)
          go_roundg k2
          case measure=>have:=HK.out;omega
          case rel=>exact ⟨0,rfl,⟨.inl ⟨rfl,_,_,_,_,hR',hH1.out,ht.out⟩⟩,⟨by have:=HK.out;omega⟩,⟨(aj HB.out _).trans hb⟩⟩
        ·rw [ahY c3] at hH0
         simp only [aie,ain] at hH0
         obtain ⟨rfl,rfl,rfl⟩:=hH0
         have hF:=fun (W:World) (hW:au.Rd g g a0 i l n t W)=>au.cut g g a0 i l n t W hW hsz.out c3
         have hF':=ah.mk hF
         clear hF c1 c2 c3 hbr
         generalize bt a0 i = c at *
         go_wp2
         go_quiet ((go_at_call 117;exact Calls.quiet_of ((aH.calls 9 a0 i 1 _ _ _ hget.out).mono fun _ _ h=>⟨h.1,h.2.out⟩)))
         go_wp2_with (go_at_call 154;refine (hF'.out _ (hR.out.drewN _)).mono ?_;rintro e w' ⟨rfl,hR',hb⟩)
         go_roundg k2
         case measure=>have:=HK.out;omega
         case rel=>exact ⟨2,rfl,⟨.inr ⟨by decide,rfl⟩⟩,⟨by have:=HK.out;omega⟩,⟨(aj HB.out _).trans hb⟩⟩
       ·rw [ahY c2] at hH0
        have d2:decide (192 ≤ bt a0 i) = false:=ah2 c2
        by_cases c3:63 < bt a0 i
        ·rw [ahX c3] at hH0
         have d3:decide (63 < bt a0 i) = true:=ah0 c3
         simp only [aie,ain] at hH0
         obtain ⟨rfl,rfl,rfl⟩:=hH0
         clear c1 c2 c3 hbr
         generalize bt a0 i = c at *
         go_wp2
         go_quiet ((go_at_call 117;exact Calls.quiet_of ((aH.calls 9 a0 i 1 _ _ _ hget.out).mono fun _ _ h=>⟨h.1,h.2.out⟩)))
         go_wp2
         go_roundg k2
         case measure=>have:=HK.out;omega
         case rel=>exact ⟨3,rfl,⟨.inr ⟨by decide,rfl⟩⟩,⟨by have:=HK.out;omega⟩,⟨aj HB.out _⟩⟩
        ·rw [ahY c3] at hH0
         have d3:decide (63 < bt a0 i) = false:=ah2 c3
         by_cases c4:ig a0 i (1 + bt a0 i)
         ·rw [ahX c4] at hH0
          by_cases c5:(t.size:Int) + (1 + bt a0 i) ≥ 255
          ·rw [ahX c5] at hH0
           simp only [aie,ain] at hH0
           obtain ⟨rfl,rfl,rfl⟩:=hH0
           have hF:=fun (W:World) (hW:au.Rd g g a0 i l n t W)=>dn.name g g a0 i l n (bt a0 i) t W hW hsz.out hbr.1 hbr.2 c4 (by have:=ht.out;omega) c5
           have hF':=ah.mk hF
           clear hF c1 c2 c3 c4 c5 hbr
           generalize bt a0 i = c at *
           go_wp2
           go_quiet ((go_at_call 117;exact Calls.quiet_of ((aH.calls 9 a0 i 1 _ _ _ hget.out).mono fun _ _ h=>⟨h.1,h.2.out⟩)))
           go_wp2_with (go_at_call 155;refine (hF'.out _ (hR.out.drewN _)).mono ?_;rintro e w' ⟨rfl,hR',hb⟩)
           go_roundg k2
           case measure=>have:=HK.out;omega
           case rel=>exact ⟨3,rfl,⟨.inr ⟨by decide,rfl⟩⟩,⟨by have:=HK.out;omega⟩,⟨(aj HB.out _).trans hb⟩⟩
          ·rw [ahY c5] at hH0
           have hF:=fun (W:World) (hw:g ≤ W.heap.size) (hW:au.Rd g g a0 i l n t W)=>dn.ok g g a0 i l n (bt a0 i) t W hW hw hsz.out hbr.1 hbr.2 c4 (by omega)
           have hF':=ah.mk hF
           have hH1:=ah.mk hH0
           have hz:=B.size_ext c4.1 c4.2.1 c4.2.2
           have ht2:=ah.mk (show (t ++ a0.extract i.toNat (i + (1 + bt a0 i)).toNat).size ≤ 255 by rw [aiw];omega)
           clear hF c1 c2 c3 c4 c5 hbr hH0 hz
           generalize bt a0 i = c at *
           go_wp2
           go_quiet ((go_at_call 117;exact Calls.quiet_of ((aH.calls 9 a0 i 1 _ _ _ hget.out).mono fun _ _ h=>⟨h.1,h.2.out⟩)))
           go_wp2_with (go_at_call 155;refine (hF'.out _ (by simpa using hBs.out) (hR.out.drewN _)).mono ?_;rintro e w' ⟨rfl,hR',hb⟩)
           go_roundg k2
           case measure=>have:=HK.out;omega
           case rel=>exact ⟨0,rfl,⟨.inl ⟨rfl,_,_,_,_,hR',hH1.out,ht2.out⟩⟩,⟨by have:=HK.out;omega⟩,⟨(aj HB.out _).trans hb⟩⟩
         ·rw [ahY c4] at hH0
          simp only [aie,ain] at hH0
          obtain ⟨rfl,rfl,rfl⟩:=hH0
          have hF:=fun (W:World) (hW:au.Rd g g a0 i l n t W)=>dn.cut g g a0 i l n (bt a0 i) t W hW hsz.out hbr.1 hbr.2 c4
          have hF':=ah.mk hF
          clear hF c1 c2 c3 c4 hbr
          generalize bt a0 i = c at *
          go_wp2
          go_quiet ((go_at_call 117;exact Calls.quiet_of ((aH.calls 9 a0 i 1 _ _ _ hget.out).mono fun _ _ h=>⟨h.1,h.2.out⟩)))
          go_wp2_with (go_at_call 155;refine (hF'.out _ (hR.out.drewN _)).mono ?_;rintro e w' ⟨rfl,hR',hb⟩)
          go_roundg k2
          case measure=>have:=HK.out;omega
          case rel=>exact ⟨2,rfl,⟨.inr ⟨by decide,rfl⟩⟩,⟨by have:=HK.out;omega⟩,⟨(aj HB.out _).trans hb⟩⟩
     ·rw [ahY hg] at hH0
      have h:=get_eq 9 (ah1 _) a0 i 1 (by omega)
      rw [ahY hg] at h
      have hget:=ah.mk h
      simp only [aie,ain] at hH0
      obtain ⟨rfl,rfl,rfl⟩:=hH0
      clear hg h hsz'
      go_wp2
      go_quiet ((go_at_call 117;exact Calls.quiet_of ((aH.calls 9 a0 i 1 _ _ _ hget.out).mono fun _ _ h=>⟨h.1,h.2.out⟩)))
      go_wp2
      (try rw [Exit.noGoto_ret])
      go_ret3
      exact ⟨rfl,by rw [hg'.out];exact aj HB.out _⟩
   ·simp only [ain] at hR
    obtain ⟨rfl,rfl,rfl⟩:=hR
    have d1:(r3 == 0) = false:=by simpa using hx
    clear HS hx
    go_wp2
    (try rw [Exit.noGoto_ret])
    go_ret3
    exact ⟨rfl,by rw [hg'.out];exact HB.out⟩
 ·rw [ahY hs] at h
  exact absurd h (by simp)
end
section
open Go.RowKit Go.Proofs.YtfokaoeinpnagaaGreatW.aX Go.Proofs.YtfokaoeinpnagaaGreatW.dQ Go.Proofs.YtfokaoeinpnagaaGreatW.eX
attribute [local go_sem] jX jY lC lD jl jm jZ j3
def fI.f (a0:Int):Option (ByteArray × Int × Int):=some ((⟨#[]⟩:ByteArray),0,a0)
def dN.l0 : Nat → ByteArray → Int → ByteArray → Int → Int → Option (ByteArray × Int × Int)
 | 0,_,_,_,_,_=>none
 | k + 1,x0,x1,x7,x8,x9=>(bn.f k x0 x1 1).bind fun Am=>(if Am.2 = true then (if Am.1 = 0 then (if x8 < 0 then (if x7.size + 1 ≤ 9223372036854775807 then (some (x7 ++ (⟨#[0]⟩:ByteArray),wrap64 (x1 + 1),0)) else (none)) else (if x7.size + 1 ≤ 9223372036854775807 then (some (x7 ++ (⟨#[0]⟩:ByteArray),x8,0)) else (none))) else (if Am.1 ≥ 192 then ((bn.f k x0 x1 2).bind fun Ao=>(if Ao.2 = true then (if (wrap64 (Ao.1 - 49152)) ≥ x9 then ((fI.f 3).bind fun Ns=>(some (Ns.1,Ns.2.1,Ns.2.2))) else (if x8 < 0 then (dN.l0 k x0 (wrap64 (Ao.1 - 49152)) x7 (wrap64 (x1 + 2)) (wrap64 (Ao.1 - 49152))) else (dN.l0 k x0 (wrap64 (Ao.1 - 49152)) x7 x8 (wrap64 (Ao.1 - 49152))))) else ((fI.f 2).bind fun Nu=>(some (Nu.1,Nu.2.1,Nu.2.2))))) else (if Am.1 > 63 then ((fI.f 3).bind fun Nw=>(some (Nw.1,Nw.2.1,Nw.2.2))) else ((gV.f x0 x1 (wrap64 (Am.1 + 1))).bind fun Ig=>(if Ig.2 = true then (if x7.size + Ig.1.size ≤ 9223372036854775807 then (if (wrap64 (((x7 ++ Ig.1).size:Int) + 1)) > 255 then ((fI.f 3).bind fun Ny=>(some (Ny.1,Ny.2.1,Ny.2.2))) else (dN.l0 k x0 (wrap64 ((wrap64 (x1 + Am.1)) + 1)) (x7 ++ Ig.1) x8 x9)) else (none)) else ((fI.f 2).bind fun Nz=>(some (Nz.1,Nz.2.1,Nz.2.2)))))))) else ((fI.f 2).bind fun NA=>(some (NA.1,NA.2.1,NA.2.2))))
def dN.f (k:Nat) (a0:ByteArray) (a1:Int):Option (ByteArray × Int × Int):=dN.l0 k a0 a1 (⟨#[]⟩:ByteArray) (-1) a1
end
section
open Go.RowKit Go.Proofs.YtfokaoeinpnagaaGreatW.aX Go.Proofs.YtfokaoeinpnagaaGreatW.dQ Go.Proofs.YtfokaoeinpnagaaGreatW.eX Go.Proofs.YtfokaoeinpnagaaGreat.B
theorem Ih {msg:ByteArray} {i:Int} (h:192 ≤ bt msg i):49152 ≤ gP 2 msg i ∧ gP 2 msg i ≤ 65535:=by
 have h1:=gI msg i
 have h2:=gI msg (i + 1)
 simp [gP]
 omega
theorem afx (a b:Nat) (c:Int) (h:(b:Int) = 1 + c) (ha:a ≤ 254) (hb:c ≤ 63) (h0:0 ≤ c):wrap64 (((a + b:Nat):Int) + 1) = a + (1 + c) + 1:=by
 rw [lF (by omega) (by omega)];omega
theorem JC (d:Nat):∀ (k:Nat) (msg:ByteArray) (i l n:Int) (t:ByteArray),l.toNat + (255 - t.size) < d → d + 10 ≤ k → msg.size ≤ 100000 → t.size ≤ 254 → (n = -1 ∨ 0 ≤ n) →
  ∃ R,aW.l k msg i l n t = some R ∧ dN.l0 k msg i t n l = some R:=by
 induction d with
 | zero=>intro k msg i l n t h;omega
 | succ d ih =>
  intro k msg i l n t hd hk hm ht hn
  obtain ⟨k,rfl⟩:∃ m,k = m + 1:=⟨k - 1,by omega⟩
  rw [aW.l,dN.l0,yD k (by omega) msg i 1 (by omega),yD k (by omega) msg i 2 (by omega)]
  simp only [Option.bind_some]
  by_cases g1:jO msg i 1
  ·have hr:=gI msg i
   have e1:gP (1:Int).toNat msg i = bt msg i:=Es msg i
   have hi0:=g1.1
   have hi1:=g1.2.2.2
   simp only [ahX g1,e1,aiu]
   by_cases c0:bt msg i = 0
   ·simp only [ahX c0]
    have z:t.size + 1 ≤ 9223372036854775807:=by omega
    simp only [ahX z]
    rw [lF (n:=i + 1) (by omega) (by omega)]
    rcases hn with rfl | hn
    ·rw [ahX (show (-1:Int) < 0 by omega),ahX rfl];exact ⟨_,rfl,rfl⟩
    ·rw [ahY (show ¬ n < 0 by omega),ahY (show ¬ n = -1 by omega)];exact ⟨_,rfl,rfl⟩
   ·simp only [ahY c0]
    by_cases c1:192 ≤ bt msg i
    ·have hg:=Ih c1
     simp only [ahX c1,ahX (show bt msg i ≥ 192 from c1)]
     by_cases g2:jO msg i 2
     ·have e2:gP (2:Int).toNat msg i = gP 2 msg i:=rfl
      have hi2:=g2.2.2.2
      simp only [ahX g2,e2,aiu]
      rw [lF (n:=gP 2 msg i - 49152) (by omega) (by omega),lF (n:=i + 2) (by omega) (by omega)]
      by_cases c2:gP 2 msg i - 49152 ≥ l
      ·rw [ahX c2,ahX c2]
       exact ⟨_,rfl,rfl⟩
      ·rw [ahY c2,ahY c2]
       rcases hn with rfl | hn
       ·rw [ahX (show (-1:Int) < 0 by omega),ahX rfl]
        exact ih k msg _ _ _ t (by omega) (by omega) hm ht (.inr (by omega))
       ·rw [ahY (show ¬ n < 0 by omega),ahY (show ¬ n = -1 by omega)]
        exact ih k msg _ _ _ t (by omega) (by omega) hm ht (.inr hn)
     ·simp only [ahY g2,ais,aik]
      exact ⟨_,rfl,rfl⟩
    ·simp only [ahY c1,ahY (show ¬ bt msg i ≥ 192 from c1)]
     by_cases c2:63 < bt msg i
     ·rw [ahX c2,ahX (show bt msg i > 63 from c2)]
      exact ⟨_,rfl,rfl⟩
     ·rw [ahY c2,ahY (show ¬ bt msg i > 63 from c2),lF (n:=bt msg i + 1) (by omega) (by omega),vF msg i _ (by omega),show bt msg i + 1 = 1 + bt msg i from by omega]
      simp only [Option.bind_some]
      by_cases g3:ig msg i (1 + bt msg i)
      ·have hz:=size_ext g3.1 g3.2.1 g3.2.2
       simp only [ahX g3,aiu]
       have hsz:t.size + (msg.extract i.toNat (i + (1 + bt msg i)).toNat).size ≤ 9223372036854775807:=by omega
       rw [ahX hsz,aiw,afx _ _ _ hz ht (by omega) (by omega)]
       clear hsz
       by_cases c3:(t.size:Int) + (1 + bt msg i) ≥ 255
       ·rw [ahX c3,ahX (show (t.size:Int) + (1 + bt msg i) + 1 > 255 by omega)]
        exact ⟨_,rfl,rfl⟩
       ·have hb:=g3.2.2
        rw [ahY c3,ahY (show ¬ (t.size:Int) + (1 + bt msg i) + 1 > 255 by omega),lF (n:=i + bt msg i) (by omega) (by omega),lF (n:=i + bt msg i + 1) (by omega) (by omega),show i + bt msg i + 1 = i + (1 + bt msg i) from by omega]
        exact ih k msg _ _ _ _ (by rw [aiw];omega) (by omega) hm (by rw [aiw];omega) hn
      ·simp only [ahY g3,ais,aik]
       exact ⟨_,rfl,rfl⟩
  ·simp only [ahY g1,ais,aik]
   exact ⟨_,rfl,rfl⟩
theorem Et {k k':Nat} (hk:k ≤ k') {msg:ByteArray} {i:Int} {R:ByteArray × Int × Int} (h:aW.f k msg i = some R):aW.f k' msg i = some R:=uL (fun k=>aW.mono msg i k) hk h
def rounds (i:Int):Nat:=i.toNat + 300
theorem JD (k:Nat) (msg:ByteArray) (i:Int) (hm:msg.size ≤ 100000) (hk:rounds i ≤ k):∃ R,aW.f k msg i = some R ∧ dN.f k msg i = some R:=by
 unfold rounds at hk
 obtain ⟨R,h1,h2⟩:=JC (i.toNat + 256) k msg i i (-1) ⟨#[]⟩ (by rw [M7];omega) (by omega) hm (by decide) (.inl rfl)
 refine ⟨R,?_,h2⟩
 unfold aW.f
 rw [ahX (by omega)]
 exact h1
def pre (t:ByteArray):Prop:=∃ ls,t = zu ls ∧ ∀ x ∈ ls,F4 x
theorem pre_nil : pre ⟨#[]⟩:=⟨[],rfl,by simp⟩
theorem NC {t x:ByteArray} (h:pre t) (hx:F4 x):pre (t ++ (sg x.size ++ x)):=by
 obtain ⟨ls,rfl,hok⟩:=h
 refine ⟨ls ++ [x],?_,?_⟩
 ·rw [Em];simp only [zu];rw [append_empty]
 ·intro y hy
  rcases air.mp hy with hy | hy
  ·exact hok y hy
  ·rw [aiR] at hy;subst hy;exact hx
theorem JE {msg:ByteArray} {i:Int} (h:ig msg i (1 + bt msg i)) (h1:1 ≤ bt msg i) (h2:bt msg i ≤ 63):∃ x,F4 x ∧ msg.extract i.toNat (i + (1 + bt msg i)).toNat = sg x.size ++ x:=by
 obtain ⟨g0,g1,g2⟩:=h
 have hz:=size_ext g0 g1 g2
 refine ⟨msg.extract (i.toNat + 1) (i + (1 + bt msg i)).toNat,?_,?_⟩
 ·unfold F4;rw [aiF];omega
 ·have e:(msg.extract (i.toNat + 1) (i + (1 + bt msg i)).toNat).size = (bt msg i).toNat:=by rw [aiF];omega
  rw [e]
  have h3:msg.extract i.toNat (i.toNat + 1) = sg ((bt msg i).toNat:Nat):=by
   refine M6 (by rw [nT,aiF];omega) fun j j0 j1=>?_
   rw [aiF] at j1
   have:j = 0:=by omega
   subst this
   rw [nR (by omega) (by rw [aiF];omega),Nc _ (by omega)]
   rw [show ((i.toNat:Nat):Int) + 0 = i from by omega]
   omega
  rw [← h3,ByteArray.extract_append_extract]
  congr 1 <;> omega
theorem JF (k:Nat):∀ (msg:ByteArray) (a i l n:Int) (t:ByteArray) (R:ByteArray × Int × Int),0 ≤ a → pre t → t.size ≤ 254 → ((n = -1 ∧ a ≤ i) ∨ (a < n ∧ n ≤ (msg.size:Int))) → aW.l k msg i l n t = some R →
  (R.2.2 = 0 ∧ jL R.1 = true ∧ a < R.2.1 ∧ R.2.1 ≤ (msg.size:Int)) ∨ ((R.2.2 = 2 ∨ R.2.2 = 3) ∧ R.1 = ⟨#[]⟩ ∧ R.2.1 = 0):=by
 induction k with
 | zero=>intro msg a i l n t R _ _ _ _ h;simp [aW.l] at h
 | succ k ih =>
  intro msg a i l n t R ha hp ht hn h
  rw [aW.l] at h
  by_cases g1:jO msg i 1
  ·have hr:=gI msg i
   have hi0:=g1.1
   have hi1:=g1.2.2.2
   rw [ahX g1] at h
   by_cases c0:bt msg i = 0
   ·rw [ahX c0] at h
    cases h
    left
    refine ⟨rfl,?_,?_⟩
    ·obtain ⟨ls,rfl,hok⟩:=hp
     exact wC.mpr ⟨ls,rfl,hok,by rw [aiw];show _ + root.size ≤ 255;rw [lN];omega⟩
    ·rcases hn with ⟨rfl,hn⟩ | hn
     ·rw [ahX rfl];exact ⟨(by show a < i + 1;omega),(by show i + 1 ≤ (msg.size:Int);omega)⟩
     ·rw [ahY (by omega)];exact hn
   ·rw [ahY c0] at h
    by_cases c1:192 ≤ bt msg i
    ·rw [ahX c1] at h
     have hg:=Ih c1
     by_cases g2:jO msg i 2
     ·rw [ahX g2] at h
      have hi2:=g2.2.2.2
      by_cases c2:gP 2 msg i - 49152 ≥ l
      ·rw [ahX c2] at h
       cases h;right;exact ⟨.inr rfl,rfl,rfl⟩
      ·rw [ahY c2] at h
       rcases hn with ⟨rfl,hn⟩ | hn
       ·rw [ahX rfl] at h
        exact ih msg a _ _ _ t R ha hp ht (.inr ⟨by omega,by omega⟩) h
       ·rw [ahY (by omega)] at h
        exact ih msg a _ _ _ t R ha hp ht (.inr hn) h
     ·rw [ahY g2] at h
      cases h;right;exact ⟨.inl rfl,rfl,rfl⟩
    ·rw [ahY c1] at h
     by_cases c2:63 < bt msg i
     ·rw [ahX c2] at h
      cases h;right;exact ⟨.inr rfl,rfl,rfl⟩
     ·rw [ahY c2] at h
      by_cases g3:ig msg i (1 + bt msg i)
      ·rw [ahX g3] at h
       by_cases c3:(t.size:Int) + (1 + bt msg i) ≥ 255
       ·rw [ahX c3] at h
        cases h;right;exact ⟨.inr rfl,rfl,rfl⟩
       ·rw [ahY c3] at h
        have hz:=size_ext g3.1 g3.2.1 g3.2.2
        obtain ⟨x,hx,hxe⟩:=JE g3 (by omega) (by omega)
        refine ih msg a _ _ _ _ R ha ?_ (by rw [aiw];omega) ?_ h
        ·rw [hxe];exact NC hp hx
        ·rcases hn with ⟨rfl,hn⟩ | hn
         ·exact .inl ⟨rfl,by omega⟩
         ·exact .inr hn
      ·rw [ahY g3] at h
       cases h;right;exact ⟨.inl rfl,rfl,rfl⟩
  ·rw [ahY g1] at h
   cases h;right;exact ⟨.inl rfl,rfl,rfl⟩
theorem Wv {k:Nat} {msg:ByteArray} {i:Int} {R:ByteArray × Int × Int} (hm:msg.size ≤ 100000):aW.f k msg i = some R ↔ aW.l k msg i i (-1) ⟨#[]⟩ = some R:=by
 unfold aW.f;rw [ahX (by omega)]
theorem Gd {k:Nat} {msg:ByteArray} {i:Int} {R:ByteArray × Int × Int} (hm:msg.size ≤ 100000) (h:aW.f k msg i = some R) :
  (R.2.2 = 0 ∧ jL R.1 = true ∧ 0 ≤ i ∧ i < R.2.1 ∧ R.2.1 ≤ (msg.size:Int)) ∨ ((R.2.2 = 2 ∨ R.2.2 = 3) ∧ R.1 = ⟨#[]⟩ ∧ R.2.1 = 0):=by
 rw [Wv hm] at h
 by_cases h0:0 ≤ i
 ·rcases JF k msg i i i (-1) ⟨#[]⟩ R h0 pre_nil (by decide) (.inl ⟨rfl,aiU _⟩) h with ⟨h1,h2,h3,h4⟩ | h1
  ·exact .inl ⟨h1,h2,h0,h3,h4⟩
  ·exact .inr h1
 ·cases k with
  | zero=>simp [aW.l] at h
  | succ k =>
   rw [aW.l,ahY (fun g=>h0 g.1)] at h
   cases h;right;exact ⟨.inl rfl,rfl,rfl⟩
end
section
open Go.RowKit Go.Proofs.YtfokaoeinpnagaaGreatW.aX Go.Proofs.YtfokaoeinpnagaaGreatW.dQ Go.Proofs.YtfokaoeinpnagaaGreatW.eX Go.Proofs.YtfokaoeinpnagaaGreat.B
def plL : List ByteArray → Int → ByteArray → Int
 | [],_,_=>-1
 | x :: m,o,r=>if same (enc (x :: m)) r then o else plL m (o + 1 + x.size) r
def wrL (m:List ByteArray) (a:Int):List ByteArray → ByteArray → ByteArray
 | [],p=>p ++ root
 | x :: l,p=>if 0 ≤ plL m 0 (enc (x :: l)) then p ++ aft (49152 + a + plL m 0 (enc (x :: l))) 2 else wrL m a l (p ++ (sg x.size ++ x))
def wr (base:ByteArray) (a:Int) (n:ByteArray):ByteArray:=match vW base,vW n with
 | some m,some ls=>if 0 ≤ a ∧ a ≤ 16000 then wrL m a ls ⟨#[]⟩ else ⟨#[]⟩
 | _,_=>⟨#[]⟩
theorem Ap (a:ByteArray):(vV a).size = a.size:=by unfold vV;rw [strOfNums_size,ahZ,numsOf_length]
end
end Go.Proofs.YtfokaoeinpnagaaGreat.ZQ
namespace Go.Proofs.YtfokaoeinpnagaaGreat.Mi
open Go Go.Proofs.YtfokaoeinpnagaaGreatW.aX
def ents : Nat → List (Int × Value) → List MapEntry
 | _,[]=>[]
 | i,(k,v) :: l=>{ key:=.int .i64 k,val:=v,born:=i } :: ents (i + 1) l
def rO (k:Int):List (Int × Value) → Option Value
 | []=>none
 | (k',v) :: l=>if k = k' then some v else rO k l
theorem nV (k:Int):∀ (l:List (Int × Value)) (i j:Nat),∃ r,Instr.findNow (.int .i64) (.int .i64 k) (ents i l) j = some r ∧ r.map (·.2) = rO k l
 | [],i,j=>⟨none,rfl,rfl⟩
 | (k',v) :: l,i,j=>by
  obtain ⟨r,h1,h2⟩:=nV k l (i + 1) (j + 1)
  unfold ents rO Instr.findNow
  by_cases h:k = k'
  ·subst h
   exact ⟨some (j,v),by simp [Instr.sameNow],by simp⟩
  ·have hb:(k == k') = false:=by simpa using h
   exact ⟨r,by simp [Instr.sameNow,hb,h1],by simp [h,h2]⟩
theorem Aq (k:Int) (v:Value):∀ (l:List (Int × Value)) (i:Nat),ents i (l ++ [(k,v)]) = ents i l ++ [{ key:=.int .i64 k,val:=v,born:=i + l.length }]
 | [],i=>rfl
 | (k',v') :: l,i=>by
  simp only [List.cons_append,ents,Aq k v l (i + 1),List.length_cons]
  rw [show i + 1 + l.length = i + (l.length + 1) from by omega]
def At (w:World) (b:Nat) (l:List (Int × Value)):Prop:=w.heap[b]? = some (.map (ents 0 l).toArray l.length)
variable {P : Program}
theorem Gf {w:World} {b:Nat} {l:List (Int × Value)} (h:At w b l) (t kt et:TypeId) (hm:P.underlying t = some (.map kt et)) (hk:P.underlying kt = some (.int .i64)) (k:Int) (v:Value) (hn:rO k l = none) :
  ∃ w',(Instr.mapUpdate t (.map (some b)) (.int .i64 k) v).run P w = .ok () w' ∧ At w' b (l ++ [(k,v)]) ∧ w.grownBy w' (some b):=by
 obtain ⟨r,h1,h2⟩:=nV k l 0 0
 rw [hn] at h2
 obtain rfl:r = none:=by cases r with | none=>rfl | some x=>cases h2
 have hc:(Instr.checkKey false 10000 kt (.int .i64 k)).run P w = .ok () w:=MapKept.run_checkKey (k:=.int .i64 k) hk (by simp [MapKept.IsKey]) false 9999
 refine ⟨{ w with heap:=w.heap.setIfInBounds b (.map (ents 0 (l ++ [(k,v)])).toArray (l ++ [(k,v)]).length) },?_,(MapKept.heap_set h).1,⟨rfl,rfl,rfl,by simp,fun i _ hi=>(MapKept.heap_set h).2 i (fun e=>hi (by rw [e]))⟩⟩
 unfold At at h
 simp [Instr.mapUpdate,run_underlying hm,MapKept.run_getObj_map h,hc,MapKept.run_findKey hk h1,MapKept.run_setObj_map _ h,Result.andThen]
 rw [Aq]
 simp
theorem look {w:World} {b:Nat} {l:List (Int × Value)} (h:At w b l) (t kt et:TypeId) (hm:P.underlying t = some (.map kt et)) (hk:P.underlying kt = some (.int .i64)) (z:Value) (hz:(zeroValue et).run P w = .ok z w) (k:Int) :
  (Instr.lookup t (.map (some b)) (.int .i64 k) true).run P w = .ok (.tuple #[(rO k l).getD z,.bool (rO k l).isSome]) w:=by
 obtain ⟨r,h1,h2⟩:=nV k l 0 0
 unfold At at h
 have hc:∀ e,(Instr.checkKey e 10000 kt (.int .i64 k)).run P w = .ok () w:=fun e=>MapKept.run_checkKey (k:=.int .i64 k) hk (by simp [MapKept.IsKey]) e 9999
 rw [← h2]
 cases r with
 | none=>simp [Instr.lookup,run_underlying hm,MapKept.run_getObj_map h,hc,MapKept.run_findKey hk h1,Result.andThen,hz]
 | some x=>obtain ⟨i,v⟩:=x;simp [Instr.lookup,run_underlying hm,MapKept.run_getObj_map h,hc,MapKept.run_findKey hk h1,Result.andThen]
theorem JG (w:World) {ops:Array Oper} {rest:List Oper} {o:Oper} {a:Act} {Q:Exit → Act → World → Prop}
  (hg:o.guard = none) (m x v:Operand) (t:TypeId) (hop:o.op = Op.insert t m x v)
  (kt et:TypeId) (ht:P.underlying t = some (.map kt et)) (hk:P.underlying kt = some (.int .i64)) (b:Nat) (l:List (Int × Value)) (hm:a.eval m = .map (some b)) (hat:At w b l) (k:Int) (val:Value) (hx:a.eval x = .int .i64 k) (hv:a.eval v = val) (hn:rO k l = none)
  (hK:∀ w',At w' b (l ++ [(k,val)]) → w.grownBy w' (some b) → wpList P ops Q rest (a.put o.dst undef) w') :
  wpList P ops Q (o :: rest) a w:=by
 refine wpList_plain hg fun K' hK'=>?_
 obtain ⟨w',hrun,r1,r2⟩:=Gf hat t kt et ht hk k val hn
 unfold Oper.wp
 simp [execOp,hop,hm,hx,hv,hrun,Result.andThen]
 exact hK' _ _ (hK w' r1 r2)
theorem Q7 (w:World):At (w.alloc (.map #[] 0)) w.heap.size []:=by
 unfold At ents
 exact heap_alloc_new w _
structure In (B0:Nat) (w0 w:World) (b:Nat) (l:List (Int × Value)):Prop where
 at_:At w b l
 ge:B0 ≤ b
 ND:RowKit.Below B0 w0 w
theorem In.made {w:World}:In w.heap.size w (w.alloc (.map #[] 0)) w.heap.size []:=⟨Q7 w,ah1 _,(RowKit.Below.refl _ _).alloc (ah1 _) _⟩
theorem In.grown {B0 b:Nat} {w0 w w':World} {l l':List (Int × Value)} (h:In B0 w0 w b l) (h':At w' b l') (hg:w.grownBy w' (some b)):In B0 w0 w' b l':=by
 refine ⟨h',h.ge,h.ND.grown hg ?_ (fun k e=>by cases e;exact h.ge)⟩
 have:=(ai5.1 h.at_).1
 have:=h.ge
 omega
theorem Eu {w:World} {ops:Array Oper} {rest:List Oper} {o:Oper} {a:Act} {Q:Exit → Act → World → Prop} (t:TypeId) (m x v:Operand) (hop:o.op = Op.insert t m x v) (h:wpList P ops Q (o :: rest) a w):wpList P ops Q (o :: rest) a w:=h
theorem aaS (w:World) {ops:Array Oper} {rest:List Oper} {o:Oper} {a:Act} {Q:Exit → Act → World → Prop}
  (hg:o.guard = none) (m x v:Operand) (t:TypeId) (hop:o.op = Op.insert t m x v)
  (kt et:TypeId) (ht:P.underlying t = some (.map kt et)) (hk:P.underlying kt = some (.int .i64)) (b:Nat) (l:List (Int × Value)) (hm:a.eval m = .map (some b)) {B0:Nat} {w0:World} (hin:In B0 w0 w b l) (k:Int) (val:Value) (hx:a.eval x = .int .i64 k) (hv:a.eval v = val) (hn:rO k l = none)
  (hK:∀ w',ah (In B0 w0 w' b (l ++ [(k,val)])) → wpList P ops Q rest (a.put o.dst undef) w') :
  wpList P ops Q (o :: rest) a w :=
 JG w hg m x v t hop kt et ht hk b l hm hin.at_ k val hx hv hn fun w' h1 h2=>hK w' ⟨hin.grown h1 h2⟩
end Go.Proofs.YtfokaoeinpnagaaGreat.Mi
namespace Go.Proofs.YtfokaoeinpnagaaGreat.ZQ
section
open Go.RowKit Go.Proofs.YtfokaoeinpnagaaGreatW.aX Go.Proofs.YtfokaoeinpnagaaGreatW.dQ Go.Proofs.YtfokaoeinpnagaaGreatW.eX
attribute [local go_sem] jX jY lC lD jl jm jZ j3
def bR.agg (a b c:Int):Value:=.agg #[.int .i64 a,.int .i64 b,.int .i64 c]
def bR.tab : List (Int × Value):=[(1,bR.agg 4 0 0),(28,bR.agg 16 0 0),(2,bR.agg 0 1 0),(5,bR.agg 0 1 0),(12,bR.agg 0 1 0),(6,bR.agg 0 2 20),(15,bR.agg 2 1 0),(33,bR.agg 6 1 0)]
theorem bR.calls (w:World):Calls Tryz.prog 129 #[] w fun e w'=>∃ g,e = .returned (.map (some g)) ∧ Mi.In w.heap.size w w' g bR.tab:=by
 have hmm:=@run_makeMap Tryz.prog
 have hi:=ah.mk (Mi.In.made (w:=w))
 generalize hg:w.heap.size = g at hi
 have hg':=ah.mk hg
 go_enter Tryz.func129,Tryz.ntmps129
 go_wp2_with (first | (refine Mi.Eu 207 _ _ _ rfl ?_;refine Mi.aaS _ rfl _ _ _ 207 rfl 3 205 Tryz.underlying207 Tryz.underlying3 _ _ rfl (ah.out (by assumption)) _ _ rfl rfl rfl ?_;clear hi;intro w1 hi))
 go_ret
 exact ⟨g,rfl,hi.out⟩
def bN.l0 : Nat → ByteArray → Int → Int → Int → Int → Int → Int → Int → ByteArray → ByteArray → List ByteArray → Option (ByteArray × ByteArray × List ByteArray × Bool)
 | 0,_,_,_,_,_,_,_,_,_,_,_=>none
 | k + 1,x0,x1,x2,x37,x38,Q8,Q9,Ii,Ij,Rf,Ct=>if x38 < x37 then ((aW.f k x0 x1).bind fun Ik=>(if Ik.2.2 = 0 then (if Ik.2.1 > x2 then (some ((⟨#[]⟩:ByteArray),(⟨#[]⟩:ByteArray),([]:List ByteArray),false)) else (if Ct.length < 8796093022208 then (bN.l0 k x0 Ik.2.1 x2 x37 (wrap64 (x38 + 1)) Q8 Q9 Ii Ij Rf (Ct ++ [Ik.1])) else (none))) else (some ((⟨#[]⟩:ByteArray),(⟨#[]⟩:ByteArray),([]:List ByteArray),false)))) else (if 0 ≤ x1 then (if x1 ≤ x2 then (if x2 ≤ (x0.size:Int) then (some (Ij,x0.extract (x1:Int).toNat (x2:Int).toNat,Ct,(((x0.extract (x1:Int).toNat (x2:Int).toNat).size:Int) == Ii))) else (none)) else (none)) else (none))
def bN.f (k:Nat) (a0:ByteArray) (a1:Int) (a2:Int) (eu:Int) (iH:Int) (jK:Int):Option (ByteArray × ByteArray × List ByteArray × Bool):=if (eu ≤ (wrap64 (a2 - a1))) then (if 0 ≤ a1 then (if a1 ≤ (wrap64 (a1 + eu)) then (if (wrap64 (a1 + eu)) ≤ (a0.size:Int) then (bN.l0 k a0 (wrap64 (a1 + eu)) a2 iH 0 eu iH jK (a0.extract (a1:Int).toNat ((wrap64 (a1 + eu)):Int).toNat) (⟨#[]⟩:ByteArray) ([]:List ByteArray)) else (none)) else (none)) else (none)) else (some ((⟨#[]⟩:ByteArray),(⟨#[]⟩:ByteArray),([]:List ByteArray),false))
def bN.T15 : Bool × List (List Nat × List Nat):=(true,[([],[]),([],[]),([1],[1]),([2],[2]),([],[]),([4],[4]),([3,5],[3,5]),([0,0],[0]),([6,7,0,1,2,3,4,5,6,7],[6])])
def bN.B15 : List Nat:=[0,0,2,6,0,16,62,1,255]
theorem bN.aaT : mG .any (opsOf Tryz.f130 15) = bN.T15:=by kernel_rfl
theorem bN.Ww : ql bN.T15.2 bN.B15 = true:=by kernel_rfl
theorem bN.calls (k:Nat) (a0:ByteArray) (a1:Int) (a2:Int) (eu:Int) (iH:Int) (jK:Int) (r1:ByteArray) (r2:ByteArray) (r3:List ByteArray) (r4:Bool) (w:World) (h:bN.f k a0 a1 a2 eu iH jK = some (r1,r2,r3,r4)) :
  Calls Tryz.prog 130 #[.string a0,.int .i64 a1,.int .i64 a2,.agg #[.int .i64 eu,.int .i64 iH,.int .i64 jK]] w fun e w'=>∃ v2_:Value,e = .returned (.tuple #[.agg #[.string r1,.string r2,v2_],.bool r4]) ∧ Kd.R Kd.string 9 w' w.heap.size (fun _=>True) v2_ r3 ∧ Below w.heap.size w w':=by
 have ag2:=Tryz.underlying205
 have aaU:=Tryz.underlying191
 have HB:=ah.mk (Below.refl w.heap.size w)
 have H:(if (eu ≤ (wrap64 (a2 - a1))) then (if 0 ≤ a1 then (if a1 ≤ (wrap64 (a1 + eu)) then (if (wrap64 (a1 + eu)) ≤ (a0.size:Int) then (bN.l0 k a0 (wrap64 (a1 + eu)) a2 iH 0 eu iH jK (a0.extract (a1:Int).toNat ((wrap64 (a1 + eu)):Int).toNat) (⟨#[]⟩:ByteArray) ([]:List ByteArray)) else (none)) else (none)) else (none)) else (some ((⟨#[]⟩:ByteArray),(⟨#[]⟩:ByteArray),([]:List ByteArray),false))) = some (r1,r2,r3,r4):=h
 clear h
 by_cases c5:(eu ≤ (wrap64 (a2 - a1)))
 ·rw [ahX c5] at H
  have Rh:decide (eu ≤ (wrap64 (a2 - a1))) = true:=ah0 c5
  (try (have Ri:decide (eu ≤ ((a2 - a1))) = true:=by have h_:decide (eu ≤ (wrap64 (a2 - a1))) = true:=ah0 c5;rw [B.lF (by omega) (by omega)] at h_;exact h_))
  clear c5
  by_cases c6:0 ≤ a1
  ·rw [ahX c6] at H
   have Jw:=ah9 c6
   have Jy:decide (0 ≤ a1) = true:=ah0 c6
   clear c6
   by_cases c7:a1 ≤ (wrap64 (a1 + eu))
   ·rw [ahX c7] at H
    have afy:=ah9 c7
    have afz:decide (a1 ≤ (wrap64 (a1 + eu))) = true:=ah0 c7
    by_cases c8:(wrap64 (a1 + eu)) ≤ (a0.size:Int)
    ·rw [ahX c8] at H
     have Q0:=ah9 c8
     have Q5:decide ((wrap64 (a1 + eu)) ≤ (a0.size:Int)) = true:=ah0 c8
     have H':=ah.mk H
     clear H
     go_enter Tryz.func130,Tryz.ntmps130
     go_wp2_with (first | ((with_reducible refine l7 (N:=7) rfl ?_);refine kI ?hg (N:=7) ?hd (cs:=#[.int .i64 eu,.int .i64 iH,.int .i64 jK]) (t:=205) ?hr ?_;(case hd=>rfl);(case hg=>rfl);(case hr=>first | (go_simp;done) | (go_simp;rfl));intro fF hg w9 nD hb;have iR:=ah.mk (dJ (by repeat first | exact HB.out | apply av | apply aj | apply aA) hb);have kU:=ah.mk (nD);have nW:=ah.mk ((by rw [hg];exact (dZ (by repeat first | exact HB.out | apply av | apply aj | apply aA)):w.heap.size ≤ fF));have nY:=ah.mk ((by rw [hg];exact (dZ (by repeat first | exact HB.out | apply av | apply aj | apply aA)):w.heap.size ≤ fF));clear HB;have HB:=iR;have dA:=kU;have aaV:=nW;have iM:=nY;clear iR kU nW nY;clear hb nD hg) | ((with_reducible refine l7 (N:=8) rfl ?_);refine kI ?hg (N:=8) ?hd (cs:=#[.string (⟨#[]⟩:ByteArray),.string (⟨#[]⟩:ByteArray),.slice none 0 0]) (t:=191) ?hr ?_;(case hd=>rfl);(case hg=>rfl);(case hr=>first | (go_simp;done) | (go_simp;rfl));intro dz hg w10 nD hb;have iR:=ah.mk (dP (g:=fF) (o:=.cells #[.int .i64 eu,.int .i64 iH,.int .i64 jK] 205 (0,0)) (by (with_reducible repeat (first | refine aK ?_ _ | refine aQ ?_ | refine aI ?_ _));exact dA.out) hb);have kU:=ah.mk (dJ (by repeat (first | (with_reducible first | exact HB.out | apply av | apply aj | apply aA | refine aT ?_ iM.out) | exact HB.out)) hb);have nW:=ah.mk (nD);have nY:=ah.mk ((by rw [hg];exact (dZ (by repeat (first | (with_reducible first | exact HB.out | apply av | apply aj | apply aA | refine aT ?_ iM.out) | exact HB.out))):w.heap.size ≤ dz));have qE:=ah.mk ((by rw [hg];exact (dZ (by repeat (first | (with_reducible first | exact HB.out | apply av | apply aj | apply aA | refine aT ?_ iM.out) | exact HB.out))):w.heap.size ≤ dz));have NG:=ah.mk ((by rw [hg];exact Nat.ne_of_lt (jw (g:=fF) (o:=.cells #[.int .i64 eu,.int .i64 iH,.int .i64 jK] 205 (0,0)) (by (with_reducible repeat (first | refine aK ?_ _ | refine aQ ?_ | refine aI ?_ _));exact dA.out)):fF ≠ dz));have NH:=ah.mk ((by rw [hg];exact Nat.ne_of_gt (jw (g:=fF) (o:=.cells #[.int .i64 eu,.int .i64 iH,.int .i64 jK] 205 (0,0)) (by (with_reducible repeat (first | refine aK ?_ _ | refine aQ ?_ | refine aI ?_ _));exact dA.out)):dz ≠ fF));clear dA;clear HB;have dA:=iR;have HB:=kU;have dx:=nW;have aaW:=nY;have j4:=qE;have fu:=NG;have jP:=NH;clear iR kU nW nY qE NG NH;clear hb nD hg) | ((with_reducible refine l7 (N:=10) rfl ?_);refine kI ?hg (N:=10) ?hd (cs:=#[.string (⟨#[]⟩:ByteArray),.string (⟨#[]⟩:ByteArray),.slice none 0 0]) (t:=191) ?hr ?_;(case hd=>rfl);(case hg=>rfl);(case hr=>first | (go_simp;done) | (go_simp;rfl));intro fq hg Wq nD hb;have iR:=ah.mk (dP (g:=fF) (o:=.cells #[.int .i64 eu,.int .i64 iH,.int .i64 jK] 205 (0,0)) (by (with_reducible repeat (first | refine aK ?_ _ | refine aQ ?_ | refine aI ?_ _));exact dA.out) hb);have kU:=ah.mk (dP (g:=dz) (o:=.cells #[.string (⟨#[]⟩:ByteArray),.string (⟨#[]⟩:ByteArray),.slice none 0 0] 191 (0,0)) (by (with_reducible repeat (first | refine aK ?_ _ | refine aQ ?_ | refine aI ?_ _));exact dx.out) hb);have nW:=ah.mk (dJ (by repeat (first | (with_reducible first | exact HB.out | apply av | apply aj | apply aA | refine aT ?_ iM.out | refine aT ?_ j4.out) | exact HB.out)) hb);have nY:=ah.mk (nD);have qE:=ah.mk ((by rw [hg];exact (dZ (by repeat (first | (with_reducible first | exact HB.out | apply av | apply aj | apply aA | refine aT ?_ iM.out | refine aT ?_ j4.out) | exact HB.out))):w.heap.size ≤ fq));have NG:=ah.mk ((by rw [hg];exact (dZ (by repeat (first | (with_reducible first | exact HB.out | apply av | apply aj | apply aA | refine aT ?_ iM.out | refine aT ?_ j4.out) | exact HB.out))):w.heap.size ≤ fq));have NH:=ah.mk ((by rw [hg];exact Nat.ne_of_lt (jw (g:=fF) (o:=.cells #[.int .i64 eu,.int .i64 iH,.int .i64 jK] 205 (0,0)) (by (with_reducible repeat (first | refine aK ?_ _ | refine aQ ?_ | refine aI ?_ _));exact dA.out)):fF ≠ fq));have n7_:=ah.mk ((by rw [hg];exact Nat.ne_of_gt (jw (g:=fF) (o:=.cells #[.int .i64 eu,.int .i64 iH,.int .i64 jK] 205 (0,0)) (by (with_reducible repeat (first | refine aK ?_ _ | refine aQ ?_ | refine aI ?_ _));exact dA.out)):fq ≠ fF));have n8_:=ah.mk ((by rw [hg];exact Nat.ne_of_lt (jw (g:=dz) (o:=.cells #[.string (⟨#[]⟩:ByteArray),.string (⟨#[]⟩:ByteArray),.slice none 0 0] 191 (0,0)) (by (with_reducible repeat (first | refine aK ?_ _ | refine aQ ?_ | refine aI ?_ _));exact dx.out)):dz ≠ fq));have n9_:=ah.mk ((by rw [hg];exact Nat.ne_of_gt (jw (g:=dz) (o:=.cells #[.string (⟨#[]⟩:ByteArray),.string (⟨#[]⟩:ByteArray),.slice none 0 0] 191 (0,0)) (by (with_reducible repeat (first | refine aK ?_ _ | refine aQ ?_ | refine aI ?_ _));exact dx.out)):fq ≠ dz));clear dA;clear dx;clear HB;have dA:=iR;have dx:=kU;have HB:=nW;have dO:=nY;have aaX:=qE;have nE:=NG;have jQ:=NH;have nG:=n7_;have gG:=n8_;have eG:=n9_;clear iR kU nW nY qE NG NH n7_ n8_ n9_;clear hb nD hg;have ag3:=fu.out;have ag4:=jP.out;have ag5:=jQ.out;have ag6:=nG.out;have Rj:Wq.cell? ⟨fF,0,none⟩ = some (.int .i64 eu):=(bJ dA.out 0).trans rfl;have Rk:Wq.cell? ⟨fF,1,none⟩ = some (.int .i64 iH):=(bJ dA.out 1).trans rfl;have Rl:Wq.cell? ⟨fF,2,none⟩ = some (.int .i64 jK):=(bJ dA.out 2).trans rfl;have Rm:=bE dA.out 0;have Ro:=bE dA.out 1;have Rp:=bE dA.out 2;have ag7:=eG.out;have ag8:=gG.out;have Rq:Wq.cell? ⟨fq,0,none⟩ = some (.string (⟨#[]⟩:ByteArray)):=(bJ dO.out 0).trans rfl;have Rt:Wq.cell? ⟨fq,1,none⟩ = some (.string (⟨#[]⟩:ByteArray)):=(bJ dO.out 1).trans rfl;have Ru:Wq.cell? ⟨fq,2,none⟩ = some (.slice none 0 0):=(bJ dO.out 2).trans rfl;have Rv:=bE dO.out 0;have Rw:=bE dO.out 1;have Rx:=bE dO.out 2))
     go_loopg [1,38] k (fun kq v1 v38 w'=>∃ (kV:Int) (tO:Int) (fU:ByteArray) (fA:ByteArray) (gQ:List ByteArray) (iI:Value),v1 = .int .i64 kV ∧ v38 = .int .i64 tO ∧ ah (bN.l0 kq a0 kV a2 iH tO eu iH jK (a0.extract (a1:Int).toNat ((wrap64 (a1 + eu)):Int).toNat) (⟨#[]⟩:ByteArray) gQ = some (r1,r2,r3,r4)) ∧ ah (kq ≤ k) ∧ ah (Kd.R Kd.string 9 w' w.heap.size (fun _=>True) iI gQ) ∧ ah (w'.heap[fF]? = some (.cells #[.int .i64 eu,.int .i64 iH,.int .i64 jK] 205 (0,0))) ∧ ah (w'.heap[dz]? = some (.cells #[.string fU,.string fA,(.slice none 0 0)] 191 (0,0))) ∧ ah (w'.heap[fq]? = some (.cells #[.string (a0.extract (a1:Int).toNat ((wrap64 (a1 + eu)):Int).toNat),.string (⟨#[]⟩:ByteArray),iI] 191 (0,0))) ∧ ah (Below w.heap.size w w'))
     case atStart=>exact ⟨(wrap64 (a1 + eu)),(0),((⟨#[]⟩:ByteArray)),((⟨#[]⟩:ByteArray)),(([]:List ByteArray)),(.slice none 0 0),(by first | rfl | (simp;done) | (simp [*];done) | (simp [B.eT];done) | (simp [B.eU];done)),(by first | rfl | (simp;done) | (simp [*];done) | (simp [B.eT];done) | (simp [B.eU];done)),H',⟨ah1 _⟩,⟨by first | exact Kd.mO _ _ _ _ _ | exact Kd.tF _ _ _ _ _ | exact Kd.tH _ _ _ _ _ | exact Kd.sZ _ _ _ _ _ | exact Kd.tC _ _ _ _ _⟩,⟨by (with_reducible repeat (first | refine aK ?_ _ | refine aQ ?_ | refine aI ?_ _));refine nP ?_ jQ.out _;(with_reducible repeat (first | refine aK ?_ _ | refine aQ ?_ | refine aI ?_ _));exact dA.out⟩,⟨by (with_reducible repeat (first | refine aK ?_ _ | refine aQ ?_ | refine aI ?_ _));refine nP ?_ gG.out _;(with_reducible repeat (first | refine aK ?_ _ | refine aQ ?_ | refine aI ?_ _));exact dx.out⟩,⟨by (with_reducible repeat (first | refine aK ?_ _ | refine aQ ?_ | refine aI ?_ _));refine gK (cs:=#[.string (⟨#[]⟩:ByteArray),.string (⟨#[]⟩:ByteArray),.slice none 0 0]) ?_ 0 _ rfl;(with_reducible repeat (first | refine aK ?_ _ | refine aQ ?_ | refine aI ?_ _));exact dO.out⟩,⟨by repeat (first | (with_reducible first | exact HB.out | apply av | apply aj | apply aA | refine aT ?_ iM.out | refine aT ?_ j4.out | refine aT ?_ nE.out) | exact HB.out)⟩⟩
     case round =>
      clear H'
      try clear c1
      try clear p2
      try clear c5
      try clear Rh
      try clear Ri
      try clear c6
      try clear Jw
      try clear Jy
      try clear p6
      try clear c7
      try clear afy
      try clear afz
      try clear c8
      try clear Q0
      try clear Q5
      try clear c12
      try clear c13
      try clear c15
      try clear Rj
      try clear Rk
      try clear Rl
      try clear Rq
      try clear Rt
      try clear Ru
      try clear Rm
      try clear Ro
      try clear Rp
      try clear Rv
      try clear Rw
      try clear Rx
      obtain ⟨kV,tO,fU,fA,gQ,iI,rfl,rfl,HA,Oy,dK,dA,dx,dO,HB⟩:=hrel
      cases gk with
      | zero=>exact absurd HA.out (by simp [bN.l0])
      | succ k1 =>
       have H:=HA.out
       clear HA
       simp only [bN.l0] at H
       by_cases c17:tO < iH
       ·rw [ahX c17] at H
        have aaY:decide (tO < iH) = true:=ah0 c17
        clear c17
        replace H:=zbm H
        obtain ⟨⟨Gg,zA,t127⟩,aaZ,H⟩:=H
        replace H:(if t127 = 0 then (if zA > a2 then (some ((⟨#[]⟩:ByteArray),(⟨#[]⟩:ByteArray),([]:List ByteArray),false)) else (if gQ.length < 8796093022208 then (bN.l0 k1 a0 zA a2 iH (wrap64 (tO + 1)) eu iH jK (a0.extract (a1:Int).toNat ((wrap64 (a1 + eu)):Int).toNat) (⟨#[]⟩:ByteArray) (gQ ++ [Gg])) else (none))) else (some ((⟨#[]⟩:ByteArray),(⟨#[]⟩:ByteArray),([]:List ByteArray),false))) = some (r1,r2,r3,r4):=H
        have A18:=ah.mk aaZ
        clear aaZ
        by_cases c19:t127 = 0
        ·rw [ahX c19] at H
         have aa0:(t127 == 0) = true:=aiH.mpr c19
         have aa1:(t127 != 0) = false:=ajR.mpr c19
         clear c19
         by_cases c20:zA > a2
         ·rw [ahX c20] at H
          have aa2:decide (a2 < zA) = true:=ah0 c20
          clear c20
          simp only [aie,ain] at H
          obtain ⟨rfl,rfl,rfl,rfl⟩:=H
          go_wp2_with (first | ((with_reducible refine eP (f:=146) rfl ?_);refine jW (some 43) rfl rfl Tryz.func146 (by kernel_rfl) rfl #[.string a0,.int .i64 kV] rfl (by (try simp only [aiW,ah8,ail]) <;> rfl) ?_;(with_reducible refine (aW.calls k1 a0 kV Gg zA t127 _ A18.out).mono ?_);rintro e w21 ⟨rfl,hb⟩;refine ⟨_,rfl,?_⟩;have iR:=ah.mk (Kd.lu (by (with_reducible repeat (first | apply Kd.gU | apply Kd.iW | apply Kd.iQ));exact dK.out) hb);have kU:=ah.mk (dP (g:=fF) (o:=.cells #[.int .i64 eu,.int .i64 iH,.int .i64 jK] 205 (0,0)) (by (with_reducible repeat (first | refine aK ?_ _ | refine aQ ?_ | refine aI ?_ _));exact dA.out) hb);have nW:=ah.mk (dP (g:=dz) (o:=.cells #[.string fU,.string fA,.slice none 0 0] 191 (0,0)) (by (with_reducible repeat (first | refine aK ?_ _ | refine aQ ?_ | refine aI ?_ _));exact dx.out) hb);have nY:=ah.mk (dP (g:=fq) (o:=.cells #[.string (a0.extract (a1:Int).toNat ((wrap64 (a1 + eu)):Int).toNat),.string (⟨#[]⟩:ByteArray),iI] 191 (0,0)) (by (with_reducible repeat (first | refine aK ?_ _ | refine aQ ?_ | refine aI ?_ _));exact dO.out) hb);have qE:=ah.mk (dJ (by repeat (first | (with_reducible first | exact HB.out | apply av | apply aj | apply aA | refine aT ?_ iM.out | refine aT ?_ j4.out | refine aT ?_ nE.out) | exact HB.out)) hb);clear dK;clear dA;clear dx;clear dO;clear HB;have dK:=iR;have dA:=kU;have dx:=nW;have dO:=nY;have HB:=qE;clear iR kU nW nY qE;(try clear hb);(try clear hb2);(try clear hk);(try clear hi);have ag9:=jP.out;have aha:=fu.out;have ahb:=gG.out;have ahc:=eG.out;have acP:w21.cell? ⟨dz,0,none⟩ = some (.string fU):=(bJ dx.out 0).trans rfl;have acQ:w21.cell? ⟨dz,1,none⟩ = some (.string fA):=(bJ dx.out 1).trans rfl;have acR:w21.cell? ⟨dz,2,none⟩ = some (.slice none 0 0):=(bJ dx.out 2).trans rfl;have acS:=bE dx.out 0;have acT:=bE dx.out 1;have acU:=bE dx.out 2))
          refine bodyPost_ret (jJ rfl _ _ dz 191 #[.string (⟨#[]⟩:ByteArray),.string (⟨#[]⟩:ByteArray),.slice none 0 0] (0,0) _ rfl (by (with_reducible repeat (first | refine aK ?_ _ | refine aQ ?_ | refine aI ?_ _));refine gK (cs:=#[.string (⟨#[]⟩:ByteArray),.string (⟨#[]⟩:ByteArray),.slice none 0 0]) ?_ 2 _ rfl;(with_reducible repeat (first | refine aK ?_ _ | refine aQ ?_ | refine aI ?_ _));refine gK (cs:=#[.string (⟨#[]⟩:ByteArray),.string fA,.slice none 0 0]) ?_ 1 _ rfl;(with_reducible repeat (first | refine aK ?_ _ | refine aQ ?_ | refine aI ?_ _));refine gK (cs:=#[.string fU,.string fA,.slice none 0 0]) ?_ 0 _ rfl;(with_reducible repeat (first | refine aK ?_ _ | refine aQ ?_ | refine aI ?_ _));exact dx.out) Tryz.underlying191 rfl (by kernel_rfl)) rfl ?_
          exact ⟨_,by first | rfl | (simp [bG,bH] <;> rfl) | (simp [*,bG,bH] <;> rfl),by first | exact Kd.mO _ _ _ _ _ | exact Kd.tF _ _ _ _ _ | exact Kd.tH _ _ _ _ _ | exact Kd.sZ _ _ _ _ _ | exact Kd.tC _ _ _ _ _,by repeat (first | (with_reducible first | exact HB.out | apply av | apply aj | apply aA | refine aT ?_ iM.out | refine aT ?_ j4.out | refine aT ?_ nE.out) | exact HB.out)⟩
         ·rw [ahY c20] at H
          have aa2:decide (a2 < zA) = false:=ah2 c20
          clear c20
          by_cases Mt:gQ.length < 8796093022208
          ·rw [ahX Mt] at H
           have aa3:=ah.mk Mt
           clear Mt
           obtain ⟨Rz,hy128⟩:∃ y_:List ByteArray,y_ = (gQ ++ [Gg]):=⟨_,rfl⟩
           replace H:(bN.l0 k1 a0 zA a2 iH (wrap64 (tO + 1)) eu iH jK (a0.extract (a1:Int).toNat ((wrap64 (a1 + eu)):Int).toNat) (⟨#[]⟩:ByteArray) Rz) = some (r1,r2,r3,r4):=by first | (rw [hy128];with_reducible exact H) | (have Wp:=(Option.bind_some _ _).symm.trans H;rw [hy128];with_reducible exact Wp) | (have Wp:=(Option.bind_some _ _).symm.trans H;with_reducible exact Wp) | with_reducible exact H | (rw [hy128];exact H) | exact H
           have aa4:=ah.mk hy128
           clear hy128
           have H':=ah.mk H
           clear H
           go_wp2_with (first | ((with_reducible refine eP (f:=146) rfl ?_);refine jW (some 43) rfl rfl Tryz.func146 (by kernel_rfl) rfl #[.string a0,.int .i64 kV] rfl (by (try simp only [aiW,ah8,ail]) <;> rfl) ?_;(with_reducible refine (aW.calls k1 a0 kV Gg zA t127 _ A18.out).mono ?_);rintro e w26 ⟨rfl,hb⟩;refine ⟨_,rfl,?_⟩;have iR:=ah.mk (Kd.lu (by (with_reducible repeat (first | apply Kd.gU | apply Kd.iW | apply Kd.iQ));exact dK.out) hb);have kU:=ah.mk (dP (g:=fF) (o:=.cells #[.int .i64 eu,.int .i64 iH,.int .i64 jK] 205 (0,0)) (by (with_reducible repeat (first | refine aK ?_ _ | refine aQ ?_ | refine aI ?_ _));exact dA.out) hb);have nW:=ah.mk (dP (g:=dz) (o:=.cells #[.string fU,.string fA,.slice none 0 0] 191 (0,0)) (by (with_reducible repeat (first | refine aK ?_ _ | refine aQ ?_ | refine aI ?_ _));exact dx.out) hb);have nY:=ah.mk (dP (g:=fq) (o:=.cells #[.string (a0.extract (a1:Int).toNat ((wrap64 (a1 + eu)):Int).toNat),.string (⟨#[]⟩:ByteArray),iI] 191 (0,0)) (by (with_reducible repeat (first | refine aK ?_ _ | refine aQ ?_ | refine aI ?_ _));exact dO.out) hb);have qE:=ah.mk (dJ (by repeat (first | (with_reducible first | exact HB.out | apply av | apply aj | apply aA | refine aT ?_ iM.out | refine aT ?_ j4.out | refine aT ?_ nE.out) | exact HB.out)) hb);clear dK;clear dA;clear dx;clear dO;clear HB;have dK:=iR;have dA:=kU;have dx:=nW;have dO:=nY;have HB:=qE;clear iR kU nW nY qE;(try clear hb);(try clear hb2);(try clear hk);(try clear hi);have ahd:=nG.out;have ahe:=jQ.out;have ahf:=eG.out;have ahg:=gG.out;have acV:w26.cell? ⟨fq,0,none⟩ = some (.string (a0.extract (a1:Int).toNat ((wrap64 (a1 + eu)):Int).toNat)):=(bJ dO.out 0).trans rfl;have acW:w26.cell? ⟨fq,1,none⟩ = some (.string (⟨#[]⟩:ByteArray)):=(bJ dO.out 1).trans rfl;have acX:w26.cell? ⟨fq,2,none⟩ = some (iI):=(bJ dO.out 2).trans rfl;have acY:=bE dO.out 0;have acZ:=bE dO.out 1;have ac0:=bE dO.out 2) | ((with_reducible refine Cj (b:=.append) (xs:=#[.tmp 56,.tmp 58]) rfl ?_);at_builtin;refine Kd.MW Kd.string (w0:=w) w.heap.size rfl (.tmp 56) (.tmp 58) 40 9 (.string ⟨#[]⟩) 16 rfl Tryz.underlying40 TB rfl (by decide) (by omega) iI gQ Gg [.string Gg] (fun _=>True) (fun _=>False) rfl rfl ?aP (fun _ hk=>hk.elim) ?aF ?aO ?aB ?aS ?aL ?_;(case aP=>exact rfl);(case aB=>exact (by repeat (first | (with_reducible first | exact HB.out | apply av | apply aj | apply aA | refine aT ?_ iM.out | refine aT ?_ j4.out | refine aT ?_ nE.out) | exact HB.out)));(case aF=>exact (fun _ _=>trivial));(case aO=>exact (by (with_reducible repeat (first | apply Kd.gU | apply Kd.iW | apply Kd.iQ));exact dK.out));(case aS=>exact (dZ (by repeat (first | (with_reducible first | exact HB.out | apply av | apply aj | apply aA | refine aT ?_ iM.out | refine aT ?_ j4.out | refine aT ?_ nE.out) | exact HB.out))));(case aL=>have:=aa3.out;omega);intro ahR w30 ho hb hg hat;rw [← aa4.out] at ho;have iR:=ah.mk (uM (g:=fF) (o:=.cells #[.int .i64 eu,.int .i64 iH,.int .i64 jK] 205 (0,0)) (by (with_reducible repeat (first | refine aK ?_ _ | refine aQ ?_ | refine aI ?_ _));exact dA.out) hg (Kd.V5 dK.out dA.out (by decide)));have kU:=ah.mk (uM (g:=dz) (o:=.cells #[.string fU,.string fA,.slice none 0 0] 191 (0,0)) (by (with_reducible repeat (first | refine aK ?_ _ | refine aQ ?_ | refine aI ?_ _));exact dx.out) hg (Kd.V5 dK.out dx.out (by decide)));have nW:=ah.mk (uM (g:=fq) (o:=.cells #[.string (a0.extract (a1:Int).toNat ((wrap64 (a1 + eu)):Int).toNat),.string (⟨#[]⟩:ByteArray),iI] 191 (0,0)) (by (with_reducible repeat (first | refine aK ?_ _ | refine aQ ?_ | refine aI ?_ _));exact dO.out) hg (Kd.V5 dK.out dO.out (by decide)));have nY:=ah.mk (hb);have qE:=ah.mk (ho);clear dA;clear dx;clear dO;clear HB;clear dK;have dA:=iR;have dx:=kU;have dO:=nW;have HB:=nY;have TK:=qE;clear iR kU nW nY qE;clear ho hb hg hat;obtain ⟨aa5,aa6,afA⟩:=Kd.Cc TK.out;subst afA;have ac1:w30.cell? ⟨fq,0,none⟩ = some (.string (a0.extract (a1:Int).toNat ((wrap64 (a1 + eu)):Int).toNat)):=(bJ dO.out 0).trans rfl;have ac2:w30.cell? ⟨fq,1,none⟩ = some (.string (⟨#[]⟩:ByteArray)):=(bJ dO.out 1).trans rfl;have ac3:w30.cell? ⟨fq,2,none⟩ = some (iI):=(bJ dO.out 2).trans rfl;have ac4:=bE dO.out 0;have ac5:=bE dO.out 1;have ac6:=bE dO.out 2))
           go_roundg k1
           case measure=>have:=Oy.out;omega
           case rel=>exact ⟨(zA),(wrap64 (tO + 1)),(fU),(fA),(Rz),(.slice aa5 Rz.length aa6),(by first | rfl | (simp;done) | (simp [*];done) | (simp [B.eT];done) | (simp [B.eU];done)),(by first | rfl | (simp;done) | (simp [*];done) | (simp [B.eT];done) | (simp [B.eU];done)),H',⟨by have:=Oy.out;omega⟩,⟨by (with_reducible repeat (first | apply Kd.gU | apply Kd.iW | apply Kd.iQ));exact Kd.pG (Kd.sU (p:=⟨fq,2,none⟩) (Kd.sV TK.out dO.out (by decide)) (fun _ hk=>hk.2) (.slice aa5 Rz.length aa6)) (fun _ hk=>trivial)⟩,⟨by (with_reducible repeat (first | refine aK ?_ _ | refine aQ ?_ | refine aI ?_ _));refine nP ?_ jQ.out _;(with_reducible repeat (first | refine aK ?_ _ | refine aQ ?_ | refine aI ?_ _));exact dA.out⟩,⟨by (with_reducible repeat (first | refine aK ?_ _ | refine aQ ?_ | refine aI ?_ _));refine nP ?_ gG.out _;(with_reducible repeat (first | refine aK ?_ _ | refine aQ ?_ | refine aI ?_ _));exact dx.out⟩,⟨by (with_reducible repeat (first | refine aK ?_ _ | refine aQ ?_ | refine aI ?_ _));refine gK (cs:=#[.string (a0.extract (a1:Int).toNat ((wrap64 (a1 + eu)):Int).toNat),.string (⟨#[]⟩:ByteArray),iI]) ?_ 2 _ rfl;(with_reducible repeat (first | refine aK ?_ _ | refine aQ ?_ | refine aI ?_ _));exact dO.out⟩,⟨by repeat (first | (with_reducible first | exact HB.out | apply av | apply aj | apply aA | refine aT ?_ iM.out | refine aT ?_ j4.out | refine aT ?_ nE.out) | exact HB.out)⟩⟩
          ·rw [ahY Mt] at H
           exact absurd H (by simp)
        ·rw [ahY c19] at H
         have aa0:(t127 == 0) = false:=aji.mpr c19
         have aa1:(t127 != 0) = true:=ajn.mpr c19
         simp only [aie,ain] at H
         obtain ⟨rfl,rfl,rfl,rfl⟩:=H
         go_wp2_with (first | ((with_reducible refine eP (f:=146) rfl ?_);refine jW (some 43) rfl rfl Tryz.func146 (by kernel_rfl) rfl #[.string a0,.int .i64 kV] rfl (by (try simp only [aiW,ah8,ail]) <;> rfl) ?_;(with_reducible refine (aW.calls k1 a0 kV Gg zA t127 _ A18.out).mono ?_);rintro e w33 ⟨rfl,hb⟩;refine ⟨_,rfl,?_⟩;have iR:=ah.mk (Kd.lu (by (with_reducible repeat (first | apply Kd.gU | apply Kd.iW | apply Kd.iQ));exact dK.out) hb);have kU:=ah.mk (dP (g:=fF) (o:=.cells #[.int .i64 eu,.int .i64 iH,.int .i64 jK] 205 (0,0)) (by (with_reducible repeat (first | refine aK ?_ _ | refine aQ ?_ | refine aI ?_ _));exact dA.out) hb);have nW:=ah.mk (dP (g:=dz) (o:=.cells #[.string fU,.string fA,.slice none 0 0] 191 (0,0)) (by (with_reducible repeat (first | refine aK ?_ _ | refine aQ ?_ | refine aI ?_ _));exact dx.out) hb);have nY:=ah.mk (dP (g:=fq) (o:=.cells #[.string (a0.extract (a1:Int).toNat ((wrap64 (a1 + eu)):Int).toNat),.string (⟨#[]⟩:ByteArray),iI] 191 (0,0)) (by (with_reducible repeat (first | refine aK ?_ _ | refine aQ ?_ | refine aI ?_ _));exact dO.out) hb);have qE:=ah.mk (dJ (by repeat (first | (with_reducible first | exact HB.out | apply av | apply aj | apply aA | refine aT ?_ iM.out | refine aT ?_ j4.out | refine aT ?_ nE.out) | exact HB.out)) hb);clear dK;clear dA;clear dx;clear dO;clear HB;have dK:=iR;have dA:=kU;have dx:=nW;have dO:=nY;have HB:=qE;clear iR kU nW nY qE;(try clear hb);(try clear hb2);(try clear hk);(try clear hi);have ahh:=jP.out;have ahi:=fu.out;have ahj:=gG.out;have ahk:=eG.out;have ac7:w33.cell? ⟨dz,0,none⟩ = some (.string fU):=(bJ dx.out 0).trans rfl;have ac8:w33.cell? ⟨dz,1,none⟩ = some (.string fA):=(bJ dx.out 1).trans rfl;have ac9:w33.cell? ⟨dz,2,none⟩ = some (.slice none 0 0):=(bJ dx.out 2).trans rfl;have ada:=bE dx.out 0;have adb:=bE dx.out 1;have ade:=bE dx.out 2))
         refine bodyPost_ret (jJ rfl _ _ dz 191 #[.string (⟨#[]⟩:ByteArray),.string (⟨#[]⟩:ByteArray),.slice none 0 0] (0,0) _ rfl (by (with_reducible repeat (first | refine aK ?_ _ | refine aQ ?_ | refine aI ?_ _));refine gK (cs:=#[.string (⟨#[]⟩:ByteArray),.string (⟨#[]⟩:ByteArray),.slice none 0 0]) ?_ 2 _ rfl;(with_reducible repeat (first | refine aK ?_ _ | refine aQ ?_ | refine aI ?_ _));refine gK (cs:=#[.string (⟨#[]⟩:ByteArray),.string fA,.slice none 0 0]) ?_ 1 _ rfl;(with_reducible repeat (first | refine aK ?_ _ | refine aQ ?_ | refine aI ?_ _));refine gK (cs:=#[.string fU,.string fA,.slice none 0 0]) ?_ 0 _ rfl;(with_reducible repeat (first | refine aK ?_ _ | refine aQ ?_ | refine aI ?_ _));exact dx.out) Tryz.underlying191 rfl (by kernel_rfl)) rfl ?_
         exact ⟨_,by first | rfl | (simp [bG,bH] <;> rfl) | (simp [*,bG,bH] <;> rfl),by first | exact Kd.mO _ _ _ _ _ | exact Kd.tF _ _ _ _ _ | exact Kd.tH _ _ _ _ _ | exact Kd.sZ _ _ _ _ _ | exact Kd.tC _ _ _ _ _,by repeat (first | (with_reducible first | exact HB.out | apply av | apply aj | apply aA | refine aT ?_ iM.out | refine aT ?_ j4.out | refine aT ?_ nE.out) | exact HB.out)⟩
       ·rw [ahY c17] at H
        have aaY:decide (tO < iH) = false:=ah2 c17
        clear c17
        by_cases c37:0 ≤ kV
        ·rw [ahX c37] at H
         have ahl:=ah9 c37
         have ahm:decide (0 ≤ kV) = true:=ah0 c37
         clear c37
         by_cases Ow:kV ≤ a2
         ·rw [ahX Ow] at H
          have ahn:=ah9 Ow
          have aho:decide (kV ≤ a2) = true:=ah0 Ow
          clear Ow
          by_cases c39:a2 ≤ (a0.size:Int)
          ·rw [ahX c39] at H
           have ahp:=ah9 c39
           have ahq:decide (a2 ≤ (a0.size:Int)) = true:=ah0 c39
           clear c39
           simp only [aie,ain] at H
           obtain ⟨rfl,rfl,rfl,rfl⟩:=H
           have ahr:=nG.out
           have ahs:=jQ.out
           have aht:=eG.out
           have ahu:=gG.out
           have adf:wr.cell? ⟨fq,0,none⟩ = some (.string (a0.extract (a1:Int).toNat ((wrap64 (a1 + eu)):Int).toNat)):=(bJ dO.out 0).trans rfl
           have adg:wr.cell? ⟨fq,1,none⟩ = some (.string (⟨#[]⟩:ByteArray)):=(bJ dO.out 1).trans rfl
           have adh:wr.cell? ⟨fq,2,none⟩ = some (iI):=(bJ dO.out 2).trans rfl
           have adi:=bE dO.out 0
           have adj:=bE dO.out 1
           have adk:=bE dO.out 2
           try go_wp2
           have iR:ah (Kd.R Kd.string 9 (wr.setCell ⟨fq,1,none⟩ (.string (a0.extract (kV:Int).toNat (a2:Int).toNat))) w.heap.size (fun _=>True) iI gQ):=⟨by (with_reducible repeat (first | apply Kd.gU | apply Kd.iW | apply Kd.iQ));exact Kd.pG (Kd.sU (p:=⟨fq,1,none⟩) (Kd.sV dK.out dO.out (by decide)) (fun _ hk=>hk.2) (.string (a0.extract (kV:Int).toNat (a2:Int).toNat))) (fun _ hk=>trivial)⟩
           have kU:ah ((wr.setCell ⟨fq,1,none⟩ (.string (a0.extract (kV:Int).toNat (a2:Int).toNat))).heap[fF]? = some (.cells #[.int .i64 eu,.int .i64 iH,.int .i64 jK] 205 (0,0))):=⟨by (with_reducible repeat (first | refine aK ?_ _ | refine aQ ?_ | refine aI ?_ _));refine nP ?_ jQ.out _;(with_reducible repeat (first | refine aK ?_ _ | refine aQ ?_ | refine aI ?_ _));exact dA.out⟩
           have nW:ah ((wr.setCell ⟨fq,1,none⟩ (.string (a0.extract (kV:Int).toNat (a2:Int).toNat))).heap[dz]? = some (.cells #[.string fU,.string fA,.slice none 0 0] 191 (0,0))):=⟨by (with_reducible repeat (first | refine aK ?_ _ | refine aQ ?_ | refine aI ?_ _));refine nP ?_ gG.out _;(with_reducible repeat (first | refine aK ?_ _ | refine aQ ?_ | refine aI ?_ _));exact dx.out⟩
           have nY:ah ((wr.setCell ⟨fq,1,none⟩ (.string (a0.extract (kV:Int).toNat (a2:Int).toNat))).heap[fq]? = some (.cells #[.string (a0.extract (a1:Int).toNat ((wrap64 (a1 + eu)):Int).toNat),.string (a0.extract (kV:Int).toNat (a2:Int).toNat),iI] 191 (0,0))):=⟨by (with_reducible repeat (first | refine aK ?_ _ | refine aQ ?_ | refine aI ?_ _));refine gK (cs:=#[.string (a0.extract (a1:Int).toNat ((wrap64 (a1 + eu)):Int).toNat),.string (⟨#[]⟩:ByteArray),iI]) ?_ 1 _ rfl;(with_reducible repeat (first | refine aK ?_ _ | refine aQ ?_ | refine aI ?_ _));exact dO.out⟩
           have qE:ah (Below w.heap.size w (wr.setCell ⟨fq,1,none⟩ (.string (a0.extract (kV:Int).toNat (a2:Int).toNat)))):=⟨by repeat (first | (with_reducible first | exact HB.out | apply av | apply aj | apply aA | refine aT ?_ iM.out | refine aT ?_ j4.out | refine aT ?_ nE.out) | exact HB.out)⟩
           (try clear dK)
           (try clear dA)
           (try clear dx)
           (try clear dO)
           (try clear HB)
           generalize (wr.setCell ⟨fq,1,none⟩ (.string (a0.extract (kV:Int).toNat (a2:Int).toNat))) = w43 at iR kU nW nY qE ⊢
           have dK:=iR
           have dA:=kU
           have dx:=nW
           have dO:=nY
           have HB:=qE
           clear iR kU nW nY qE
           have iR:=ah.mk (Kd.iQ dK.out)
           have kU:=ah.mk (aQ dA.out)
           have nW:=ah.mk (aQ dx.out)
           have nY:=ah.mk (aQ dO.out)
           have qE:=ah.mk (aA HB.out)
           clear dK
           clear dA
           clear dx
           clear dO
           clear HB
           have dK:=iR
           have dA:=kU
           have dx:=nW
           have dO:=nY
           have HB:=qE
           clear iR kU nW nY qE
           obtain ⟨Wx,Wz,aa7⟩:=Kd.Cc dK.out
           (first | subst aa7 | (injection aa7 with f1_ f2_ f3_;have f4_:=f1_.symm;have f5_:=f3_.symm;clear f1_ f2_ f3_;subst f4_;subst f5_))
           refine M4 (n:=9) (S:=fun w'=>w'.cell? ⟨fq,0,none⟩ = some (.string (a0.extract (a1:Int).toNat ((wrap64 (a1 + eu)):Int).toNat)) ∧ w'.cell? ⟨fq,1,none⟩ = some (.string (a0.extract (kV:Int).toNat (a2:Int).toNat)) ∧ w'.cell? ⟨fq,2,none⟩ = some (.slice Wx gQ.length Wz) ∧ w'.cell? ⟨fF,0,none⟩ = some (.int .i64 eu) ∧ w'.cell? ⟨fF,1,none⟩ = some (.int .i64 iH) ∧ w'.cell? ⟨fF,2,none⟩ = some (.int .i64 jK)) (ds:=[]) #[false,false,false,false,false,false,false,false,false] (by kernel_rfl) rfl rfl ⟨(bJ dO.out 0).trans rfl,(bJ dO.out 1).trans rfl,(bJ dO.out 2).trans rfl,(bJ dA.out 0).trans rfl,(bJ dA.out 1).trans rfl,(bJ dA.out 2).trans rfl⟩ (fun hHeld=>?_);refine Ak bN.aaT bN.Ww (fun vX HW_=>?_)
           generalize w43.drew = w44 at dK dA dx dO HB hHeld ⊢
           refine kY (i:=1) (N:=some 69) (v:=?_) (a':=?_) #[false,true,false,false,false,false,false,false,false] rfl rfl (jy vX.out (by kernel_rfl)) (fun _ _ _ h=>h) (Or.inl ⟨by rfl,?_⟩) ?_ ?_
           rotate_left
           ·intro w'
            go_simp
            with_reducible rfl
           rotate_left
           ·simp only [Act.put,aiG,List.set_cons_zero,List.set_cons_succ,iD,jg]
            rfl
           refine kY (i:=4) (N:=some 72) (v:=?_) (a':=?_) #[false,true,false,false,true,false,false,false,false] rfl rfl (jy vX.out (by kernel_rfl)) (fun _ _ _ h=>h) (Or.inl ⟨by rfl,?_⟩) ?_ ?_
           rotate_left
           ·intro w'
            go_simp
            with_reducible rfl
           rotate_left
           ·simp only [Act.put,aiG,List.set_cons_zero,List.set_cons_succ,iD,jg]
            rfl
           refine Eh (i:=0) (N:=some 68) (v:=?_) (a':=?_) #[true,true,false,false,true,false,false,false,false] rfl rfl (yt vX.out HW_.out (by kernel_rfl)) (fun _ _ _ h=>h) (Or.inl ⟨by rfl,?_⟩) hHeld ?_ ?_
           rotate_left
           ·rintro w' ⟨s0,s1,s2,s3,s4,s5⟩
            go_simp
            with_reducible rfl
           rotate_left
           ·simp only [Act.put,aiG,List.set_cons_zero,List.set_cons_succ,iD,jg]
            rfl
           refine Eh (i:=2) (N:=some 70) (v:=?_) (a':=?_) #[true,true,true,false,true,false,false,false,false] rfl rfl (yt vX.out HW_.out (by kernel_rfl)) (fun _ _ _ h=>h) (Or.inl ⟨by rfl,?_⟩) hHeld ?_ ?_
           rotate_left
           ·rintro w' ⟨s0,s1,s2,s3,s4,s5⟩
            go_simp
            with_reducible rfl
           rotate_left
           ·simp only [Act.put,aiG,List.set_cons_zero,List.set_cons_succ,iD,jg]
            rfl
           refine kY (i:=3) (N:=some 71) (v:=?_) (a':=?_) #[true,true,true,true,true,false,false,false,false] rfl rfl (jy vX.out (by kernel_rfl)) (fun _ _ _ h=>h) (Or.inl ⟨by rfl,?_⟩) ?_ ?_
           rotate_left
           ·intro w'
            go_simp
            with_reducible rfl
           rotate_left
           ·simp only [Act.put,aiG,List.set_cons_zero,List.set_cons_succ,iD,jg]
            rfl
           refine Eh (i:=5) (N:=some 73) (v:=?_) (a':=?_) #[true,true,true,true,true,true,false,false,false] rfl rfl (yt vX.out HW_.out (by kernel_rfl)) (fun _ _ _ h=>h) (Or.inl ⟨by rfl,?_⟩) hHeld ?_ ?_
           rotate_left
           ·rintro w' ⟨s0,s1,s2,s3,s4,s5⟩
            go_simp
            with_reducible rfl
           rotate_left
           ·simp only [Act.put,aiG,List.set_cons_zero,List.set_cons_succ,iD,jg]
            rfl
           refine kY (i:=6) (N:=some 74) (v:=?_) (a':=?_) #[true,true,true,true,true,true,true,false,false] rfl rfl (jy vX.out (by kernel_rfl)) (fun _ _ _ h=>h) (Or.inl ⟨by rfl,?_⟩) ?_ ?_
           rotate_left
           ·intro w'
            go_simp
            with_reducible rfl
           rotate_left
           ·simp only [Act.put,aiG,List.set_cons_zero,List.set_cons_succ,iD,jg]
            rfl
           refine Wh (i:=7) (N:=none) #[true,true,true,true,true,true,true,true,false] rfl rfl (F8 vX.out (by kernel_rfl)) (by decide) (fun K hK=>?_)
           have ahS:w44.cell? ⟨dz,0,none⟩ = some (.string fU):=(bJ dx.out 0).trans rfl
           have ahv:=bE dx.out 0
           have adl:=fu.out
           have adn:=eG.out
           have ado:=jP.out
           have adp:=gG.out
           have ahT:w44.cell? ⟨dz,1,none⟩ = some (.string fA):=(bJ dx.out 1).trans rfl
           have ahw:=bE dx.out 1
           have adq:=fu.out
           have ads:=eG.out
           have adt:=jP.out
           have adu:=gG.out
           have ahU:w44.cell? ⟨dz,2,none⟩ = some (.slice none 0 0):=(bJ dx.out 2).trans rfl
           have ahx:=bE dx.out 2
           have adv:=fu.out
           have adw:=eG.out
           have adx:=jP.out
           have ady:=gG.out
           refine aaD (w1:=?_) (by rfl) rfl ?_ ?_
           rotate_left
           ·go_simp
            rfl
           refine hK.out _ _ ⟨((cell_far (p:=⟨dz,_,none⟩) eG.out _).trans (((cell_far (p:=⟨dz,_,none⟩) eG.out _).trans (((cell_far (p:=⟨dz,_,none⟩) eG.out _).trans (hHeld.1)))))),((cell_far (p:=⟨dz,_,none⟩) eG.out _).trans (((cell_far (p:=⟨dz,_,none⟩) eG.out _).trans (((cell_far (p:=⟨dz,_,none⟩) eG.out _).trans (hHeld.2.1)))))),((cell_far (p:=⟨dz,_,none⟩) eG.out _).trans (((cell_far (p:=⟨dz,_,none⟩) eG.out _).trans (((cell_far (p:=⟨dz,_,none⟩) eG.out _).trans (hHeld.2.2.1)))))),((cell_far (p:=⟨dz,_,none⟩) fu.out _).trans (((cell_far (p:=⟨dz,_,none⟩) fu.out _).trans (((cell_far (p:=⟨dz,_,none⟩) fu.out _).trans (hHeld.2.2.2.1)))))),((cell_far (p:=⟨dz,_,none⟩) fu.out _).trans (((cell_far (p:=⟨dz,_,none⟩) fu.out _).trans (((cell_far (p:=⟨dz,_,none⟩) fu.out _).trans (hHeld.2.2.2.2.1)))))),((cell_far (p:=⟨dz,_,none⟩) fu.out _).trans (((cell_far (p:=⟨dz,_,none⟩) fu.out _).trans (((cell_far (p:=⟨dz,_,none⟩) fu.out _).trans (hHeld.2.2.2.2.2))))))⟩ (fun hHeld=>?_)
           clear hK K
           refine kY (i:=8) (N:=some 9) (v:=?_) (a':=?_) #[true,true,true,true,true,true,true,true,true] rfl rfl (jy vX.out (by kernel_rfl)) (fun _ _ _ h=>h) (Or.inl ⟨by rfl,?_⟩) ?_ ?_
           rotate_left
           ·intro w'
            go_simp
            with_reducible rfl
           rotate_left
           ·simp only [Act.put,aiG,List.set_cons_zero,List.set_cons_succ,iD,jg]
            rfl
           refine Tw (H7 vX.out (by kernel_rfl)) ?_
           try go_wp2
           refine bodyPost_ret (jJ rfl _ _ dz 191 #[.string (a0.extract (a1:Int).toNat ((wrap64 (a1 + eu)):Int).toNat),.string (a0.extract (kV:Int).toNat (a2:Int).toNat),.slice Wx gQ.length Wz] (0,0) _ rfl (by (with_reducible repeat (first | refine aK ?_ _ | refine aQ ?_ | refine aI ?_ _));refine gK (cs:=#[.string (a0.extract (a1:Int).toNat ((wrap64 (a1 + eu)):Int).toNat),.string (a0.extract (kV:Int).toNat (a2:Int).toNat),.slice none 0 0]) ?_ 2 _ rfl;(with_reducible repeat (first | refine aK ?_ _ | refine aQ ?_ | refine aI ?_ _));refine gK (cs:=#[.string (a0.extract (a1:Int).toNat ((wrap64 (a1 + eu)):Int).toNat),.string fA,.slice none 0 0]) ?_ 1 _ rfl;(with_reducible repeat (first | refine aK ?_ _ | refine aQ ?_ | refine aI ?_ _));refine gK (cs:=#[.string fU,.string fA,.slice none 0 0]) ?_ 0 _ rfl;(with_reducible repeat (first | refine aK ?_ _ | refine aQ ?_ | refine aI ?_ _));exact dx.out) Tryz.underlying191 rfl (by kernel_rfl)) rfl ?_
           exact ⟨_,by first | rfl | (simp [bG,bH] <;> rfl) | (simp [*,bG,bH] <;> rfl),by (with_reducible repeat (first | apply Kd.gU | apply Kd.iW | apply Kd.iQ));exact Kd.pG (Kd.sU (p:=⟨dz,2,none⟩) (Kd.sU (p:=⟨dz,1,none⟩) (Kd.sU (p:=⟨dz,0,none⟩) (Kd.sV dK.out dx.out (by decide)) (fun _ hk=>hk.2) (.string (a0.extract (a1:Int).toNat ((wrap64 (a1 + eu)):Int).toNat))) (fun _ hk=>hk.2) (.string (a0.extract (kV:Int).toNat (a2:Int).toNat))) (fun _ hk=>hk.2) (.slice Wx gQ.length Wz)) (fun _ hk=>trivial),by repeat (first | (with_reducible first | exact HB.out | apply av | apply aj | apply aA | refine aT ?_ iM.out | refine aT ?_ j4.out | refine aT ?_ nE.out) | exact HB.out)⟩
          ·rw [ahY c39] at H
           exact absurd H (by simp)
         ·rw [ahY Ow] at H
          exact absurd H (by simp)
        ·rw [ahY c37] at H
         exact absurd H (by simp)
    ·rw [ahY c8] at H
     exact absurd H (by simp)
   ·rw [ahY c7] at H
    exact absurd H (by simp)
  ·rw [ahY c6] at H
   exact absurd H (by simp)
 ·rw [ahY c5] at H
  have Rh:decide (eu ≤ (wrap64 (a2 - a1))) = false:=ah2 c5
  (try (have Ri:decide (eu ≤ ((a2 - a1))) = false:=by have h_:decide (eu ≤ (wrap64 (a2 - a1))) = false:=ah2 c5;rw [B.lF (by omega) (by omega)] at h_;exact h_))
  clear c5
  simp only [aie,ain] at H
  obtain ⟨rfl,rfl,rfl,rfl⟩:=H
  go_enter Tryz.func130,Tryz.ntmps130
  go_wp2_with (first | ((with_reducible refine l7 (N:=7) rfl ?_);refine kI ?hg (N:=7) ?hd (cs:=#[.int .i64 eu,.int .i64 iH,.int .i64 jK]) (t:=205) ?hr ?_;(case hd=>rfl);(case hg=>rfl);(case hr=>first | (go_simp;done) | (go_simp;rfl));intro fF hg w49 nD hb;have iR:=ah.mk (dJ (by repeat first | exact HB.out | apply av | apply aj | apply aA) hb);have kU:=ah.mk (nD);have nW:=ah.mk ((by rw [hg];exact (dZ (by repeat first | exact HB.out | apply av | apply aj | apply aA)):w.heap.size ≤ fF));have nY:=ah.mk ((by rw [hg];exact (dZ (by repeat first | exact HB.out | apply av | apply aj | apply aA)):w.heap.size ≤ fF));clear HB;have HB:=iR;have dA:=kU;have aaV:=nW;have iM:=nY;clear iR kU nW nY;clear hb nD hg) | ((with_reducible refine l7 (N:=8) rfl ?_);refine kI ?hg (N:=8) ?hd (cs:=#[.string (⟨#[]⟩:ByteArray),.string (⟨#[]⟩:ByteArray),.slice none 0 0]) (t:=191) ?hr ?_;(case hd=>rfl);(case hg=>rfl);(case hr=>first | (go_simp;done) | (go_simp;rfl));intro dz hg w50 nD hb;have iR:=ah.mk (dP (g:=fF) (o:=.cells #[.int .i64 eu,.int .i64 iH,.int .i64 jK] 205 (0,0)) (by (with_reducible repeat (first | refine aK ?_ _ | refine aQ ?_ | refine aI ?_ _));exact dA.out) hb);have kU:=ah.mk (dJ (by repeat (first | (with_reducible first | exact HB.out | apply av | apply aj | apply aA | refine aT ?_ iM.out) | exact HB.out)) hb);have nW:=ah.mk (nD);have nY:=ah.mk ((by rw [hg];exact (dZ (by repeat (first | (with_reducible first | exact HB.out | apply av | apply aj | apply aA | refine aT ?_ iM.out) | exact HB.out))):w.heap.size ≤ dz));have qE:=ah.mk ((by rw [hg];exact (dZ (by repeat (first | (with_reducible first | exact HB.out | apply av | apply aj | apply aA | refine aT ?_ iM.out) | exact HB.out))):w.heap.size ≤ dz));have NG:=ah.mk ((by rw [hg];exact Nat.ne_of_lt (jw (g:=fF) (o:=.cells #[.int .i64 eu,.int .i64 iH,.int .i64 jK] 205 (0,0)) (by (with_reducible repeat (first | refine aK ?_ _ | refine aQ ?_ | refine aI ?_ _));exact dA.out)):fF ≠ dz));have NH:=ah.mk ((by rw [hg];exact Nat.ne_of_gt (jw (g:=fF) (o:=.cells #[.int .i64 eu,.int .i64 iH,.int .i64 jK] 205 (0,0)) (by (with_reducible repeat (first | refine aK ?_ _ | refine aQ ?_ | refine aI ?_ _));exact dA.out)):dz ≠ fF));clear dA;clear HB;have dA:=iR;have HB:=kU;have dx:=nW;have aaW:=nY;have j4:=qE;have fu:=NG;have jP:=NH;clear iR kU nW nY qE NG NH;clear hb nD hg) | ((with_reducible refine l7 (N:=10) rfl ?_);refine kI ?hg (N:=10) ?hd (cs:=#[.string (⟨#[]⟩:ByteArray),.string (⟨#[]⟩:ByteArray),.slice none 0 0]) (t:=191) ?hr ?_;(case hd=>rfl);(case hg=>rfl);(case hr=>first | (go_simp;done) | (go_simp;rfl));intro fq hg Yb nD hb;have iR:=ah.mk (dP (g:=fF) (o:=.cells #[.int .i64 eu,.int .i64 iH,.int .i64 jK] 205 (0,0)) (by (with_reducible repeat (first | refine aK ?_ _ | refine aQ ?_ | refine aI ?_ _));exact dA.out) hb);have kU:=ah.mk (dP (g:=dz) (o:=.cells #[.string (⟨#[]⟩:ByteArray),.string (⟨#[]⟩:ByteArray),.slice none 0 0] 191 (0,0)) (by (with_reducible repeat (first | refine aK ?_ _ | refine aQ ?_ | refine aI ?_ _));exact dx.out) hb);have nW:=ah.mk (dJ (by repeat (first | (with_reducible first | exact HB.out | apply av | apply aj | apply aA | refine aT ?_ iM.out | refine aT ?_ j4.out) | exact HB.out)) hb);have nY:=ah.mk (nD);have qE:=ah.mk ((by rw [hg];exact (dZ (by repeat (first | (with_reducible first | exact HB.out | apply av | apply aj | apply aA | refine aT ?_ iM.out | refine aT ?_ j4.out) | exact HB.out))):w.heap.size ≤ fq));have NG:=ah.mk ((by rw [hg];exact (dZ (by repeat (first | (with_reducible first | exact HB.out | apply av | apply aj | apply aA | refine aT ?_ iM.out | refine aT ?_ j4.out) | exact HB.out))):w.heap.size ≤ fq));have NH:=ah.mk ((by rw [hg];exact Nat.ne_of_lt (jw (g:=fF) (o:=.cells #[.int .i64 eu,.int .i64 iH,.int .i64 jK] 205 (0,0)) (by (with_reducible repeat (first | refine aK ?_ _ | refine aQ ?_ | refine aI ?_ _));exact dA.out)):fF ≠ fq));have n7_:=ah.mk ((by rw [hg];exact Nat.ne_of_gt (jw (g:=fF) (o:=.cells #[.int .i64 eu,.int .i64 iH,.int .i64 jK] 205 (0,0)) (by (with_reducible repeat (first | refine aK ?_ _ | refine aQ ?_ | refine aI ?_ _));exact dA.out)):fq ≠ fF));have n8_:=ah.mk ((by rw [hg];exact Nat.ne_of_lt (jw (g:=dz) (o:=.cells #[.string (⟨#[]⟩:ByteArray),.string (⟨#[]⟩:ByteArray),.slice none 0 0] 191 (0,0)) (by (with_reducible repeat (first | refine aK ?_ _ | refine aQ ?_ | refine aI ?_ _));exact dx.out)):dz ≠ fq));have n9_:=ah.mk ((by rw [hg];exact Nat.ne_of_gt (jw (g:=dz) (o:=.cells #[.string (⟨#[]⟩:ByteArray),.string (⟨#[]⟩:ByteArray),.slice none 0 0] 191 (0,0)) (by (with_reducible repeat (first | refine aK ?_ _ | refine aQ ?_ | refine aI ?_ _));exact dx.out)):fq ≠ dz));clear dA;clear dx;clear HB;have dA:=iR;have dx:=kU;have HB:=nW;have dO:=nY;have aaX:=qE;have nE:=NG;have jQ:=NH;have nG:=n7_;have gG:=n8_;have eG:=n9_;clear iR kU nW nY qE NG NH n7_ n8_ n9_;clear hb nD hg;have ahy:=fu.out;have ahz:=jP.out;have ahA:=jQ.out;have ahB:=nG.out;have adz:Yb.cell? ⟨fF,0,none⟩ = some (.int .i64 eu):=(bJ dA.out 0).trans rfl;have adA:Yb.cell? ⟨fF,1,none⟩ = some (.int .i64 iH):=(bJ dA.out 1).trans rfl;have adB:Yb.cell? ⟨fF,2,none⟩ = some (.int .i64 jK):=(bJ dA.out 2).trans rfl;have adC:=bE dA.out 0;have adD:=bE dA.out 1;have adE:=bE dA.out 2;have ahC:=gG.out;have ahD:=eG.out;have adF:Yb.cell? ⟨dz,0,none⟩ = some (.string (⟨#[]⟩:ByteArray)):=(bJ dx.out 0).trans rfl;have adG:Yb.cell? ⟨dz,1,none⟩ = some (.string (⟨#[]⟩:ByteArray)):=(bJ dx.out 1).trans rfl;have adH:Yb.cell? ⟨dz,2,none⟩ = some (.slice none 0 0):=(bJ dx.out 2).trans rfl;have adJ:=bE dx.out 0;have adK:=bE dx.out 1;have adL:=bE dx.out 2))
  refine bodyPost_ret (jJ rfl _ _ dz 191 #[.string (⟨#[]⟩:ByteArray),.string (⟨#[]⟩:ByteArray),.slice none 0 0] (0,0) _ rfl (by (with_reducible repeat (first | refine aK ?_ _ | refine aQ ?_ | refine aI ?_ _));refine gK (cs:=#[.string (⟨#[]⟩:ByteArray),.string (⟨#[]⟩:ByteArray),.slice none 0 0]) ?_ 2 _ rfl;(with_reducible repeat (first | refine aK ?_ _ | refine aQ ?_ | refine aI ?_ _));refine gK (cs:=#[.string (⟨#[]⟩:ByteArray),.string (⟨#[]⟩:ByteArray),.slice none 0 0]) ?_ 1 _ rfl;(with_reducible repeat (first | refine aK ?_ _ | refine aQ ?_ | refine aI ?_ _));refine gK (cs:=#[.string (⟨#[]⟩:ByteArray),.string (⟨#[]⟩:ByteArray),.slice none 0 0]) ?_ 0 _ rfl;(with_reducible repeat (first | refine aK ?_ _ | refine aQ ?_ | refine aI ?_ _));exact dx.out) Tryz.underlying191 rfl (by kernel_rfl)) rfl ?_
  exact ⟨_,by first | rfl | (simp [bG,bH] <;> rfl) | (simp [*,bG,bH] <;> rfl),by first | exact Kd.mO _ _ _ _ _ | exact Kd.tF _ _ _ _ _ | exact Kd.tH _ _ _ _ _ | exact Kd.sZ _ _ _ _ _ | exact Kd.tC _ _ _ _ _,by repeat (first | (with_reducible first | exact HB.out | apply av | apply aj | apply aA | refine aT ?_ iM.out | refine aT ?_ j4.out | refine aT ?_ nE.out) | exact HB.out)⟩
theorem iq.keep {a b:ByteArray} {v:Value} {l:List ByteArray} {base g:Nat} {ok:Nat → Prop} {w w1 w2:World}
  (h:(w1.cell? ⟨g,0,none⟩ = some (.string a) ∧ w1.cell? ⟨g,1,none⟩ = some (.string b) ∧ w1.cell? ⟨g,2,none⟩ = some v) ∧ ah (Below g w w1 ∧ g < w1.heap.size ∧ Kd.R Kd.string 9 w1 base ok v l)) (hb:Below w1.heap.size w1 w2) :
  (w2.cell? ⟨g,0,none⟩ = some (.string a) ∧ w2.cell? ⟨g,1,none⟩ = some (.string b) ∧ w2.cell? ⟨g,2,none⟩ = some v) ∧ ah (Below g w w2 ∧ g < w2.heap.size ∧ Kd.R Kd.string 9 w2 base ok v l):=by
 obtain ⟨⟨c0,c1,c2⟩,⟨h1,h2,h3⟩⟩:=h
 have hs:=hb.size
 exact ⟨⟨(hb.cell h2).trans c0,(hb.cell h2).trans c1,(hb.cell h2).trans c2⟩,⟨h1.trans (hb.mono (by omega)),by omega,Kd.lu h3 hb⟩⟩
theorem iq.calls (a b:ByteArray) (v:Value) (l:List ByteArray) (base:Nat) (ok:Nat → Prop) (w:World) (hr:Kd.R Kd.string 9 w base ok v l) (hl:l.length ≤ 1000000) (hz:a.size + (strings_Join.cat l).size + b.size ≤ 140737488355328) :
  Calls Tryz.prog 147 #[.agg #[.string a,.string b,v]] w fun e w'=>e = .returned (.string (a ++ strings_Join.cat l ++ b)) ∧ Below w.heap.size w w':=by
 have HB:=ah.mk (av (Below.refl w.heap.size w) (.cells #[.string a,.string b,v] 191 (0,0)))
 have HR:=ah.mk (Kd.gU hr (.cells #[.string a,.string b,v] 191 (0,0)))
 have HC:(w.alloc (.cells #[.string a,.string b,v] 191 (0,0))).cell? ⟨w.heap.size,0,none⟩ = some (.string a) ∧ (w.alloc (.cells #[.string a,.string b,v] 191 (0,0))).cell? ⟨w.heap.size,1,none⟩ = some (.string b) ∧ (w.alloc (.cells #[.string a,.string b,v] 191 (0,0))).cell? ⟨w.heap.size,2,none⟩ = some v:=by
  refine ⟨?_,?_,?_⟩ <;> (rw [Lib.cell_of_heap (heap_alloc_new w _)];rfl)
 have HC0:=ah.mk HC
 clear HC
 have HC:=HC0
 clear HC0
 have hs:w.heap.size < (w.alloc (.cells #[.string a,.string b,v] 191 (0,0))).heap.size:=by show _ < (w.heap.push _).size;rw [ajb];omega
 have HS:=ah.mk hs
 have HZ:=ah.mk hz
 have HL:=ah.mk hl
 clear hs hz hr hl
 go_enter Tryz.func147,Tryz.ntmps147
 go_wp2
 generalize w.alloc (.cells #[.string a,.string b,v] 191 (0,0)) = w1 at *
 generalize hgg:w.heap.size = g at *
 have hgg:=ah.mk hgg
 have hf1:a.size + (strings_Join.cat l).size ≤ 9223372036854775807:=by have:=HZ.out;omega
 have hf2:a.size + (strings_Join.cat l).size + b.size ≤ 9223372036854775807:=by have:=HZ.out;omega
 have c0:=HC.out.1
 have c1:=HC.out.2.1
 have c2:=HC.out.2.2
 go_region_held (fun w'=>(w'.cell? ⟨g,0,none⟩ = some (.string a) ∧ w'.cell? ⟨g,1,none⟩ = some (.string b) ∧ w'.cell? ⟨g,2,none⟩ = some v) ∧ ah (Below g w w' ∧ g < w'.heap.size ∧ Kd.R Kd.string 9 w' base ok v l)) ((first | assumption | exact iq.keep ⟨⟨c0,c1,c2⟩,⟨HB.out,HS.out,HR.out⟩⟩ (je (Below.refl _ _)) | exact iq.keep (by assumption) (by assumption))) ((first | (go_at_call 156;refine (strings_Join.calls v l base ok _ (Kd.iQ HR.out) HL.out (by have:=HZ.out;omega)).mono ?_;rintro e w' ⟨rfl,hb'⟩)))
 all_goals
  rename_i hx
  go_wp2
  go_ret
  exact ⟨rfl,hgg.out ▸ hx.2.out.1⟩
def dD.l0 : Nat → ByteArray → Option (Bool)
 | 0,_=>none
 | k + 1,x0=>if x0.toList = ([]:List UInt8) then (some true) else (if 0 < (x0.size:Int) then (if (wrap64 (1 + (wrap64 (bt x0 0)))) > (x0.size:Int) then (some false) else (if 0 ≤ (wrap64 (1 + (wrap64 (bt x0 0)))) then (if (wrap64 (1 + (wrap64 (bt x0 0)))) ≤ (x0.size:Int) then (dD.l0 k (x0.extract ((wrap64 (1 + (wrap64 (bt x0 0)))):Int).toNat x0.size)) else (none)) else (none))) else (none))
def dD.f (k:Nat) (a0:ByteArray):Option (Bool):=if a0.toList = ([]:List UInt8) then (some false) else (dD.l0 k a0)
theorem dD.calls (k:Nat) (a0:ByteArray) (r:Bool) (w:World) (h:dD.f k a0 = some r) :
  Calls Tryz.prog 152 #[.string a0] w fun e w'=>e = .returned (.bool r) ∧ bM w w':=by
 have H:(if a0.toList = ([]:List UInt8) then (some false) else (dD.l0 k a0)) = some r:=h
 clear h
 by_cases c2:a0.toList = ([]:List UInt8)
 ·rw [ahX c2] at H
  have zw:(a0.toList == ([]:List UInt8)) = true:=aiH.mpr c2
  have Jv:(a0.toList != ([]:List UInt8)) = false:=ajR.mpr c2
  have aa8:a0.toList.isEmpty = true:=List.isEmpty_iff.mpr c2
  clear c2
  obtain rfl:=aiE H
  go_enter Tryz.func152,Tryz.ntmps152
  go_wp2
  go_ret
  exact ⟨by first | rfl | (simp;done) | (simp [*];done),by repeat (first | exact bM.refl _ | apply bM.step)⟩
 ·rw [ahY c2] at H
  have zw:(a0.toList == ([]:List UInt8)) = false:=aji.mpr c2
  have Jv:(a0.toList != ([]:List UInt8)) = true:=ajn.mpr c2
  have aa8:a0.toList.isEmpty = false:=aiX.mpr (fun h_=>c2 (List.isEmpty_iff.mp h_))
  have H':=ah.mk H
  clear H
  go_enter Tryz.func152,Tryz.ntmps152
  go_wp2
  go_loopg [0] k (fun kq v0 w'=>∃ (bB:ByteArray),v0 = .string bB ∧ ah (dD.l0 kq bB = some r) ∧ ah (kq ≤ k) ∧ bM w w')
  case atStart=>exact ⟨(a0),(by first | rfl | (simp;done) | (simp [*];done) | (simp [B.eT];done) | (simp [B.eU];done)),H',⟨ah1 _⟩,by repeat (first | exact bM.refl _ | apply bM.step)⟩
  case round =>
   clear H'
   try clear c1
   try clear c2
   try clear zw
   try clear Jv
   try clear aa8
   try clear p2
   obtain ⟨bB,rfl,HA,Oy,⟨m1,rfl⟩⟩:=hrel
   cases gk with
   | zero=>exact absurd HA.out (by simp [dD.l0])
   | succ k1 =>
    have H:=HA.out
    clear HA
    simp only [dD.l0] at H
    by_cases c3:bB.toList = ([]:List UInt8)
    ·rw [ahX c3] at H
     have Nl:(bB.toList == ([]:List UInt8)) = true:=aiH.mpr c3
     have WA:(bB.toList != ([]:List UInt8)) = false:=ajR.mpr c3
     have afB:bB.toList.isEmpty = true:=List.isEmpty_iff.mpr c3
     clear c3
     obtain rfl:=aiE H
     go_wp2
     go_ret
     exact ⟨by first | rfl | (simp;done) | (simp [*];done),by repeat (first | exact bM.refl _ | apply bM.step)⟩
    ·rw [ahY c3] at H
     have Nl:(bB.toList == ([]:List UInt8)) = false:=aji.mpr c3
     have WA:(bB.toList != ([]:List UInt8)) = true:=ajn.mpr c3
     have afB:bB.toList.isEmpty = false:=aiX.mpr (fun h_=>c3 (List.isEmpty_iff.mp h_))
     by_cases c4:0 < (bB.size:Int)
     ·rw [ahX c4] at H
      have Cm:decide (0 < (bB.size:Int)) = true:=ah0 c4
      have Nh:decide (0 < bB.size) = true:=ah0 (by omega)
      clear c4
      by_cases c6:(wrap64 (1 + (wrap64 (bt bB 0)))) > (bB.size:Int)
      ·rw [ahX c6] at H
       have Jw:decide ((bB.size:Int) < (wrap64 (1 + (wrap64 (bt bB 0))))) = true:=ah0 c6
       (try (have Jy:decide ((bB.size:Int) < ((1 + ((bt bB 0))))) = true:=by have h_:decide ((bB.size:Int) < (wrap64 (1 + (wrap64 (bt bB 0))))) = true:=ah0 c6;rw [B.lF (by omega) (by omega)] at h_;rw [B.lF (by omega) (by omega)] at h_;exact h_))
       clear c6
       obtain rfl:=aiE H
       have p5:0 ≤ (0:Int):=(by omega)
       have q5:0 < bB.size:=(by have:(0:Int) < (bB.size:Int):=aiB (by first | (with_reducible assumption) | assumption);omega)
       have hx5:∀ h:0 < bB.size,((bB[0]'h).toNat:Int) = bt bB 0:=vv bB 0
       clear p5
       have qi5:(0 < (bB.size:Int)) = True:=ah9 (aiB (by first | (with_reducible assumption) | assumption))
       replace q5:=ah9 q5
       go_wp2
       go_ret
       exact ⟨by first | rfl | (simp;done) | (simp [*];done),by repeat (first | exact bM.refl _ | apply bM.step)⟩
      ·rw [ahY c6] at H
       have Jw:decide ((bB.size:Int) < (wrap64 (1 + (wrap64 (bt bB 0))))) = false:=ah2 c6
       (try (have Jy:decide ((bB.size:Int) < ((1 + ((bt bB 0))))) = false:=by have h_:decide ((bB.size:Int) < (wrap64 (1 + (wrap64 (bt bB 0))))) = false:=ah2 c6;rw [B.lF (by omega) (by omega)] at h_;rw [B.lF (by omega) (by omega)] at h_;exact h_))
       clear c6
       obtain ⟨RA,JH⟩:∃ j_:Int,(wrap64 (1 + (wrap64 (bt bB 0)))) = j_:=⟨_,rfl⟩
       replace H:(if 0 ≤ (RA) then (if (RA) ≤ (bB.size:Int) then (dD.l0 k1 (bB.extract ((RA):Int).toNat bB.size)) else (none)) else (none)) = some r:=by first | (rw [JH] at H;exact H) | (simp only [JH] at H ⊢;exact H)
       (try rw [JH] at Jw)
       (try rw [JH] at Jy)
       have ahE:(IntKind.i64.wrap (1 + (wrap64 (bt bB 0)))) = RA:=(iD _).trans JH
       by_cases c8:0 ≤ (RA)
       ·rw [ahX c8] at H
        have Q0:=ah9 c8
        have Q5:decide (0 ≤ (RA)) = true:=ah0 c8
        clear c8
        by_cases c9:(RA) ≤ (bB.size:Int)
        ·rw [ahX c9] at H
         have Ni:=ah9 c9
         have Wo:decide ((RA) ≤ (bB.size:Int)) = true:=ah0 c9
         clear c9
         have H':=ah.mk H
         clear H
         have p5:0 ≤ (0:Int):=(by omega)
         have q5:0 < bB.size:=(by have:(0:Int) < (bB.size:Int):=aiB (by first | (with_reducible assumption) | assumption);omega)
         have hx5:∀ h:0 < bB.size,((bB[0]'h).toNat:Int) = bt bB 0:=vv bB 0
         clear p5
         have qi5:(0 < (bB.size:Int)) = True:=ah9 (aiB (by first | (with_reducible assumption) | assumption))
         replace q5:=ah9 q5
         go_wp2
         go_roundg k1
         case measure=>have:=Oy.out;omega
         case rel=>exact ⟨(bB.extract ((RA):Int).toNat bB.size),(by first | rfl | (simp;done) | (simp only [← JH] <;> (first | rfl | simp)) | (simp [*];done)),H',⟨by have:=Oy.out;omega⟩,by repeat (first | exact bM.refl _ | apply bM.step)⟩
        ·rw [ahY c9] at H
         exact absurd H (by simp)
       ·rw [ahY c8] at H
        exact absurd H (by simp)
     ·rw [ahY c4] at H
      exact absurd H (by simp)
def ay.CX (k:Int):Option (Int × Int × Int) :=
 if k = 1 then some (4,0,0) else if k = 28 then some (16,0,0) else if k = 2 then some (0,1,0) else if k = 5 then some (0,1,0) else if k = 12 then some (0,1,0) else if k = 6 then some (0,2,20) else if k = 15 then some (2,1,0) else if k = 33 then some (6,1,0) else none
theorem ay.wE (k:Int):Mi.rO k bR.tab = (ay.CX k).map fun s=>bR.agg s.1 s.2.1 s.2.2:=by
 unfold ay.CX bR.tab
 simp only [Mi.rO]
 repeat' split
 all_goals rfl
def ay.fin (k:Nat) (kind:Int) (d:ByteArray) (is:Bool):Option (ByteArray × Int) :=
 if is = true then (if kind = 16 then ((dD.f k d).bind fun b=>if b = true then (if (d.size:Int) > 65535 then some (⟨#[]⟩,4) else some (d,0)) else some (⟨#[]⟩,4)) else (if (d.size:Int) > 65535 then some (⟨#[]⟩,4) else some (d,0))) else some (⟨#[]⟩,4)
def ay.g (k:Nat) (a0:ByteArray) (a1 a2 a3:Int) (s:Int × Int × Int):Option (ByteArray × Int) :=
 (bN.f k a0 a1 (wrap64 (a1 + a2)) s.1 s.2.1 s.2.2).bind fun p=>if p.1.size + (strings_Join.cat p.2.2.1).size + p.2.1.size ≤ 140737488355328 then (if p.2.2.1.length ≤ 1000000 then ay.fin k a3 (p.1 ++ strings_Join.cat p.2.2.1 ++ p.2.1) p.2.2.2 else none) else none
def ay.f (k:Nat) (a0:ByteArray) (a1 a2 a3:Int):Option (ByteArray × Int) :=
 (eD.f a0 a1 a2).bind fun t=>if t.2 = true then (match ay.CX a3 with | some s=>ay.g k a0 a1 a2 a3 s | none=>ay.fin k a3 t.1 true) else some (⟨#[]⟩,2)
theorem ay.Au {k:Nat} {kind:Int} {d:ByteArray} {r:ByteArray × Int} (h:ay.fin k kind d true = some r) (hk:kind = 16) :
  ∃ b,dD.f k d = some b ∧ (if b = true then (if (d.size:Int) > 65535 then some ((⟨#[]⟩:ByteArray),(4:Int)) else some (d,0)) else some (⟨#[]⟩,4)) = some r:=by
 unfold ay.fin at h
 rw [ahX rfl,ahX hk] at h
 exact zbm h
theorem ay.qm {k:Nat} {kind:Int} {d:ByteArray} {r:ByteArray × Int} (h:ay.fin k kind d true = some r) (hk:¬ kind = 16) :
  (if (d.size:Int) > 65535 then some ((⟨#[]⟩:ByteArray),(4:Int)) else some (d,0)) = some r:=by
 unfold ay.fin at h
 rw [ahX rfl,ahY hk] at h
 exact h
theorem ay.WB {k:Nat} {kind:Int} {d:ByteArray} {r:ByteArray × Int} (h:ay.fin k kind d false = some r):r = (⟨#[]⟩,4):=by
 unfold ay.fin at h
 rw [ahY aiZ] at h
 exact (aiE h).symm
theorem ay.slc {v:Value} {l:List ByteArray} {base:Nat} {ok:Nat → Prop} {w:World} (hr:Kd.R Kd.string 9 w base ok v l):∃ A n c,v = .slice A n c:=by
 rcases (Kd.sW hr).2 with ⟨rfl,_⟩ | ⟨g,cap,cur,rfl,_⟩
 ·exact ⟨_,_,_,rfl⟩
 ·exact ⟨_,_,_,rfl⟩
theorem ay.lQ {b:Bool} {d r1:ByteArray} {r2:Int} (h:(if b = true then (if (d.size:Int) > 65535 then some ((⟨#[]⟩:ByteArray),(4:Int)) else some (d,0)) else some (⟨#[]⟩,4)) = some (r1,r2)) :
  (b = true → 65535 < (d.size:Int) → r1 = ⟨#[]⟩ ∧ r2 = 4) ∧ (b = true → (d.size:Int) ≤ 65535 → r1 = d ∧ r2 = 0) ∧ (b = false → r1 = ⟨#[]⟩ ∧ r2 = 4):=by
 refine ⟨fun h1 h2=>?_,fun h1 h2=>?_,fun h1=>?_⟩
 ·rw [ahX h1,ahX h2] at h;cases h;exact ⟨rfl,rfl⟩
 ·rw [ahX h1,ahY (by omega)] at h;cases h;exact ⟨rfl,rfl⟩
 ·rw [h1,ahY aiZ] at h;cases h;exact ⟨rfl,rfl⟩
theorem ay.qo {d r1:ByteArray} {r2:Int} (h:(if (d.size:Int) > 65535 then some ((⟨#[]⟩:ByteArray),(4:Int)) else some (d,0)) = some (r1,r2)) :
  (65535 < (d.size:Int) → r1 = ⟨#[]⟩ ∧ r2 = 4) ∧ ((d.size:Int) ≤ 65535 → r1 = d ∧ r2 = 0):=by
 refine ⟨fun h2=>?_,fun h2=>?_⟩
 ·rw [ahX h2] at h;cases h;exact ⟨rfl,rfl⟩
 ·rw [ahY (by omega)] at h;cases h;exact ⟨rfl,rfl⟩
theorem ay.calls (k:Nat) (a0:ByteArray) (a1 a2 a3:Int) (r1:ByteArray) (r2:Int) (w:World) (h:ay.f k a0 a1 a2 a3 = some (r1,r2)) :
  Calls Tryz.prog 145 #[.string a0,.int .i64 a1,.int .i64 a2,.int .i64 a3] w fun e w'=>e = .returned (.tuple #[.string r1,.int .i64 r2]) ∧ Below w.heap.size w w':=by
 have HB:=ah.mk (Below.refl w.heap.size w)
 obtain ⟨⟨t1,t2⟩,ht,h'⟩:=zbm h
 clear h
 have HT:=ah.mk ht
 clear ht
 cases t2 with
 | false =>
  rw [ahY aiZ] at h'
  obtain ⟨rfl,rfl⟩:=ain .. ▸ aiE h'
  go_enter Tryz.func145,Tryz.ntmps145
  go_wp2_with (first | (go_at_call 136;refine (eD.calls _ _ _ _ _ _ HT.out).mono ?_;rintro e w1 ⟨rfl,hd1⟩))
  go_ret2
  exact ⟨rfl,hd1.below⟩
 | true =>
  replace h':(match ay.CX a3 with | some s=>ay.g k a0 a1 a2 a3 s | none=>ay.fin k a3 t1 true) = some (r1,r2):=h'
  cases hsh:ay.CX a3 with
  | none =>
   rw [hsh] at h'
   have HH:=ah.mk (show ay.fin k a3 t1 true = some (r1,r2) from h')
   clear h'
   have hfn:Mi.rO a3 bR.tab = none:=by rw [ay.wE,hsh];rfl
   go_enter Tryz.func145,Tryz.ntmps145
   go_wp2_with (first
    | (go_at_call 136;refine (eD.calls _ _ _ _ _ _ HT.out).mono ?_;rintro e w1 ⟨rfl,hd1⟩)
    | (go_at_call 129;refine (bR.calls _).mono ?_;rintro e w2 ⟨g,rfl,hin⟩;have hl:=Mi.look (P:=Tryz.prog) hin.at_ 207 3 205 Tryz.underlying207 Tryz.underlying3 _ (Tryz.zeroValue205 w2) a3;rw [hfn] at hl;have hB2:=ah.mk ((HB.out.trans hd1.below).trans (hin.ND.mono hd1.below.size));clear hin)
    | (go_at_call 152;obtain ⟨b,hb,hx⟩:=ay.Au HH.out (by assumption);have hx:=ah.mk hx;refine (dD.calls _ _ _ _ hb).mono ?_;rintro e w3 ⟨rfl,hd3⟩))
   all_goals
    go_ret2
    first
     | (have hq:=(ay.lQ hx.out).1 (by assumption) (by assumption);obtain ⟨rfl,rfl⟩:=hq;exact ⟨rfl,(av hB2.out _).trans (hd3.below.mono (by have:=hB2.out.size;simp only [World.alloc,ajb];omega))⟩)
     | (have hq:=(ay.lQ hx.out).2.1 (by assumption) (by assumption);obtain ⟨rfl,rfl⟩:=hq;exact ⟨rfl,(av hB2.out _).trans (hd3.below.mono (by have:=hB2.out.size;simp only [World.alloc,ajb];omega))⟩)
     | (have hq:=(ay.lQ hx.out).2.2 (by first | assumption | simpa using ‹¬ b = true›);obtain ⟨rfl,rfl⟩:=hq;exact ⟨rfl,(av hB2.out _).trans (hd3.below.mono (by have:=hB2.out.size;simp only [World.alloc,ajb];omega))⟩)
     | (have hq:=(ay.qo (ay.qm HH.out (by assumption))).1 (by assumption);obtain ⟨rfl,rfl⟩:=hq;exact ⟨rfl,av hB2.out _⟩)
     | (have hq:=(ay.qo (ay.qm HH.out (by assumption))).2 (by assumption);obtain ⟨rfl,rfl⟩:=hq;exact ⟨rfl,av hB2.out _⟩)
  | some s =>
   obtain ⟨s0,s1,s2⟩:=s
   rw [hsh] at h'
   replace h':ay.g k a0 a1 a2 a3 (s0,s1,s2) = some (r1,r2):=h'
   unfold ay.g at h'
   obtain ⟨⟨p1,p2,p3,p4⟩,hp,h'⟩:=zbm h'
   replace h':(if p1.size + (strings_Join.cat p3).size + p2.size ≤ 140737488355328 then (if p3.length ≤ 1000000 then ay.fin k a3 (p1 ++ strings_Join.cat p3 ++ p2) p4 else none) else none) = some (r1,r2):=h'
   have hp:=ah.mk (show bN.f k a0 a1 (wrap64 (a1 + a2)) s0 s1 s2 = some (p1,p2,p3,p4) from hp)
   by_cases z1:p1.size + (strings_Join.cat p3).size + p2.size ≤ 140737488355328
   ·rw [ahX z1] at h'
    by_cases z2:p3.length ≤ 1000000
    ·rw [ahX z2] at h'
     have HH:=ah.mk h'
     have z1:=ah.mk z1
     have z2:=ah.mk z2
     clear h'
     have hfn:Mi.rO a3 bR.tab = some (bR.agg s0 s1 s2):=by rw [ay.wE,hsh];rfl
     cases p4
     all_goals
      go_enter Tryz.func145,Tryz.ntmps145
      go_wp2_with (first
       | (go_at_call 136;refine (eD.calls _ _ _ _ _ _ HT.out).mono ?_;rintro e w1 ⟨rfl,hd1⟩)
       | (go_at_call 129;refine (bR.calls _).mono ?_;rintro e w2 ⟨g,rfl,hin⟩;have hl:=Mi.look (P:=Tryz.prog) hin.at_ 207 3 205 Tryz.underlying207 Tryz.underlying3 _ (Tryz.zeroValue205 w2) a3;rw [hfn] at hl;replace hl:=show _ = Result.ok (Value.tuple #[.agg #[.int .i64 s0,.int .i64 s1,.int .i64 s2],.bool true]) w2 from hl;have hB2:=ah.mk ((HB.out.trans hd1.below).trans (hin.ND.mono hd1.below.size));clear hin)
       | (go_at_call 130;refine (bN.calls _ _ _ _ _ _ _ _ _ _ _ _ hp.out).mono ?_;rintro e w3 ⟨v,rfl,hv,hb3⟩;obtain ⟨vA,vn,vc,rfl⟩:=ay.slc hv;have hB3:=ah.mk ((av hB2.out _).trans (hb3.mono (by have:=hB2.out.size;simp only [World.alloc,ajb];omega)));have hv:=ah.mk hv;clear hb3)
       | (go_at_call 147;refine (iq.calls _ _ _ p3 _ _ _ (Kd.gU hv.out _) z2.out z1.out).mono ?_;rintro e w4 ⟨rfl,hb4⟩;have hB4:=ah.mk ((av hB3.out _).trans (hb4.mono (by have:=hB3.out.size;simp only [World.alloc,ajb];omega)));clear hb4)
       | (go_at_call 152;obtain ⟨b,hb,hx⟩:=ay.Au HH.out (by assumption);have hx:=ah.mk hx;refine (dD.calls _ _ _ _ hb).mono ?_;rintro e w5 ⟨rfl,hd3⟩))
      all_goals
       go_ret2
       first
        | (have hq:=ay.WB HH.out;cases hq;exact ⟨rfl,hB4.out⟩)
        | (have hq:=(ay.lQ hx.out).1 (by first | assumption | (simp only [aiw,Int.natCast_add];assumption)) (by first | assumption | (simp only [aiw,Int.natCast_add];assumption));obtain ⟨rfl,rfl⟩:=hq;exact ⟨rfl,hB4.out.trans (hd3.below.mono hB4.out.size)⟩)
        | (have hq:=(ay.lQ hx.out).2.1 (by first | assumption | (simp only [aiw,Int.natCast_add];assumption)) (by first | assumption | (simp only [aiw,Int.natCast_add];assumption));obtain ⟨rfl,rfl⟩:=hq;exact ⟨rfl,hB4.out.trans (hd3.below.mono hB4.out.size)⟩)
        | (have hq:=(ay.lQ hx.out).2.2 (by first | assumption | simpa using ‹¬ b = true›);obtain ⟨rfl,rfl⟩:=hq;exact ⟨rfl,hB4.out.trans (hd3.below.mono hB4.out.size)⟩)
        | (have hq:=(ay.qo (ay.qm HH.out (by first | assumption | (simp only [aiw,Int.natCast_add];assumption)))).1 (by first | assumption | (simp only [aiw,Int.natCast_add];assumption));obtain ⟨rfl,rfl⟩:=hq;exact ⟨rfl,hB4.out⟩)
        | (have hq:=(ay.qo (ay.qm HH.out (by first | assumption | (simp only [aiw,Int.natCast_add];assumption)))).2 (by first | assumption | (simp only [aiw,Int.natCast_add];assumption));obtain ⟨rfl,rfl⟩:=hq;exact ⟨rfl,hB4.out⟩)
    ·rw [ahY z2] at h';cases h'
   ·rw [ahY z1] at h';cases h'
def iJ.f (k:Nat) (a0:Int) (a1:ByteArray):Option (Bool):=if (a1.size:Int) > 65535 then (some false) else ((ay.f k a1 0 (a1.size:Int) a0).bind fun Ew=>(if Ew.2 = 0 then (some (Ew.1.toList == a1.toList)) else (some false)))
theorem iJ.calls (k:Nat) (a0:Int) (a1:ByteArray) (r:Bool) (w:World) (h:iJ.f k a0 a1 = some r) :
  Calls Tryz.prog 128 #[.int .i64 a0,.string a1] w fun e w'=>e = .returned (.bool r) ∧ Below w.heap.size w w':=by
 have HB:=ah.mk (Below.refl w.heap.size w)
 have H:(if (a1.size:Int) > 65535 then (some false) else ((ay.f k a1 0 (a1.size:Int) a0).bind fun Ew=>(if Ew.2 = 0 then (some (Ew.1.toList == a1.toList)) else (some false)))) = some r:=h
 clear h
 by_cases c3:(a1.size:Int) > 65535
 ·rw [ahX c3] at H
  have Nl:decide (65535 < (a1.size:Int)) = true:=ah0 c3
  have WA:decide (65535 < a1.size) = true:=ah0 (by omega)
  clear c3
  obtain rfl:=aiE H
  go_enter Tryz.func128,Tryz.ntmps128
  go_wp2
  go_ret
  exact ⟨by first | rfl | (simp [bG,bH] <;> rfl) | (simp [*,bG,bH] <;> rfl),by repeat (first | exact HB.out | apply av | apply aj | apply aA)⟩
 ·rw [ahY c3] at H
  have Nl:decide (65535 < (a1.size:Int)) = false:=ah2 c3
  have WA:decide (65535 < a1.size) = false:=ah2 (by omega)
  clear c3
  replace H:=zbm H
  obtain ⟨⟨t131,Ey⟩,TI,H⟩:=H
  replace H:(if Ey = 0 then (some (t131.toList == a1.toList)) else (some false)) = some r:=H
  have A4:=ah.mk TI
  clear TI
  by_cases c5:Ey = 0
  ·rw [ahX c5] at H
   have Rh:(Ey == 0) = true:=aiH.mpr c5
   have Ri:(Ey != 0) = false:=ajR.mpr c5
   clear c5
   obtain rfl:=aiE H
   go_enter Tryz.func128,Tryz.ntmps128
   go_wp2_with (first | ((with_reducible refine eP (f:=145) rfl ?_);refine jW (some 15) rfl rfl Tryz.func145 (by kernel_rfl) rfl #[.string a1,.int .i64 0,.int .i64 (a1.size:Int),.int .i64 a0] rfl (by (try simp only [aiW,ah8,ail]);first | done | rfl | (simp only [aiv,aia];rfl) | (simp only [aiw,Int.natCast_add];rfl) | (rw [B.lF] <;> first | rfl | omega | (simp only [aiT,aii,Int.not_lt,Nat.not_lt,gt_iff_lt] at * <;> omega))) ?_;(with_reducible refine (ay.calls k a1 0 (a1.size:Int) a0 t131 Ey _ A4.out).mono ?_);rintro e w6 ⟨rfl,hb⟩;refine ⟨_,rfl,?_⟩;have iR:=ah.mk (dJ (by repeat first | exact HB.out | apply av | apply aj | apply aA) hb);clear HB;have HB:=iR;clear iR;(try clear hb);(try clear hb2);(try clear hk);(try clear hi)))
   go_ret
   exact ⟨by first | rfl | (simp [bG,bH] <;> rfl) | (simp [*,bG,bH] <;> rfl),by repeat (first | exact HB.out | apply av | apply aj | apply aA)⟩
  ·rw [ahY c5] at H
   have Rh:(Ey == 0) = false:=aji.mpr c5
   have Ri:(Ey != 0) = true:=ajn.mpr c5
   obtain rfl:=aiE H
   go_enter Tryz.func128,Tryz.ntmps128
   go_wp2_with (first | ((with_reducible refine eP (f:=145) rfl ?_);refine jW (some 15) rfl rfl Tryz.func145 (by kernel_rfl) rfl #[.string a1,.int .i64 0,.int .i64 (a1.size:Int),.int .i64 a0] rfl (by (try simp only [aiW,ah8,ail]);first | done | rfl | (simp only [aiv,aia];rfl) | (simp only [aiw,Int.natCast_add];rfl) | (rw [B.lF] <;> first | rfl | omega | (simp only [aiT,aii,Int.not_lt,Nat.not_lt,gt_iff_lt] at * <;> omega))) ?_;(with_reducible refine (ay.calls k a1 0 (a1.size:Int) a0 t131 Ey _ A4.out).mono ?_);rintro e w7 ⟨rfl,hb⟩;refine ⟨_,rfl,?_⟩;have iR:=ah.mk (dJ (by repeat first | exact HB.out | apply av | apply aj | apply aA) hb);clear HB;have HB:=iR;clear iR;(try clear hb);(try clear hb2);(try clear hk);(try clear hi)))
   go_ret
   exact ⟨by first | rfl | (simp [bG,bH] <;> rfl) | (simp [*,bG,bH] <;> rfl),by repeat (first | exact HB.out | apply av | apply aj | apply aA)⟩
def bS.f (k:Nat) (a0:Int) (a1:ByteArray):Option (ByteArray × ByteArray × List ByteArray × Bool) :=
 (iJ.f k a0 a1).bind fun c=>if c = true then (match ay.CX a0 with | some s=>bN.f k a1 0 (a1.size:Int) s.1 s.2.1 s.2.2 | none=>some (a1,⟨#[]⟩,[],true)) else some (⟨#[]⟩,⟨#[]⟩,[],false)
theorem bS.three {w w1:World} {g B:Nat} {a b c a' b' c':Value} (bk:w1.heap[g]? = some (.cells #[a',b',c'] 191 (0,0))) :
  (((w1.setCell ⟨g,0,none⟩ a).setCell ⟨g,1,none⟩ b).setCell ⟨g,2,none⟩ c).heap[g]? = some (.cells #[a,b,c] 191 (0,0)) ∧
  (Below B w w1 → B ≤ g → Below B w (((w1.setCell ⟨g,0,none⟩ a).setCell ⟨g,1,none⟩ b).setCell ⟨g,2,none⟩ c)) ∧
  (∀ v l base ok,Kd.R Kd.string 9 w1 base ok v l → Kd.R Kd.string 9 (((w1.setCell ⟨g,0,none⟩ a).setCell ⟨g,1,none⟩ b).setCell ⟨g,2,none⟩ c) base ok v l):=by
 have b1:=gK bk 0 a (cs':=#[a,b',c']) rfl
 have b2:=gK b1 1 b (cs':=#[a,b,c']) rfl
 have b3:=gK b2 2 c (cs':=#[a,b,c]) rfl
 refine ⟨b3,fun h hg=>((h.setCell hg _).setCell hg _).setCell hg _,fun v l base ok h=>?_⟩
 exact Kd.MS (Kd.MS (Kd.MS h bk (by decide) 0 a) b1 (by decide) 1 b) b2 (by decide) 2 c
theorem bS.facts {w1:World} {g:Nat} {a b c:Value} (bk:w1.heap[g]? = some (.cells #[a,b,c] 191 (0,0))) :
  (w1.cell? ⟨g,0,none⟩ = some a ∧ w1.cell? ⟨g,1,none⟩ = some b ∧ w1.cell? ⟨g,2,none⟩ = some c) ∧ w1.frozen? ⟨g,0,none⟩ = false ∧ w1.frozen? ⟨g,1,none⟩ = false ∧ w1.frozen? ⟨g,2,none⟩ = false :=
 ⟨⟨bJ bk 0,bJ bk 1,bJ bk 2⟩,bE bk 0,bE bk 1,bE bk 2⟩
theorem bS.calls (k:Nat) (a0:Int) (a1:ByteArray) (r1 r2:ByteArray) (r3:List ByteArray) (r4:Bool) (w:World) (h:bS.f k a0 a1 = some (r1,r2,r3,r4)) :
  Calls Tryz.prog 112 #[.int .i64 a0,.string a1] w fun e w'=>∃ v2_:Value,e = .returned (.tuple #[.agg #[.string r1,.string r2,v2_],.bool r4]) ∧ Kd.R Kd.string 9 w' w.heap.size (fun _=>True) v2_ r3 ∧ Below w.heap.size w w':=by
 obtain ⟨c,hc,h'⟩:=zbm h
 clear h
 have HC:=ah.mk hc
 clear hc
 cases c with
 | false =>
  rw [ahY aiZ] at h'
  cases h'
  go_enter Tryz.func112,Tryz.ntmps112
  go_wp2_with (first
   | (go_at_call 128;refine (iJ.calls _ _ _ _ _ HC.out).mono ?_;rintro e w1 ⟨rfl,hd1⟩;have bk:=dP (sS w _) hd1;obtain ⟨⟨k0,k1,k2⟩,f0,f1,f2⟩:=bS.facts bk;have bk:=ah.mk bk;have hB1:=ah.mk ((av (Below.refl w.heap.size w) _).trans (hd1.mono (by simp only [World.alloc,ajb];omega)));clear hd1))
  refine bodyPost_ret (jJ rfl _ _ w.heap.size 191 #[.string ⟨#[]⟩,.string ⟨#[]⟩,.slice none 0 0] (0,0) _ rfl (bS.three (w:=w) (B:=0) bk.out).1 Tryz.underlying191 rfl (by kernel_rfl)) rfl ?_
  exact ⟨_,rfl,Kd.mO _ _ _ _ _,(bS.three bk.out).2.1 hB1.out (ah1 _)⟩
 | true =>
  replace h':(match ay.CX a0 with | some s=>bN.f k a1 0 (a1.size:Int) s.1 s.2.1 s.2.2 | none=>some (a1,⟨#[]⟩,[],true)) = some (r1,r2,r3,r4):=h'
  cases hsh:ay.CX a0 with
  | none =>
   rw [hsh] at h'
   cases h'
   have hfn:Mi.rO a0 bR.tab = none:=by rw [ay.wE,hsh];rfl
   go_enter Tryz.func112,Tryz.ntmps112
   go_wp2_with (first
    | (go_at_call 128;refine (iJ.calls _ _ _ _ _ HC.out).mono ?_;rintro e w1 ⟨rfl,hd1⟩;have bk:=dP (sS w _) hd1;obtain ⟨⟨k0,k1,k2⟩,f0,f1,f2⟩:=bS.facts bk;have bk:=ah.mk bk;have hB1:=ah.mk ((av (Below.refl w.heap.size w) _).trans (hd1.mono (by simp only [World.alloc,ajb];omega)));clear hd1)
    | (go_at_call 129;refine (bR.calls _).mono ?_;rintro e w2 ⟨g,rfl,hin⟩;clear k0 k1 k2 f0 f1 f2;have hl:=Mi.look (P:=Tryz.prog) hin.at_ 207 3 205 Tryz.underlying207 Tryz.underlying3 _ (Tryz.zeroValue205 w2) a0;rw [hfn] at hl;replace hl:=show _ = Result.ok (Value.tuple #[.agg #[.int .i64 0,.int .i64 0,.int .i64 0],.bool false]) w2 from hl;have hB2:=ah.mk (hB1.out.trans (hin.ND.mono hB1.out.size));have bk:=ah.mk (aI (dP bk.out hin.ND) (.cells #[.int .i64 0,.int .i64 0,.int .i64 0] 205 (0,0)));obtain ⟨⟨k0,k1,k2⟩,f0,f1,f2⟩:=bS.facts bk.out;clear hin))
   refine bodyPost_ret (jJ rfl _ _ w.heap.size 191 #[.string a1,.string ⟨#[]⟩,.slice none 0 0] (0,0) _ rfl (bS.three (w:=w) (B:=0) bk.out).1 Tryz.underlying191 rfl (by kernel_rfl)) rfl ?_
   exact ⟨_,rfl,Kd.mO _ _ _ _ _,(bS.three bk.out).2.1 (av hB2.out _) (ah1 _)⟩
  | some s =>
   obtain ⟨s0,s1,s2⟩:=s
   rw [hsh] at h'
   have hp:=ah.mk (show bN.f k a1 0 (a1.size:Int) s0 s1 s2 = some (r1,r2,r3,r4) from h')
   clear h'
   have hfn:Mi.rO a0 bR.tab = some (bR.agg s0 s1 s2):=by rw [ay.wE,hsh];rfl
   go_enter Tryz.func112,Tryz.ntmps112
   go_wp2_with (first
    | (go_at_call 128;refine (iJ.calls _ _ _ _ _ HC.out).mono ?_;rintro e w1 ⟨rfl,hd1⟩;have bk:=dP (sS w _) hd1;obtain ⟨⟨k0,k1,k2⟩,f0,f1,f2⟩:=bS.facts bk;have bk:=ah.mk bk;have hB1:=ah.mk ((av (Below.refl w.heap.size w) _).trans (hd1.mono (by simp only [World.alloc,ajb];omega)));clear hd1)
    | (go_at_call 129;refine (bR.calls _).mono ?_;rintro e w2 ⟨g,rfl,hin⟩;clear k0 k1 k2 f0 f1 f2;have hl:=Mi.look (P:=Tryz.prog) hin.at_ 207 3 205 Tryz.underlying207 Tryz.underlying3 _ (Tryz.zeroValue205 w2) a0;rw [hfn] at hl;replace hl:=show _ = Result.ok (Value.tuple #[.agg #[.int .i64 s0,.int .i64 s1,.int .i64 s2],.bool true]) w2 from hl;have hB2:=ah.mk (hB1.out.trans (hin.ND.mono hB1.out.size));have bk:=ah.mk (aI (dP bk.out hin.ND) (.cells #[.int .i64 s0,.int .i64 s1,.int .i64 s2] 205 (0,0)));obtain ⟨⟨k0,k1,k2⟩,f0,f1,f2⟩:=bS.facts bk.out;clear hin)
    | (go_at_call 130;refine (bN.calls _ _ _ _ _ _ _ _ _ _ _ _ hp.out).mono ?_;rintro e w3 ⟨v,rfl,hv,hb3⟩;clear k0 k1 k2 f0 f1 f2;obtain ⟨vA,vn,vc,rfl⟩:=ay.slc hv;have hB3:=ah.mk ((av hB2.out _).trans (hb3.mono (by have:=hB2.out.size;simp only [World.alloc,ajb];omega)));have hv:=ah.mk (Kd.wB hv (by have:=hB2.out.size;simp only [World.alloc,ajb];omega:w.heap.size ≤ _));have bk:=ah.mk (dP bk.out hb3);obtain ⟨⟨k0,k1,k2⟩,f0,f1,f2⟩:=bS.facts bk.out;clear hb3))
   refine bodyPost_ret (jJ rfl _ _ w.heap.size 191 #[.string r1,.string r2,.slice vA vn vc] (0,0) _ rfl (bS.three (w:=w) (B:=0) bk.out).1 Tryz.underlying191 rfl (by kernel_rfl)) rfl ?_
   exact ⟨_,rfl,(bS.three (w:=w) (B:=0) bk.out).2.2 _ _ _ _ hv.out,(bS.three bk.out).2.1 hB3.out (ah1 _)⟩
def d9.all (k:Nat):List ByteArray → Option (List ByteArray)
 | []=>some []
 | x :: l=>(l9.f k x).bind fun y=>(d9.all k l).bind fun m=>some (y :: m)
def d9.fin (p1 p2:ByteArray) (m:List ByteArray):Option ByteArray :=
 if p1.size + (strings_Join.cat m).size + p2.size ≤ 140737488355328 then (if m.length ≤ 1000000 then some (p1 ++ strings_Join.cat m ++ p2) else none) else none
def d9.f (k:Nat) (a0:Int) (a1:ByteArray):Option ByteArray :=
 (bS.f k a0 a1).bind fun p=>(d9.all k p.2.2.1).bind fun m=>d9.fin p.1 p.2.1 m
theorem d9.yF {k:Nat}:∀ {l m:List ByteArray},d9.all k l = some m → m.length = l.length
 | [],m,h=>by cases h;rfl
 | x :: l,m,h=>by
  rw [d9.all] at h
  obtain ⟨y,_,h⟩:=zbm h
  obtain ⟨m',h',h⟩:=zbm h
  cases h
  rw [List.length_cons,List.length_cons,d9.yF h']
theorem d9.calls (k:Nat) (a0:Int) (a1:ByteArray) (r:ByteArray) (w:World) (h:d9.f k a0 a1 = some r) :
  Calls Tryz.prog 132 #[.int .i64 a0,.string a1] w fun e w'=>e = .returned (.string r) ∧ Below w.heap.size w w':=by
 obtain ⟨⟨p1,p2,l,p4⟩,hp,h'⟩:=zbm h
 clear h
 obtain ⟨m,hm,h'⟩:=zbm h'
 replace hm:d9.all k l = some m:=hm
 replace h':d9.fin p1 p2 m = some r:=h'
 have hml:=d9.yF hm
 have HP:=ah.mk hp
 have HM:=ah.mk hm
 have HF:=ah.mk h'
 have HL:=ah.mk hml
 clear hp hm h' hml
 go_enter Tryz.func132,Tryz.ntmps132
 go_wp2_with (first
  | (go_at_call 112;refine (bS.calls _ _ _ _ _ _ _ _ HP.out).mono ?_;rintro e w1 ⟨v,rfl,hv,hb1⟩;obtain ⟨vA,vn,vc,rfl⟩:=ay.slc hv;obtain ⟨rfl,_,hcc⟩:=Kd.xW hv;have hmx:=ah.mk (Kd.aaA hcc);clear hcc;have hv2:=ah.mk (Kd.gU hv (.cells #[.string p1,.string p2,.slice vA l.length vc] 191 (0,0)));have hb2:=ah.mk (av hb1 (.cells #[.string p1,.string p2,.slice vA l.length vc] 191 (0,0)));have bk2:=ah.mk (sS w1 (.cells #[.string p1,.string p2,.slice vA l.length vc] 191 (0,0)));have hge:=ah.mk hb1.size;clear hv hb1))
 generalize hw1:w1.alloc (.cells #[.string p1,.string p2,.slice vA l.length vc] 191 (0,0)) = w2 at *
 generalize hg:w1.heap.size = g at *
 clear hw1 hg
 go_loopw [18] (fun v18 wr=>∃ (j:Nat) (cur:List ByteArray),v18 = .int .i64 j ∧ j ≤ l.length ∧ ah (cur.length = l.length ∧ ∃ mm,d9.all k (cur.drop j) = some mm ∧ m = cur.take j ++ mm) ∧ ah (wr.heap[g]? = some (.cells #[.string p1,.string p2,.slice vA l.length vc] 191 (0,0))) ∧ ah (Kd.R Kd.string 9 wr w.heap.size (fun _=>True) (.slice vA l.length vc) cur) ∧ ah (Below w.heap.size w wr)) (fun v18 _=>l.length - (intOf v18).toNat)
 case atStart=>exact ⟨0,l,rfl,aiy _,⟨rfl,m,HM.out,rfl⟩,bk2,hv2,hb2⟩
 case round =>
  clear HM hv2 hb2 bk2
  obtain ⟨j,cur,rfl,hj,hc,bk,hR,hB⟩:=hrel
  by_cases hlt:j < l.length
  ·obtain ⟨hcl,mm,hmm,hmt⟩:=hc.out
   have hjc:j < cur.length:=by omega
   rw [ajz hjc,d9.all] at hmm
   obtain ⟨y,hy,hmm⟩:=zbm hmm
   obtain ⟨m',hm',hmm⟩:=zbm hmm
   obtain rfl:mm = y :: m':=(aiE hmm).symm
   have hnew:=ah.mk (show (cur.set j y).length = l.length ∧ ∃ mm,d9.all k ((cur.set j y).drop (j + 1)) = some mm ∧ m = (cur.set j y).take (j + 1) ++ mm from by
    refine ⟨by rw [ajA];exact hcl,m',?_,?_⟩
    ·rw [List.drop_set_of_lt (by omega)];exact hm'
    ·have e:(cur.set j y).take (j + 1) = cur.take j ++ [y]:=by
      rw [List.take_succ_eq_append_getElem (by rw [ajA];exact hjc),List.getElem_set_self,List.take_set_of_le (ah1 j)]
     rw [hmt,e,aiP];rfl)
   obtain ⟨gr,cap,e0,_,_,cells,hcells⟩:=Kd.V7 hR.out (by omega)
   injection e0 with e1 e2 e3
   subst e1 e3
   have hne:=ah.mk (show g ≠ gr from VZ bk.out hcells (by decide))
   have hxc:=Kd.Ce ByteArray.empty hR.out (j:Int) (by omega) (by omega)
   have hxe:FT ByteArray.empty cur (j:Int) = cur[j]:=by
    unfold FT
    rw [Int.toNat_natCast,aix,aic hjc]
    rfl
   rw [hxe,Int.toNat_natCast] at hxc
   have HY:=ah.mk hy
   have c0:=hxc.1
   have c1:=(bS.facts bk.out).1.2.2
   have hlt2:=ah.mk hlt
   have p0:(0 ≤ (j:Int)) = True:=ah9 (by omega)
   have q0:((j:Int) < (l.length:Int)) = True:=ah9 (by omega)
   generalize cur[j] = x at *
   clear hmm hm' hmt hy hxe hxc hcells hc e2 hlt hjc hcl
   go_wp2
   go_region_with (first | (go_at_call 68;refine (l9.calls _ _ _ _ HY.out).mono ?_;rintro e w3 ⟨rfl,hb3⟩;have bk3:=dP (aQ bk.out) hb3;have RB:=Kd.lu (Kd.iQ hR.out) hb3;have hB3:=ah.mk ((je hB.out).trans (hb3.mono hB.out.size));have d0:=(Kd.Ce ByteArray.empty RB (j:Int) (by omega) (by have:=hlt2.out;omega)).1;have d1:=(Kd.Ce ByteArray.empty RB (j:Int) (by omega) (by have:=hlt2.out;omega)).2;rw [Int.toNat_natCast] at d0 d1;have d2:=(bS.facts bk3).1.2.2;have bk3:=ah.mk bk3;have RB:=ah.mk RB;clear hb3))
   all_goals
    have hfin:=Kd.V9 RB.out (j:Int) y
    rw [Int.toNat_natCast] at hfin
    have bk4:=ah.mk (nP (p:=⟨gr,j,none⟩) bk3.out hne.out (.string y))
    have hR4:=ah.mk hfin.1
    have hB4:=ah.mk (hB3.out.grown hfin.2 hB3.out.size (fun k e=>by cases e;exact Kd.V6 RB.out gr rfl))
    clear hfin
    generalize w3.setCell ⟨gr,j,none⟩ (.string y) = w4 at *
    clear c0 c1 d0 d1 d2 p0 q0
    have hw:=(show wrap64 ((j:Int) + 1) = ((j + 1:Nat):Int) from by have hlt:=hlt2.out;have hm9:=hmx.out;rw [B.lF (by omega) (by omega)];omega)
    have hw:=ah.mk hw
    go_wp2
    go_roundw
    case rel=>have hlt:=hlt2.out;have hm9:=hmx.out;exact ⟨j + 1,cur.set j y,by rw [hw.out],hlt2.out,hnew,bk4,hR4,hB4⟩
    case measure=>have hlt:=hlt2.out;have hm9:=hmx.out;rw [hw.out];simp only [intOf];omega
  ·obtain rfl:j = l.length:=by omega
   have hcm:m = cur:=by
    obtain ⟨hcl,mm,hmm,hmt⟩:=hc.out
    rw [← hcl,List.drop_length] at hmm
    cases hmm
    rw [hmt,← hcl,aiC,ai1]
   subst hcm
   have q0:((l.length:Int) < (l.length:Int)) = False:=eq_false (by omega)
   obtain ⟨⟨k0,k1,k2⟩,_,_,_⟩:=bS.facts bk.out
   have hF:=HF.out
   unfold d9.fin at hF
   by_cases z1:p1.size + (strings_Join.cat m).size + p2.size ≤ 140737488355328
   ·rw [ahX z1] at hF
    by_cases z2:m.length ≤ 1000000
    ·rw [ahX z2] at hF
     obtain rfl:=aiE hF
     have z1:=ah.mk z1
     have z2:=ah.mk z2
     clear hF HF
     go_wp2_with (first
      | (go_at_call 147;refine (iq.calls _ _ _ m _ _ _ hR.out z2.out z1.out).mono ?_;rintro e w4 ⟨rfl,hb4⟩;have hB4:=ah.mk (hB.out.trans (hb4.mono hB.out.size));clear hb4))
     go_ret
     exact ⟨rfl,hB4.out⟩
    ·rw [ahY z2] at hF;cases hF
   ·rw [ahY z1] at hF;cases hF
def mh.f (k:Nat) (a0:Int) (a1:ByteArray):Option (List ByteArray):=(bS.f k a0 a1).bind fun NI=>(some NI.2.2.1)
theorem mh.calls (k:Nat) (a0:Int) (a1:ByteArray) (r:List ByteArray) (w:World) (h:mh.f k a0 a1 = some r) :
  Calls Tryz.prog 81 #[.int .i64 a0,.string a1] w fun e w'=>∃ v0_:Value,e = .returned (v0_) ∧ Kd.R Kd.string 9 w' w.heap.size (fun _=>True) v0_ r ∧ Below w.heap.size w w':=by
 have aaU:=Tryz.underlying191
 have HB:=ah.mk (Below.refl w.heap.size w)
 have H:((bS.f k a0 a1).bind fun NI=>(some NI.2.2.1)) = some r:=h
 clear h
 replace H:=zbm H
 obtain ⟨⟨aa9,abb,WC,t138⟩,A30,H⟩:=H
 replace H:(some WC) = some r:=H
 have A3:=ah.mk A30
 clear A30
 obtain rfl:=aiE H
 go_enter Tryz.func81,Tryz.ntmps81
 go_wp2_with (first | ((with_reducible refine eP (f:=112) rfl ?_);refine jW (some 10) rfl rfl Tryz.func112 (by kernel_rfl) rfl #[.int .i64 a0,.string a1] rfl (by (try simp only [aiW,ah8,ail]) <;> rfl) ?_;(with_reducible refine (bS.calls k a0 a1 aa9 abb WC t138 _ A3.out).mono ?_);rintro e w4 ⟨ahV,rfl,ho0,hb⟩;refine ⟨_,rfl,?_⟩;have iR:=ah.mk (Kd.wB ho0 (dZ (by repeat first | exact HB.out | apply av | apply aj | apply aA)));have kU:=ah.mk (dJ (by repeat first | exact HB.out | apply av | apply aj | apply aA) hb);clear HB;have Ez:=iR;have HB:=kU;clear iR kU;(try clear hb);(try clear hb2);(try clear hk);(try clear hi);(try clear ho0)) | ((with_reducible refine l7 (N:=5) rfl ?_);refine kI ?hg (N:=5) ?hd (cs:=#[.string (⟨#[]⟩:ByteArray),.string (⟨#[]⟩:ByteArray),.slice none 0 0]) (t:=191) ?hr ?_;(case hd=>rfl);(case hg=>rfl);(case hr=>first | (go_simp;done) | (go_simp;rfl));intro vI hg w5 nD hb;have iR:=ah.mk (Kd.lu (by (with_reducible repeat (first | apply Kd.gU | apply Kd.iW | apply Kd.iQ));exact Ez.out) hb);have kU:=ah.mk (dJ (by repeat first | exact HB.out | apply av | apply aj | apply aA) hb);have nW:=ah.mk (nD);have nY:=ah.mk ((by rw [hg];exact (dZ (by repeat first | exact HB.out | apply av | apply aj | apply aA)):w.heap.size ≤ vI));have qE:=ah.mk ((by rw [hg];exact (dZ (by repeat first | exact HB.out | apply av | apply aj | apply aA)):w.heap.size ≤ vI));clear Ez;clear HB;have Ez:=iR;have HB:=kU;have yG:=nW;have ahF:=nY;have abd:=qE;clear iR kU nW nY qE;clear hb nD hg;have afC:w5.cell? ⟨vI,0,none⟩ = some (.string (⟨#[]⟩:ByteArray)):=(bJ yG.out 0).trans rfl;have afD:w5.cell? ⟨vI,1,none⟩ = some (.string (⟨#[]⟩:ByteArray)):=(bJ yG.out 1).trans rfl;have afE:w5.cell? ⟨vI,2,none⟩ = some (.slice none 0 0):=(bJ yG.out 2).trans rfl;have afF:=bE yG.out 0;have afG:=bE yG.out 1;have afH:=bE yG.out 2;obtain ⟨Ao7,co7,eo7⟩:=Kd.Cc Ez.out;subst eo7))
 go_ret
 exact ⟨_,by first | rfl | (simp [bG,bH] <;> rfl) | (simp [*,bG,bH] <;> rfl),by (with_reducible repeat (first | apply Kd.gU | apply Kd.iW | apply Kd.iQ));exact Kd.pG (Kd.sU (p:=⟨vI,2,none⟩) (Kd.sU (p:=⟨vI,1,none⟩) (Kd.sU (p:=⟨vI,0,none⟩) (Kd.sV Ez.out yG.out (by decide)) (fun _ hk=>hk.2) (.string aa9)) (fun _ hk=>hk.2) (.string abb)) (fun _ hk=>hk.2) (.slice Ao7 WC.length co7)) (fun _ hk=>trivial),by repeat (first | (with_reducible first | exact HB.out | apply av | apply aj | apply aA | refine aT ?_ abd.out) | exact HB.out)⟩
end
section
open Go.RowKit Go.Proofs.YtfokaoeinpnagaaGreatW.aX Go.Proofs.YtfokaoeinpnagaaGreatW.dQ Go.Proofs.YtfokaoeinpnagaaGreatW.eX
attribute [local go_sem] jX jY lC lD jl jm jZ j3
theorem afI (d:Nat) (w:World) (x0 y0:Int) (x1 y1:Int) (x2 y2:Int) :
  (Op.equalIn (d + 2) 198 (.agg #[.int .i64 x0,.int .i64 x1,.int .i64 x2]) (.agg #[.int .i64 y0,.int .i64 y1,.int .i64 y2])).run Tryz.prog w = .ok (x0 == y0 && (x1 == y1 && (x2 == y2))) w:=by
 refine B.Na Tryz.underlying198 (by kernel_rfl) (by kernel_rfl) ?_
 show (Op.eqItems _ 3 1 _ _ [0,1,2]).run _ _ = _
 refine B.Ej (by go_simp;rfl) (by go_simp;rfl) (by go_simp) ?_
 refine B.Ej (by go_simp;rfl) (by go_simp;rfl) (by go_simp) ?_
 exact B.M9 (by go_simp;rfl) (by go_simp;rfl) (by go_simp)
end
end Go.Proofs.YtfokaoeinpnagaaGreat.ZQ

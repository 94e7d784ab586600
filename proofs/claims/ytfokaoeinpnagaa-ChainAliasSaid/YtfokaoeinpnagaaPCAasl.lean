/- A part of the proof of ChainAlias: cut, joined and given short names by a program of this session (wip/tools/pack.py); Lean checks it. No condition. -/
import Derived.Test.YtfokaoeinpnagaaPCAasj
import Derived.Test.YtfokaoeinpnagaaPCAask
import Derived.Test.YtfokaoeinpnagaaProg
import Derived.WideMake
import Derived.WalkKit
import Derived.Below
import Derived.Deep.RegionHeld3
import Derived.Test.YtfokaoeinpnagaaPCAasd
set_option linter.unusedSectionVars false
set_option linter.unusedSimpArgs false
set_option linter.unusedVariables false
namespace Go.Proofs.Ytfokaoeinpnagaa.ZQ
open Go.RowKit Go.Proofs.YtfokaoeinpnagaaW.bE Go.Proofs.YtfokaoeinpnagaaW.dB Go.Proofs.YtfokaoeinpnagaaW.dU
attribute [local go_sem] jA jB kG kH iI iJ jC jD
def aQ.f (a0:Int):Option (ByteArray × Int × Int):=some ((⟨#[]⟩:ByteArray),0,a0)
set_option maxHeartbeats 8000000 in
set_option maxRecDepth 100000 in
theorem aQ.calls (a0:Int) (r1:ByteArray) (r2:Int) (r3:Int) (w:World) (h:aQ.f a0 = some (r1,r2,r3)) :
  Calls Try.prog 78 #[.int .i64 a0] w fun e w'=>e = .returned (.tuple #[.string r1,.int .i64 r2,.int .i64 r3]) ∧ aW w w':=by
 have H:(some ((⟨#[]⟩:ByteArray),0,a0)) = some (r1,r2,r3):=h
 clear h
 simp only [Option.some.injEq,Prod.mk.injEq] at H
 obtain ⟨rfl,rfl,rfl⟩:=H
 go_enter Try.func78,Try.ntmps78
 go_wp2
 go_ret3
 exact ⟨by first | rfl | (simp;done) | (simp [*];done),by repeat (first | exact aW.refl _ | apply aW.step)⟩
def aR.l0 : Nat → ByteArray → Int → ByteArray → Int → Int → Option (ByteArray × Int × Int)
 | 0,_,_,_,_,_=>none
 | k + 1,x0,x1,x7,x8,x9=>(av.f k x0 x1 1).bind fun Bb=>(if Bb.2 = true then (if Bb.1 = 0 then (if x8 < 0 then (if x7.size + 1 ≤ 9223372036854775807 then (some (x7 ++ (⟨#[0]⟩:ByteArray),wrap64 (x1 + 1),0)) else (none)) else (if x7.size + 1 ≤ 9223372036854775807 then (some (x7 ++ (⟨#[0]⟩:ByteArray),x8,0)) else (none))) else (if Bb.1 ≥ 192 then ((av.f k x0 x1 2).bind fun j6=>(if j6.2 = true then (if (wrap64 (j6.1 - 49152)) ≥ x9 then ((aQ.f 3).bind fun kJ=>(some (kJ.1,kJ.2.1,kJ.2.2))) else (if x8 < 0 then (aR.l0 k x0 (wrap64 (j6.1 - 49152)) x7 (wrap64 (x1 + 2)) (wrap64 (j6.1 - 49152))) else (aR.l0 k x0 (wrap64 (j6.1 - 49152)) x7 x8 (wrap64 (j6.1 - 49152))))) else ((aQ.f 2).bind fun kK=>(some (kK.1,kK.2.1,kK.2.2))))) else (if Bb.1 > 63 then ((aQ.f 3).bind fun qj=>(some (qj.1,qj.2.1,qj.2.2))) else ((bB.f x0 x1 (wrap64 (Bb.1 + 1))).bind fun nH=>(if nH.2 = true then (if x7.size + nH.1.size ≤ 9223372036854775807 then (if (wrap64 (((x7 ++ nH.1).size:Int) + 1)) > 255 then ((aQ.f 3).bind fun kL=>(some (kL.1,kL.2.1,kL.2.2))) else (aR.l0 k x0 (wrap64 ((wrap64 (x1 + Bb.1)) + 1)) (x7 ++ nH.1) x8 x9)) else (none)) else ((aQ.f 2).bind fun kM=>(some (kM.1,kM.2.1,kM.2.2)))))))) else ((aQ.f 2).bind fun ql=>(some (ql.1,ql.2.1,ql.2.2))))
def aR.f (k:Nat) (a0:ByteArray) (a1:Int):Option (ByteArray × Int × Int):=aR.l0 k a0 a1 (⟨#[]⟩:ByteArray) (-1) a1
set_option maxHeartbeats 8000000 in
set_option maxRecDepth 100000 in
theorem aR.calls (k:Nat) (a0:ByteArray) (a1:Int) (r1:ByteArray) (r2:Int) (r3:Int) (w:World) (h:aR.f k a0 a1 = some (r1,r2,r3)) :
  Calls Try.prog 54 #[.string a0,.int .i64 a1] w fun e w'=>e = .returned (.tuple #[.string r1,.int .i64 r2,.int .i64 r3]) ∧ aW w w':=by
 have H:(aR.l0 k a0 a1 (⟨#[]⟩:ByteArray) (-1) a1) = some (r1,r2,r3):=h
 clear h
 have H':=aj.mk H
 clear H
 go_enter Try.func54,Try.ntmps54
 go_wp2
 go_loopg [1,7,8,9] k (fun kq v1 v7 v8 v9 w'=>∃ (dP:Int) (eG:ByteArray) (jg:Int) (oN:Int),v1 = .int .i64 dP ∧ v7 = .string eG ∧ v8 = .int .i64 jg ∧ v9 = .int .i64 oN ∧ aj (aR.l0 kq a0 dP eG jg oN = some (r1,r2,r3)) ∧ aj (kq ≤ k) ∧ aW w w')
 case atStart=>exact ⟨(a1),((⟨#[]⟩:ByteArray)),((-1)),(a1),(by first | rfl | (simp;done) | (simp [*];done) | (simp [B.aX];done) | (simp [B.aY];done)),(by first | rfl | (simp;done) | (simp [*];done) | (simp [B.aX];done) | (simp [B.aY];done)),(by first | rfl | (simp;done) | (simp [*];done) | (simp [B.aX];done) | (simp [B.aY];done)),(by first | rfl | (simp;done) | (simp [*];done) | (simp [B.aX];done) | (simp [B.aY];done)),H',⟨Nat.le_refl _⟩,by repeat (first | exact aW.refl _ | apply aW.step)⟩
 case round =>
  clear H'
  try clear p2
  obtain ⟨dP,eG,jg,oN,rfl,rfl,rfl,rfl,HA,wB,⟨m1,rfl⟩⟩:=hrel
  cases gk with
  | zero=>exact absurd HA.out (by simp [aR.l0])
  | succ k1 =>
   have H:=HA.out
   clear HA
   simp only [aR.l0] at H
   replace H:=zbm H
   obtain ⟨⟨t143,aaM⟩,Ua,H⟩:=H
   replace H:(if aaM = true then (if t143 = 0 then (if jg < 0 then (if eG.size + 1 ≤ 9223372036854775807 then (some (eG ++ (⟨#[0]⟩:ByteArray),wrap64 (dP + 1),0)) else (none)) else (if eG.size + 1 ≤ 9223372036854775807 then (some (eG ++ (⟨#[0]⟩:ByteArray),jg,0)) else (none))) else (if t143 ≥ 192 then ((av.f k1 a0 dP 2).bind fun j6=>(if j6.2 = true then (if (wrap64 (j6.1 - 49152)) ≥ oN then ((aQ.f 3).bind fun kJ=>(some (kJ.1,kJ.2.1,kJ.2.2))) else (if jg < 0 then (aR.l0 k1 a0 (wrap64 (j6.1 - 49152)) eG (wrap64 (dP + 2)) (wrap64 (j6.1 - 49152))) else (aR.l0 k1 a0 (wrap64 (j6.1 - 49152)) eG jg (wrap64 (j6.1 - 49152))))) else ((aQ.f 2).bind fun kK=>(some (kK.1,kK.2.1,kK.2.2))))) else (if t143 > 63 then ((aQ.f 3).bind fun qj=>(some (qj.1,qj.2.1,qj.2.2))) else ((bB.f a0 dP (wrap64 (t143 + 1))).bind fun nH=>(if nH.2 = true then (if eG.size + nH.1.size ≤ 9223372036854775807 then (if (wrap64 (((eG ++ nH.1).size:Int) + 1)) > 255 then ((aQ.f 3).bind fun kL=>(some (kL.1,kL.2.1,kL.2.2))) else (aR.l0 k1 a0 (wrap64 ((wrap64 (dP + t143)) + 1)) (eG ++ nH.1) jg oN)) else (none)) else ((aQ.f 2).bind fun kM=>(some (kM.1,kM.2.1,kM.2.2)))))))) else ((aQ.f 2).bind fun ql=>(some (ql.1,ql.2.1,ql.2.2)))) = some (r1,r2,r3):=H
   have A3:=aj.mk Ua
   clear Ua
   by_cases c4:aaM = true
   ·subst c4
    have H1:(if t143 = 0 then (if jg < 0 then (if eG.size + 1 ≤ 9223372036854775807 then (some (eG ++ (⟨#[0]⟩:ByteArray),wrap64 (dP + 1),0)) else (none)) else (if eG.size + 1 ≤ 9223372036854775807 then (some (eG ++ (⟨#[0]⟩:ByteArray),jg,0)) else (none))) else (if t143 ≥ 192 then ((av.f k1 a0 dP 2).bind fun j6=>(if j6.2 = true then (if (wrap64 (j6.1 - 49152)) ≥ oN then ((aQ.f 3).bind fun kJ=>(some (kJ.1,kJ.2.1,kJ.2.2))) else (if jg < 0 then (aR.l0 k1 a0 (wrap64 (j6.1 - 49152)) eG (wrap64 (dP + 2)) (wrap64 (j6.1 - 49152))) else (aR.l0 k1 a0 (wrap64 (j6.1 - 49152)) eG jg (wrap64 (j6.1 - 49152))))) else ((aQ.f 2).bind fun kK=>(some (kK.1,kK.2.1,kK.2.2))))) else (if t143 > 63 then ((aQ.f 3).bind fun qj=>(some (qj.1,qj.2.1,qj.2.2))) else ((bB.f a0 dP (wrap64 (t143 + 1))).bind fun nH=>(if nH.2 = true then (if eG.size + nH.1.size ≤ 9223372036854775807 then (if (wrap64 (((eG ++ nH.1).size:Int) + 1)) > 255 then ((aQ.f 3).bind fun kL=>(some (kL.1,kL.2.1,kL.2.2))) else (aR.l0 k1 a0 (wrap64 ((wrap64 (dP + t143)) + 1)) (eG ++ nH.1) jg oN)) else (none)) else ((aQ.f 2).bind fun kM=>(some (kM.1,kM.2.1,kM.2.2)))))))) = some (r1,r2,r3):=by rw [if_pos rfl] at H;exact H
    clear H
    have H:=H1
    clear H1
    by_cases c5:t143 = 0
    ·rw [if_pos c5] at H
     have qg:(t143 == 0) = true:=beq_iff_eq.mpr c5
     have vJ:(t143 != 0) = false:=bne_eq_false_iff_eq.mpr c5
     clear c5
     by_cases c6:jg < 0
     ·rw [if_pos c6] at H
      have Ab:decide (jg < 0) = true:=decide_eq_true c6
      clear c6
      by_cases c7:eG.size + 1 ≤ 9223372036854775807
      ·rw [if_pos c7] at H
       have wX:=eq_true c7
       have QK:decide (eG.size + 1 ≤ 9223372036854775807) = true:=decide_eq_true c7
       try have QL:(9223372036854775807 < eG.size + 1) = False:=eq_false (Nat.not_lt.2 c7)
       simp only [Option.some.injEq,Prod.mk.injEq] at H
       obtain ⟨rfl,rfl,rfl⟩:=H
       go_wp2_with (first | ((with_reducible refine aU (f:=77) rfl ?_);refine bP (some 20) rfl rfl Try.func77 (by kernel_rfl) rfl #[.string a0,.int .i64 dP,.int .i64 1] rfl (by (try simp only [List.map_toArray,List.map_cons,List.map_nil]);first | done | rfl | (simp only [List.length_drop,List.length_take];rfl) | (simp only [ByteArray.size_append,Int.natCast_add];rfl) | (rw [B.dX] <;> first | rfl | omega | (simp only [decide_eq_false_iff_not,decide_eq_true_eq,Int.not_lt,Nat.not_lt,gt_iff_lt] at * <;> omega))) ?_;(with_reducible refine (av.calls k1 a0 dP 1 t143 true _ A3.out).mono ?_);rintro e w' ⟨rfl,⟨nd,rfl⟩⟩;refine ⟨_,rfl,?_⟩))
       go_ret3
       exact ⟨by first | rfl | (simp;done) | (simp [*];done),by repeat (first | exact aW.refl _ | apply aW.step)⟩
      ·rw [if_neg c7] at H
       exact absurd H (by simp)
     ·rw [if_neg c6] at H
      have Ab:decide (jg < 0) = false:=decide_eq_false c6
      clear c6
      by_cases c8:eG.size + 1 ≤ 9223372036854775807
      ·rw [if_pos c8] at H
       have vG:=eq_true c8
       have vH:decide (eG.size + 1 ≤ 9223372036854775807) = true:=decide_eq_true c8
       try have NI:(9223372036854775807 < eG.size + 1) = False:=eq_false (Nat.not_lt.2 c8)
       simp only [Option.some.injEq,Prod.mk.injEq] at H
       obtain ⟨rfl,rfl,rfl⟩:=H
       go_wp2_with (first | ((with_reducible refine aU (f:=77) rfl ?_);refine bP (some 20) rfl rfl Try.func77 (by kernel_rfl) rfl #[.string a0,.int .i64 dP,.int .i64 1] rfl (by (try simp only [List.map_toArray,List.map_cons,List.map_nil]);first | done | rfl | (simp only [List.length_drop,List.length_take];rfl) | (simp only [ByteArray.size_append,Int.natCast_add];rfl) | (rw [B.dX] <;> first | rfl | omega | (simp only [decide_eq_false_iff_not,decide_eq_true_eq,Int.not_lt,Nat.not_lt,gt_iff_lt] at * <;> omega))) ?_;(with_reducible refine (av.calls k1 a0 dP 1 t143 true _ A3.out).mono ?_);rintro e w' ⟨rfl,⟨nd,rfl⟩⟩;refine ⟨_,rfl,?_⟩))
       go_ret3
       exact ⟨by first | rfl | (simp;done) | (simp [*];done),by repeat (first | exact aW.refl _ | apply aW.step)⟩
      ·rw [if_neg c8] at H
       exact absurd H (by simp)
    ·rw [if_neg c5] at H
     have qg:(t143 == 0) = false:=beq_eq_false_iff_ne.mpr c5
     have vJ:(t143 != 0) = true:=bne_iff_ne.mpr c5
     by_cases c9:t143 ≥ 192
     ·rw [if_pos c9] at H
      have uy:decide (192 ≤ t143) = true:=decide_eq_true c9
      clear c9
      replace H:=zbm H
      obtain ⟨⟨t148,aaN⟩,NS,H⟩:=H
      replace H:(if aaN = true then (if (wrap64 (t148 - 49152)) ≥ oN then ((aQ.f 3).bind fun kJ=>(some (kJ.1,kJ.2.1,kJ.2.2))) else (if jg < 0 then (aR.l0 k1 a0 (wrap64 (t148 - 49152)) eG (wrap64 (dP + 2)) (wrap64 (t148 - 49152))) else (aR.l0 k1 a0 (wrap64 (t148 - 49152)) eG jg (wrap64 (t148 - 49152))))) else ((aQ.f 2).bind fun kK=>(some (kK.1,kK.2.1,kK.2.2)))) = some (r1,r2,r3):=H
      have Ub:=aj.mk NS
      clear NS
      by_cases c11:aaN = true
      ·subst c11
       have H1:(if (wrap64 (t148 - 49152)) ≥ oN then ((aQ.f 3).bind fun kJ=>(some (kJ.1,kJ.2.1,kJ.2.2))) else (if jg < 0 then (aR.l0 k1 a0 (wrap64 (t148 - 49152)) eG (wrap64 (dP + 2)) (wrap64 (t148 - 49152))) else (aR.l0 k1 a0 (wrap64 (t148 - 49152)) eG jg (wrap64 (t148 - 49152))))) = some (r1,r2,r3):=by rw [if_pos rfl] at H;exact H
       clear H
       have H:=H1
       clear H1
       by_cases c12:(wrap64 (t148 - 49152)) ≥ oN
       ·rw [if_pos c12] at H
        have uz:decide (oN ≤ (wrap64 (t148 - 49152))) = true:=decide_eq_true c12
        (try (have uD:decide (oN ≤ ((t148 - 49152))) = true:=by have h_:decide (oN ≤ (wrap64 (t148 - 49152))) = true:=decide_eq_true c12;rw [B.dX (by omega) (by omega)] at h_;exact h_))
        clear c12
        replace H:=zbm H
        obtain ⟨⟨aaO,t154,aaP⟩,aaQ,H⟩:=H
        replace H:(some (aaO,t154,aaP)) = some (r1,r2,r3):=H
        have A13:=aj.mk aaQ
        clear aaQ
        simp only [Option.some.injEq,Prod.mk.injEq] at H
        obtain ⟨rfl,rfl,rfl⟩:=H
        go_wp2_with (first | ((with_reducible refine aU (f:=77) rfl ?_);refine bP (some 20) rfl rfl Try.func77 (by kernel_rfl) rfl #[.string a0,.int .i64 dP,.int .i64 1] rfl (by (try simp only [List.map_toArray,List.map_cons,List.map_nil]);first | done | rfl | (simp only [List.length_drop,List.length_take];rfl) | (simp only [ByteArray.size_append,Int.natCast_add];rfl) | (rw [B.dX] <;> first | rfl | omega | (simp only [decide_eq_false_iff_not,decide_eq_true_eq,Int.not_lt,Nat.not_lt,gt_iff_lt] at * <;> omega))) ?_;(with_reducible refine (av.calls k1 a0 dP 1 t143 true _ A3.out).mono ?_);rintro e w' ⟨rfl,⟨nd,rfl⟩⟩;refine ⟨_,rfl,?_⟩) | ((with_reducible refine aU (f:=77) rfl ?_);refine bP (some 43) rfl rfl Try.func77 (by kernel_rfl) rfl #[.string a0,.int .i64 dP,.int .i64 2] rfl (by (try simp only [List.map_toArray,List.map_cons,List.map_nil]);first | done | rfl | (simp only [List.length_drop,List.length_take];rfl) | (simp only [ByteArray.size_append,Int.natCast_add];rfl) | (rw [B.dX] <;> first | rfl | omega | (simp only [decide_eq_false_iff_not,decide_eq_true_eq,Int.not_lt,Nat.not_lt,gt_iff_lt] at * <;> omega))) ?_;(with_reducible refine (av.calls k1 a0 dP 2 t148 true _ Ub.out).mono ?_);rintro e w' ⟨rfl,⟨nd,rfl⟩⟩;refine ⟨_,rfl,?_⟩) | ((with_reducible refine aU (f:=78) rfl ?_);refine bP (some 56) rfl rfl Try.func78 (by kernel_rfl) rfl #[.int .i64 3] rfl (by (try simp only [List.map_toArray,List.map_cons,List.map_nil]);first | done | rfl | (simp only [List.length_drop,List.length_take];rfl) | (simp only [ByteArray.size_append,Int.natCast_add];rfl) | (rw [B.dX] <;> first | rfl | omega | (simp only [decide_eq_false_iff_not,decide_eq_true_eq,Int.not_lt,Nat.not_lt,gt_iff_lt] at * <;> omega))) ?_;(with_reducible refine (aQ.calls 3 aaO t154 aaP _ A13.out).mono ?_);rintro e w' ⟨rfl,⟨nd,rfl⟩⟩;refine ⟨_,rfl,?_⟩))
        go_ret3
        exact ⟨by first | rfl | (simp;done) | (simp [*];done),by repeat (first | exact aW.refl _ | apply aW.step)⟩
       ·rw [if_neg c12] at H
        have uz:decide (oN ≤ (wrap64 (t148 - 49152))) = false:=decide_eq_false c12
        (try (have uD:decide (oN ≤ ((t148 - 49152))) = false:=by have h_:decide (oN ≤ (wrap64 (t148 - 49152))) = false:=decide_eq_false c12;rw [B.dX (by omega) (by omega)] at h_;exact h_))
        clear c12
        by_cases c14:jg < 0
        ·rw [if_pos c14] at H
         have IG:decide (jg < 0) = true:=decide_eq_true c14
         clear c14
         have H':=aj.mk H
         clear H
         go_wp2_with (first | ((with_reducible refine aU (f:=77) rfl ?_);refine bP (some 20) rfl rfl Try.func77 (by kernel_rfl) rfl #[.string a0,.int .i64 dP,.int .i64 1] rfl (by (try simp only [List.map_toArray,List.map_cons,List.map_nil]);first | done | rfl | (simp only [List.length_drop,List.length_take];rfl) | (simp only [ByteArray.size_append,Int.natCast_add];rfl) | (rw [B.dX] <;> first | rfl | omega | (simp only [decide_eq_false_iff_not,decide_eq_true_eq,Int.not_lt,Nat.not_lt,gt_iff_lt] at * <;> omega))) ?_;(with_reducible refine (av.calls k1 a0 dP 1 t143 true _ A3.out).mono ?_);rintro e w' ⟨rfl,⟨nd,rfl⟩⟩;refine ⟨_,rfl,?_⟩) | ((with_reducible refine aU (f:=77) rfl ?_);refine bP (some 43) rfl rfl Try.func77 (by kernel_rfl) rfl #[.string a0,.int .i64 dP,.int .i64 2] rfl (by (try simp only [List.map_toArray,List.map_cons,List.map_nil]);first | done | rfl | (simp only [List.length_drop,List.length_take];rfl) | (simp only [ByteArray.size_append,Int.natCast_add];rfl) | (rw [B.dX] <;> first | rfl | omega | (simp only [decide_eq_false_iff_not,decide_eq_true_eq,Int.not_lt,Nat.not_lt,gt_iff_lt] at * <;> omega))) ?_;(with_reducible refine (av.calls k1 a0 dP 2 t148 true _ Ub.out).mono ?_);rintro e w' ⟨rfl,⟨nd,rfl⟩⟩;refine ⟨_,rfl,?_⟩))
         go_roundg k1
         case measure=>have:=wB.out;omega
         case rel=>exact ⟨(wrap64 (t148 - 49152)),(eG),(wrap64 (dP + 2)),(wrap64 (t148 - 49152)),(by first | rfl | (simp;done) | (simp [*];done) | (simp [B.aX];done) | (simp [B.aY];done)),(by first | rfl | (simp;done) | (simp [*];done) | (simp [B.aX];done) | (simp [B.aY];done)),(by first | rfl | (simp;done) | (simp [*];done) | (simp [B.aX];done) | (simp [B.aY];done)),(by first | rfl | (simp;done) | (simp [*];done) | (simp [B.aX];done) | (simp [B.aY];done)),H',⟨by have:=wB.out;omega⟩,by repeat (first | exact aW.refl _ | apply aW.step)⟩
        ·rw [if_neg c14] at H
         have IG:decide (jg < 0) = false:=decide_eq_false c14
         clear c14
         have H':=aj.mk H
         clear H
         go_wp2_with (first | ((with_reducible refine aU (f:=77) rfl ?_);refine bP (some 20) rfl rfl Try.func77 (by kernel_rfl) rfl #[.string a0,.int .i64 dP,.int .i64 1] rfl (by (try simp only [List.map_toArray,List.map_cons,List.map_nil]);first | done | rfl | (simp only [List.length_drop,List.length_take];rfl) | (simp only [ByteArray.size_append,Int.natCast_add];rfl) | (rw [B.dX] <;> first | rfl | omega | (simp only [decide_eq_false_iff_not,decide_eq_true_eq,Int.not_lt,Nat.not_lt,gt_iff_lt] at * <;> omega))) ?_;(with_reducible refine (av.calls k1 a0 dP 1 t143 true _ A3.out).mono ?_);rintro e w' ⟨rfl,⟨nd,rfl⟩⟩;refine ⟨_,rfl,?_⟩) | ((with_reducible refine aU (f:=77) rfl ?_);refine bP (some 43) rfl rfl Try.func77 (by kernel_rfl) rfl #[.string a0,.int .i64 dP,.int .i64 2] rfl (by (try simp only [List.map_toArray,List.map_cons,List.map_nil]);first | done | rfl | (simp only [List.length_drop,List.length_take];rfl) | (simp only [ByteArray.size_append,Int.natCast_add];rfl) | (rw [B.dX] <;> first | rfl | omega | (simp only [decide_eq_false_iff_not,decide_eq_true_eq,Int.not_lt,Nat.not_lt,gt_iff_lt] at * <;> omega))) ?_;(with_reducible refine (av.calls k1 a0 dP 2 t148 true _ Ub.out).mono ?_);rintro e w' ⟨rfl,⟨nd,rfl⟩⟩;refine ⟨_,rfl,?_⟩))
         go_roundg k1
         case measure=>have:=wB.out;omega
         case rel=>exact ⟨(wrap64 (t148 - 49152)),(eG),(jg),(wrap64 (t148 - 49152)),(by first | rfl | (simp;done) | (simp [*];done) | (simp [B.aX];done) | (simp [B.aY];done)),(by first | rfl | (simp;done) | (simp [*];done) | (simp [B.aX];done) | (simp [B.aY];done)),(by first | rfl | (simp;done) | (simp [*];done) | (simp [B.aX];done) | (simp [B.aY];done)),(by first | rfl | (simp;done) | (simp [*];done) | (simp [B.aX];done) | (simp [B.aY];done)),H',⟨by have:=wB.out;omega⟩,by repeat (first | exact aW.refl _ | apply aW.step)⟩
      ·replace c11:=Bool.eq_false_iff.mpr c11
       subst c11
       have H1:((aQ.f 2).bind fun kK=>(some (kK.1,kK.2.1,kK.2.2))) = some (r1,r2,r3):=by rw [if_neg (show ¬ (false = true) by decide)] at H;exact H
       clear H
       have H:=H1
       clear H1
       replace H:=zbm H
       obtain ⟨⟨aaR,aaS,t152⟩,aaT,H⟩:=H
       replace H:(some (aaR,aaS,t152)) = some (r1,r2,r3):=H
       have A15:=aj.mk aaT
       clear aaT
       simp only [Option.some.injEq,Prod.mk.injEq] at H
       obtain ⟨rfl,rfl,rfl⟩:=H
       go_wp2_with (first | ((with_reducible refine aU (f:=77) rfl ?_);refine bP (some 20) rfl rfl Try.func77 (by kernel_rfl) rfl #[.string a0,.int .i64 dP,.int .i64 1] rfl (by (try simp only [List.map_toArray,List.map_cons,List.map_nil]);first | done | rfl | (simp only [List.length_drop,List.length_take];rfl) | (simp only [ByteArray.size_append,Int.natCast_add];rfl) | (rw [B.dX] <;> first | rfl | omega | (simp only [decide_eq_false_iff_not,decide_eq_true_eq,Int.not_lt,Nat.not_lt,gt_iff_lt] at * <;> omega))) ?_;(with_reducible refine (av.calls k1 a0 dP 1 t143 true _ A3.out).mono ?_);rintro e w' ⟨rfl,⟨nd,rfl⟩⟩;refine ⟨_,rfl,?_⟩) | ((with_reducible refine aU (f:=77) rfl ?_);refine bP (some 43) rfl rfl Try.func77 (by kernel_rfl) rfl #[.string a0,.int .i64 dP,.int .i64 2] rfl (by (try simp only [List.map_toArray,List.map_cons,List.map_nil]);first | done | rfl | (simp only [List.length_drop,List.length_take];rfl) | (simp only [ByteArray.size_append,Int.natCast_add];rfl) | (rw [B.dX] <;> first | rfl | omega | (simp only [decide_eq_false_iff_not,decide_eq_true_eq,Int.not_lt,Nat.not_lt,gt_iff_lt] at * <;> omega))) ?_;(with_reducible refine (av.calls k1 a0 dP 2 t148 false _ Ub.out).mono ?_);rintro e w' ⟨rfl,⟨nd,rfl⟩⟩;refine ⟨_,rfl,?_⟩) | ((with_reducible refine aU (f:=78) rfl ?_);refine bP (some 48) rfl rfl Try.func78 (by kernel_rfl) rfl #[.int .i64 2] rfl (by (try simp only [List.map_toArray,List.map_cons,List.map_nil]);first | done | rfl | (simp only [List.length_drop,List.length_take];rfl) | (simp only [ByteArray.size_append,Int.natCast_add];rfl) | (rw [B.dX] <;> first | rfl | omega | (simp only [decide_eq_false_iff_not,decide_eq_true_eq,Int.not_lt,Nat.not_lt,gt_iff_lt] at * <;> omega))) ?_;(with_reducible refine (aQ.calls 2 aaR aaS t152 _ A15.out).mono ?_);rintro e w' ⟨rfl,⟨nd,rfl⟩⟩;refine ⟨_,rfl,?_⟩))
       go_ret3
       exact ⟨by first | rfl | (simp;done) | (simp [*];done),by repeat (first | exact aW.refl _ | apply aW.step)⟩
     ·rw [if_neg c9] at H
      have uy:decide (192 ≤ t143) = false:=decide_eq_false c9
      clear c9
      by_cases c16:t143 > 63
      ·rw [if_pos c16] at H
       have IC:decide (63 < t143) = true:=decide_eq_true c16
       clear c16
       replace H:=zbm H
       obtain ⟨⟨t156,t157,aaU⟩,aaV,H⟩:=H
       replace H:(some (t156,t157,aaU)) = some (r1,r2,r3):=H
       have A17:=aj.mk aaV
       clear aaV
       simp only [Option.some.injEq,Prod.mk.injEq] at H
       obtain ⟨rfl,rfl,rfl⟩:=H
       go_wp2_with (first | ((with_reducible refine aU (f:=77) rfl ?_);refine bP (some 20) rfl rfl Try.func77 (by kernel_rfl) rfl #[.string a0,.int .i64 dP,.int .i64 1] rfl (by (try simp only [List.map_toArray,List.map_cons,List.map_nil]);first | done | rfl | (simp only [List.length_drop,List.length_take];rfl) | (simp only [ByteArray.size_append,Int.natCast_add];rfl) | (rw [B.dX] <;> first | rfl | omega | (simp only [decide_eq_false_iff_not,decide_eq_true_eq,Int.not_lt,Nat.not_lt,gt_iff_lt] at * <;> omega))) ?_;(with_reducible refine (av.calls k1 a0 dP 1 t143 true _ A3.out).mono ?_);rintro e w' ⟨rfl,⟨nd,rfl⟩⟩;refine ⟨_,rfl,?_⟩) | ((with_reducible refine aU (f:=78) rfl ?_);refine bP (some 69) rfl rfl Try.func78 (by kernel_rfl) rfl #[.int .i64 3] rfl (by (try simp only [List.map_toArray,List.map_cons,List.map_nil]);first | done | rfl | (simp only [List.length_drop,List.length_take];rfl) | (simp only [ByteArray.size_append,Int.natCast_add];rfl) | (rw [B.dX] <;> first | rfl | omega | (simp only [decide_eq_false_iff_not,decide_eq_true_eq,Int.not_lt,Nat.not_lt,gt_iff_lt] at * <;> omega))) ?_;(with_reducible refine (aQ.calls 3 t156 t157 aaU _ A17.out).mono ?_);rintro e w' ⟨rfl,⟨nd,rfl⟩⟩;refine ⟨_,rfl,?_⟩))
       go_ret3
       exact ⟨by first | rfl | (simp;done) | (simp [*];done),by repeat (first | exact aW.refl _ | apply aW.step)⟩
      ·rw [if_neg c16] at H
       have IC:decide (63 < t143) = false:=decide_eq_false c16
       clear c16
       replace H:=zbm H
       obtain ⟨⟨t159,t160⟩,NT,H⟩:=H
       replace H:(if t160 = true then (if eG.size + t159.size ≤ 9223372036854775807 then (if (wrap64 (((eG ++ t159).size:Int) + 1)) > 255 then ((aQ.f 3).bind fun kL=>(some (kL.1,kL.2.1,kL.2.2))) else (aR.l0 k1 a0 (wrap64 ((wrap64 (dP + t143)) + 1)) (eG ++ t159) jg oN)) else (none)) else ((aQ.f 2).bind fun kM=>(some (kM.1,kM.2.1,kM.2.2)))) = some (r1,r2,r3):=H
       have WK:=aj.mk NT
       clear NT
       by_cases c19:t160 = true
       ·subst c19
        have H1:(if eG.size + t159.size ≤ 9223372036854775807 then (if (wrap64 (((eG ++ t159).size:Int) + 1)) > 255 then ((aQ.f 3).bind fun kL=>(some (kL.1,kL.2.1,kL.2.2))) else (aR.l0 k1 a0 (wrap64 ((wrap64 (dP + t143)) + 1)) (eG ++ t159) jg oN)) else (none)) = some (r1,r2,r3):=by rw [if_pos rfl] at H;exact H
        clear H
        have H:=H1
        clear H1
        by_cases c20:eG.size + t159.size ≤ 9223372036854775807
        ·rw [if_pos c20] at H
         have Uc:=eq_true c20
         have ahj:decide (eG.size + t159.size ≤ 9223372036854775807) = true:=decide_eq_true c20
         try have ahk:(9223372036854775807 < eG.size + t159.size) = False:=eq_false (Nat.not_lt.2 c20)
         by_cases c21:(wrap64 (((eG ++ t159).size:Int) + 1)) > 255
         ·rw [if_pos c21] at H
          have aaW:decide (255 < (wrap64 (((eG ++ t159).size:Int) + 1))) = true:=decide_eq_true c21
          (try (have aaX:decide (255 < (wrap64 (((eG.size:Int) + (t159.size:Int)) + 1))) = true:=by have h_:decide (255 < (wrap64 (((eG ++ t159).size:Int) + 1))) = true:=decide_eq_true c21;rw [show ((eG ++ t159).size:Int) = ((eG.size:Int) + (t159.size:Int)) from by (simp only [ByteArray.size_append,Int.natCast_add];first | done | rfl)] at h_;(first | exact h_ | (simp only [Int.add_sub_cancel] at h_;exact h_))))
          (try (have aaY:decide (255 < ((((eG ++ t159).size:Int) + 1))) = true:=by have h_:decide (255 < (wrap64 (((eG ++ t159).size:Int) + 1))) = true:=decide_eq_true c21;rw [B.dX (by omega) (by omega)] at h_;exact h_))
          (try (have aaZ:decide (255 < ((((eG.size:Int) + (t159.size:Int)) + 1))) = true:=by have h_:decide (255 < (wrap64 (((eG.size:Int) + (t159.size:Int)) + 1))) = true:=by have h_:decide (255 < (wrap64 (((eG ++ t159).size:Int) + 1))) = true:=decide_eq_true c21;rw [show ((eG ++ t159).size:Int) = ((eG.size:Int) + (t159.size:Int)) from by (simp only [ByteArray.size_append,Int.natCast_add];first | done | rfl)] at h_;(first | exact h_ | (simp only [Int.add_sub_cancel] at h_;exact h_));rw [B.dX (by omega) (by omega)] at h_;exact h_))
          clear c21
          replace H:=zbm H
          obtain ⟨⟨aa0,t162,aa1⟩,aa2,H⟩:=H
          replace H:(some (aa0,t162,aa1)) = some (r1,r2,r3):=H
          have A22:=aj.mk aa2
          clear aa2
          simp only [Option.some.injEq,Prod.mk.injEq] at H
          obtain ⟨rfl,rfl,rfl⟩:=H
          go_wp2_with (first | ((with_reducible refine aU (f:=77) rfl ?_);refine bP (some 20) rfl rfl Try.func77 (by kernel_rfl) rfl #[.string a0,.int .i64 dP,.int .i64 1] rfl (by (try simp only [List.map_toArray,List.map_cons,List.map_nil]);first | done | rfl | (simp only [List.length_drop,List.length_take];rfl) | (simp only [ByteArray.size_append,Int.natCast_add];rfl) | (rw [B.dX] <;> first | rfl | omega | (simp only [decide_eq_false_iff_not,decide_eq_true_eq,Int.not_lt,Nat.not_lt,gt_iff_lt] at * <;> omega))) ?_;(with_reducible refine (av.calls k1 a0 dP 1 t143 true _ A3.out).mono ?_);rintro e w' ⟨rfl,⟨nd,rfl⟩⟩;refine ⟨_,rfl,?_⟩) | ((with_reducible refine aU (f:=79) rfl ?_);refine bP (some 78) rfl rfl Try.func79 (by kernel_rfl) rfl #[.string a0,.int .i64 dP,.int .i64 (wrap64 (t143 + 1))] rfl (by (try simp only [List.map_toArray,List.map_cons,List.map_nil]);first | done | rfl | (simp only [List.length_drop,List.length_take];rfl) | (simp only [ByteArray.size_append,Int.natCast_add];rfl) | (rw [B.dX] <;> first | rfl | omega | (simp only [decide_eq_false_iff_not,decide_eq_true_eq,Int.not_lt,Nat.not_lt,gt_iff_lt] at * <;> omega))) ?_;(with_reducible refine (bB.calls a0 dP (wrap64 (t143 + 1)) t159 true _ WK.out).mono ?_);rintro e w' ⟨rfl,⟨nd,rfl⟩⟩;refine ⟨_,rfl,?_⟩) | ((with_reducible refine aU (f:=78) rfl ?_);refine bP (some 94) rfl rfl Try.func78 (by kernel_rfl) rfl #[.int .i64 3] rfl (by (try simp only [List.map_toArray,List.map_cons,List.map_nil]);first | done | rfl | (simp only [List.length_drop,List.length_take];rfl) | (simp only [ByteArray.size_append,Int.natCast_add];rfl) | (rw [B.dX] <;> first | rfl | omega | (simp only [decide_eq_false_iff_not,decide_eq_true_eq,Int.not_lt,Nat.not_lt,gt_iff_lt] at * <;> omega))) ?_;(with_reducible refine (aQ.calls 3 aa0 t162 aa1 _ A22.out).mono ?_);rintro e w' ⟨rfl,⟨nd,rfl⟩⟩;refine ⟨_,rfl,?_⟩))
          go_ret3
          exact ⟨by first | rfl | (simp;done) | (simp [*];done),by repeat (first | exact aW.refl _ | apply aW.step)⟩
         ·rw [if_neg c21] at H
          have aaW:decide (255 < (wrap64 (((eG ++ t159).size:Int) + 1))) = false:=decide_eq_false c21
          (try (have aaX:decide (255 < (wrap64 (((eG.size:Int) + (t159.size:Int)) + 1))) = false:=by have h_:decide (255 < (wrap64 (((eG ++ t159).size:Int) + 1))) = false:=decide_eq_false c21;rw [show ((eG ++ t159).size:Int) = ((eG.size:Int) + (t159.size:Int)) from by (simp only [ByteArray.size_append,Int.natCast_add];first | done | rfl)] at h_;(first | exact h_ | (simp only [Int.add_sub_cancel] at h_;exact h_))))
          (try (have aaY:decide (255 < ((((eG ++ t159).size:Int) + 1))) = false:=by have h_:decide (255 < (wrap64 (((eG ++ t159).size:Int) + 1))) = false:=decide_eq_false c21;rw [B.dX (by omega) (by omega)] at h_;exact h_))
          (try (have aaZ:decide (255 < ((((eG.size:Int) + (t159.size:Int)) + 1))) = false:=by have h_:decide (255 < (wrap64 (((eG.size:Int) + (t159.size:Int)) + 1))) = false:=by have h_:decide (255 < (wrap64 (((eG ++ t159).size:Int) + 1))) = false:=decide_eq_false c21;rw [show ((eG ++ t159).size:Int) = ((eG.size:Int) + (t159.size:Int)) from by (simp only [ByteArray.size_append,Int.natCast_add];first | done | rfl)] at h_;(first | exact h_ | (simp only [Int.add_sub_cancel] at h_;exact h_));rw [B.dX (by omega) (by omega)] at h_;exact h_))
          clear c21
          have H':=aj.mk H
          clear H
          go_wp2_with (first | ((with_reducible refine aU (f:=77) rfl ?_);refine bP (some 20) rfl rfl Try.func77 (by kernel_rfl) rfl #[.string a0,.int .i64 dP,.int .i64 1] rfl (by (try simp only [List.map_toArray,List.map_cons,List.map_nil]);first | done | rfl | (simp only [List.length_drop,List.length_take];rfl) | (simp only [ByteArray.size_append,Int.natCast_add];rfl) | (rw [B.dX] <;> first | rfl | omega | (simp only [decide_eq_false_iff_not,decide_eq_true_eq,Int.not_lt,Nat.not_lt,gt_iff_lt] at * <;> omega))) ?_;(with_reducible refine (av.calls k1 a0 dP 1 t143 true _ A3.out).mono ?_);rintro e w' ⟨rfl,⟨nd,rfl⟩⟩;refine ⟨_,rfl,?_⟩) | ((with_reducible refine aU (f:=79) rfl ?_);refine bP (some 78) rfl rfl Try.func79 (by kernel_rfl) rfl #[.string a0,.int .i64 dP,.int .i64 (wrap64 (t143 + 1))] rfl (by (try simp only [List.map_toArray,List.map_cons,List.map_nil]);first | done | rfl | (simp only [List.length_drop,List.length_take];rfl) | (simp only [ByteArray.size_append,Int.natCast_add];rfl) | (rw [B.dX] <;> first | rfl | omega | (simp only [decide_eq_false_iff_not,decide_eq_true_eq,Int.not_lt,Nat.not_lt,gt_iff_lt] at * <;> omega))) ?_;(with_reducible refine (bB.calls a0 dP (wrap64 (t143 + 1)) t159 true _ WK.out).mono ?_);rintro e w' ⟨rfl,⟨nd,rfl⟩⟩;refine ⟨_,rfl,?_⟩))
          go_roundg k1
          case measure=>have:=wB.out;omega
          case rel=>exact ⟨(wrap64 ((wrap64 (dP + t143)) + 1)),(eG ++ t159),(jg),(oN),(by first | rfl | (simp;done) | (simp [*];done) | (simp [B.aX];done) | (simp [B.aY];done)),(by first | rfl | (simp;done) | (simp [*];done) | (simp [B.aX];done) | (simp [B.aY];done)),(by first | rfl | (simp;done) | (simp [*];done) | (simp [B.aX];done) | (simp [B.aY];done)),(by first | rfl | (simp;done) | (simp [*];done) | (simp [B.aX];done) | (simp [B.aY];done)),H',⟨by have:=wB.out;omega⟩,by repeat (first | exact aW.refl _ | apply aW.step)⟩
        ·rw [if_neg c20] at H
         exact absurd H (by simp)
       ·replace c19:=Bool.eq_false_iff.mpr c19
        subst c19
        have H1:((aQ.f 2).bind fun kM=>(some (kM.1,kM.2.1,kM.2.2))) = some (r1,r2,r3):=by rw [if_neg (show ¬ (false = true) by decide)] at H;exact H
        clear H
        have H:=H1
        clear H1
        replace H:=zbm H
        obtain ⟨⟨t164,aa3,aa4⟩,aa5,H⟩:=H
        replace H:(some (t164,aa3,aa4)) = some (r1,r2,r3):=H
        have A23:=aj.mk aa5
        clear aa5
        simp only [Option.some.injEq,Prod.mk.injEq] at H
        obtain ⟨rfl,rfl,rfl⟩:=H
        go_wp2_with (first | ((with_reducible refine aU (f:=77) rfl ?_);refine bP (some 20) rfl rfl Try.func77 (by kernel_rfl) rfl #[.string a0,.int .i64 dP,.int .i64 1] rfl (by (try simp only [List.map_toArray,List.map_cons,List.map_nil]);first | done | rfl | (simp only [List.length_drop,List.length_take];rfl) | (simp only [ByteArray.size_append,Int.natCast_add];rfl) | (rw [B.dX] <;> first | rfl | omega | (simp only [decide_eq_false_iff_not,decide_eq_true_eq,Int.not_lt,Nat.not_lt,gt_iff_lt] at * <;> omega))) ?_;(with_reducible refine (av.calls k1 a0 dP 1 t143 true _ A3.out).mono ?_);rintro e w' ⟨rfl,⟨nd,rfl⟩⟩;refine ⟨_,rfl,?_⟩) | ((with_reducible refine aU (f:=79) rfl ?_);refine bP (some 78) rfl rfl Try.func79 (by kernel_rfl) rfl #[.string a0,.int .i64 dP,.int .i64 (wrap64 (t143 + 1))] rfl (by (try simp only [List.map_toArray,List.map_cons,List.map_nil]);first | done | rfl | (simp only [List.length_drop,List.length_take];rfl) | (simp only [ByteArray.size_append,Int.natCast_add];rfl) | (rw [B.dX] <;> first | rfl | omega | (simp only [decide_eq_false_iff_not,decide_eq_true_eq,Int.not_lt,Nat.not_lt,gt_iff_lt] at * <;> omega))) ?_;(with_reducible refine (bB.calls a0 dP (wrap64 (t143 + 1)) t159 false _ WK.out).mono ?_);rintro e w' ⟨rfl,⟨nd,rfl⟩⟩;refine ⟨_,rfl,?_⟩) | ((with_reducible refine aU (f:=78) rfl ?_);refine bP (some 83) rfl rfl Try.func78 (by kernel_rfl) rfl #[.int .i64 2] rfl (by (try simp only [List.map_toArray,List.map_cons,List.map_nil]);first | done | rfl | (simp only [List.length_drop,List.length_take];rfl) | (simp only [ByteArray.size_append,Int.natCast_add];rfl) | (rw [B.dX] <;> first | rfl | omega | (simp only [decide_eq_false_iff_not,decide_eq_true_eq,Int.not_lt,Nat.not_lt,gt_iff_lt] at * <;> omega))) ?_;(with_reducible refine (aQ.calls 2 t164 aa3 aa4 _ A23.out).mono ?_);rintro e w' ⟨rfl,⟨nd,rfl⟩⟩;refine ⟨_,rfl,?_⟩))
        go_ret3
        exact ⟨by first | rfl | (simp;done) | (simp [*];done),by repeat (first | exact aW.refl _ | apply aW.step)⟩
   ·replace c4:=Bool.eq_false_iff.mpr c4
    subst c4
    have H1:((aQ.f 2).bind fun ql=>(some (ql.1,ql.2.1,ql.2.2))) = some (r1,r2,r3):=by rw [if_neg (show ¬ (false = true) by decide)] at H;exact H
    clear H
    have H:=H1
    clear H1
    replace H:=zbm H
    obtain ⟨⟨t145,t146,aa6⟩,aa7,H⟩:=H
    replace H:(some (t145,t146,aa6)) = some (r1,r2,r3):=H
    have A24:=aj.mk aa7
    clear aa7
    simp only [Option.some.injEq,Prod.mk.injEq] at H
    obtain ⟨rfl,rfl,rfl⟩:=H
    go_wp2_with (first | ((with_reducible refine aU (f:=77) rfl ?_);refine bP (some 20) rfl rfl Try.func77 (by kernel_rfl) rfl #[.string a0,.int .i64 dP,.int .i64 1] rfl (by (try simp only [List.map_toArray,List.map_cons,List.map_nil]);first | done | rfl | (simp only [List.length_drop,List.length_take];rfl) | (simp only [ByteArray.size_append,Int.natCast_add];rfl) | (rw [B.dX] <;> first | rfl | omega | (simp only [decide_eq_false_iff_not,decide_eq_true_eq,Int.not_lt,Nat.not_lt,gt_iff_lt] at * <;> omega))) ?_;(with_reducible refine (av.calls k1 a0 dP 1 t143 false _ A3.out).mono ?_);rintro e w' ⟨rfl,⟨nd,rfl⟩⟩;refine ⟨_,rfl,?_⟩) | ((with_reducible refine aU (f:=78) rfl ?_);refine bP (some 25) rfl rfl Try.func78 (by kernel_rfl) rfl #[.int .i64 2] rfl (by (try simp only [List.map_toArray,List.map_cons,List.map_nil]);first | done | rfl | (simp only [List.length_drop,List.length_take];rfl) | (simp only [ByteArray.size_append,Int.natCast_add];rfl) | (rw [B.dX] <;> first | rfl | omega | (simp only [decide_eq_false_iff_not,decide_eq_true_eq,Int.not_lt,Nat.not_lt,gt_iff_lt] at * <;> omega))) ?_;(with_reducible refine (aQ.calls 2 t145 t146 aa6 _ A24.out).mono ?_);rintro e w' ⟨rfl,⟨nd,rfl⟩⟩;refine ⟨_,rfl,?_⟩))
    go_ret3
    exact ⟨by first | rfl | (simp;done) | (simp [*];done),by repeat (first | exact aW.refl _ | apply aW.step)⟩
end Go.Proofs.Ytfokaoeinpnagaa.ZQ
namespace Go.Proofs.Ytfokaoeinpnagaa.ZQ
open Go.RowKit Go.Proofs.YtfokaoeinpnagaaW.bE Go.Proofs.YtfokaoeinpnagaaW.dB Go.Proofs.YtfokaoeinpnagaaW.dU Go.Proofs.Ytfokaoeinpnagaa.B
theorem IL {msg:ByteArray} {i:Int} (h:192 ≤ bt msg i):49152 ≤ ig 2 msg i ∧ ig 2 msg i ≤ 65535:=by
 have h1:=gB msg i
 have h2:=gB msg (i + 1)
 simp [ig]
 omega
theorem afV (a b:Nat) (c:Int) (h:(b:Int) = 1 + c) (ha:a ≤ 254) (hb:c ≤ 63) (h0:0 ≤ c):wrap64 (((a + b:Nat):Int) + 1) = a + (1 + c) + 1:=by
 rw [dX (by omega) (by omega)];omega
set_option maxHeartbeats 4000000 in
theorem Kl (d:Nat):∀ (k:Nat) (msg:ByteArray) (i l n:Int) (t:ByteArray),l.toNat + (255 - t.size) < d → d + 10 ≤ k → msg.size ≤ 100000 → t.size ≤ 254 → (n = -1 ∨ 0 ≤ n) →
  ∃ R,bC.l k msg i l n t = some R ∧ aR.l0 k msg i t n l = some R:=by
 induction d with
 | zero=>intro k msg i l n t h;omega
 | succ d ih =>
  intro k msg i l n t hd hk hm ht hn
  obtain ⟨k,rfl⟩:∃ m,k = m + 1:=⟨k - 1,by omega⟩
  rw [bC.l,aR.l0,sw k (by omega) msg i 1 (by omega),sw k (by omega) msg i 2 (by omega)]
  simp only [Option.bind_some]
  by_cases g1:jN msg i 1
  ·have hr:=gB msg i
   have e1:ig (1:Int).toNat msg i = bt msg i:=ET msg i
   have hi0:=g1.1
   have hi1:=g1.2.2.2
   simp only [if_pos g1,e1,if_true]
   by_cases c0:bt msg i = 0
   ·simp only [if_pos c0]
    have z:t.size + 1 ≤ 9223372036854775807:=by omega
    simp only [if_pos z]
    rw [dX (n:=i + 1) (by omega) (by omega)]
    rcases hn with rfl | hn
    ·rw [if_pos (show (-1:Int) < 0 by omega),if_pos rfl];exact ⟨_,rfl,rfl⟩
    ·rw [if_neg (show ¬ n < 0 by omega),if_neg (show ¬ n = -1 by omega)];exact ⟨_,rfl,rfl⟩
   ·simp only [if_neg c0]
    by_cases c1:192 ≤ bt msg i
    ·have hg:=IL c1
     simp only [if_pos c1,if_pos (show bt msg i ≥ 192 from c1)]
     by_cases g2:jN msg i 2
     ·have e2:ig (2:Int).toNat msg i = ig 2 msg i:=rfl
      have hi2:=g2.2.2.2
      simp only [if_pos g2,e2,if_true]
      rw [dX (n:=ig 2 msg i - 49152) (by omega) (by omega),dX (n:=i + 2) (by omega) (by omega)]
      by_cases c2:ig 2 msg i - 49152 ≥ l
      ·rw [if_pos c2,if_pos c2]
       exact ⟨_,rfl,rfl⟩
      ·rw [if_neg c2,if_neg c2]
       rcases hn with rfl | hn
       ·rw [if_pos (show (-1:Int) < 0 by omega),if_pos rfl]
        exact ih k msg _ _ _ t (by omega) (by omega) hm ht (.inr (by omega))
       ·rw [if_neg (show ¬ n < 0 by omega),if_neg (show ¬ n = -1 by omega)]
        exact ih k msg _ _ _ t (by omega) (by omega) hm ht (.inr hn)
     ·simp only [if_neg g2,Bool.false_eq_true,if_false]
      exact ⟨_,rfl,rfl⟩
    ·simp only [if_neg c1,if_neg (show ¬ bt msg i ≥ 192 from c1)]
     by_cases c2:63 < bt msg i
     ·rw [if_pos c2,if_pos (show bt msg i > 63 from c2)]
      exact ⟨_,rfl,rfl⟩
     ·rw [if_neg c2,if_neg (show ¬ bt msg i > 63 from c2),dX (n:=bt msg i + 1) (by omega) (by omega),qh msg i _ (by omega),show bt msg i + 1 = 1 + bt msg i from by omega]
      simp only [Option.bind_some]
      by_cases g3:gJ msg i (1 + bt msg i)
      ·have hz:=size_ext g3.1 g3.2.1 g3.2.2
       simp only [if_pos g3,if_true]
       have hsz:t.size + (msg.extract i.toNat (i + (1 + bt msg i)).toNat).size ≤ 9223372036854775807:=by omega
       rw [if_pos hsz,ByteArray.size_append,afV _ _ _ hz ht (by omega) (by omega)]
       clear hsz
       by_cases c3:(t.size:Int) + (1 + bt msg i) ≥ 255
       ·rw [if_pos c3,if_pos (show (t.size:Int) + (1 + bt msg i) + 1 > 255 by omega)]
        exact ⟨_,rfl,rfl⟩
       ·have hb:=g3.2.2
        rw [if_neg c3,if_neg (show ¬ (t.size:Int) + (1 + bt msg i) + 1 > 255 by omega),dX (n:=i + bt msg i) (by omega) (by omega),dX (n:=i + bt msg i + 1) (by omega) (by omega),show i + bt msg i + 1 = i + (1 + bt msg i) from by omega]
        exact ih k msg _ _ _ _ (by rw [ByteArray.size_append];omega) (by omega) hm (by rw [ByteArray.size_append];omega) hn
      ·simp only [if_neg g3,Bool.false_eq_true,if_false]
       exact ⟨_,rfl,rfl⟩
  ·simp only [if_neg g1,Bool.false_eq_true,if_false]
   exact ⟨_,rfl,rfl⟩
theorem EU {k k':Nat} (hk:k ≤ k') {msg:ByteArray} {i:Int} {R:ByteArray × Int × Int} (h:bC.f k msg i = some R):bC.f k' msg i = some R:=vD (fun k=>bC.mono msg i k) hk h
def rounds (i:Int):Nat:=i.toNat + 300
theorem Bc (k:Nat) (msg:ByteArray) (i:Int) (hm:msg.size ≤ 100000) (hk:rounds i ≤ k):∃ R,bC.f k msg i = some R ∧ aR.f k msg i = some R:=by
 unfold rounds at hk
 obtain ⟨R,h1,h2⟩:=Kl (i.toNat + 256) k msg i i (-1) ⟨#[]⟩ (by rw [ED];omega) (by omega) hm (by decide) (.inl rfl)
 refine ⟨R,?_,h2⟩
 unfold bC.f
 rw [if_pos (by omega)]
 exact h1
def pre (t:ByteArray):Prop:=∃ ls,t = iD ls ∧ ∀ x ∈ ls,zJ x
theorem pre_nil : pre ⟨#[]⟩:=⟨[],rfl,by simp⟩
theorem NU {t x:ByteArray} (h:pre t) (hx:zJ x):pre (t ++ (sg x.size ++ x)):=by
 obtain ⟨ls,rfl,hok⟩:=h
 refine ⟨ls ++ [x],?_,?_⟩
 ·rw [EI];simp only [iD];rw [append_empty]
 ·intro y hy
  rcases List.mem_append.mp hy with hy | hy
  ·exact hok y hy
  ·rw [List.mem_singleton] at hy;subst hy;exact hx
theorem Km {msg:ByteArray} {i:Int} (h:gJ msg i (1 + bt msg i)) (h1:1 ≤ bt msg i) (h2:bt msg i ≤ 63):∃ x,zJ x ∧ msg.extract i.toNat (i + (1 + bt msg i)).toNat = sg x.size ++ x:=by
 obtain ⟨g0,g1,g2⟩:=h
 have hz:=size_ext g0 g1 g2
 refine ⟨msg.extract (i.toNat + 1) (i + (1 + bt msg i)).toNat,?_,?_⟩
 ·unfold zJ;rw [ByteArray.size_extract];omega
 ·have e:(msg.extract (i.toNat + 1) (i + (1 + bt msg i)).toNat).size = (bt msg i).toNat:=by rw [ByteArray.size_extract];omega
  rw [e]
  have h3:msg.extract i.toNat (i.toNat + 1) = sg ((bt msg i).toNat:Nat):=by
   refine CJ (by rw [jI,ByteArray.size_extract];omega) fun j j0 j1=>?_
   rw [ByteArray.size_extract] at j1
   have:j = 0:=by omega
   subst this
   rw [mP (by omega) (by rw [ByteArray.size_extract];omega),EH _ (by omega)]
   rw [show ((i.toNat:Nat):Int) + 0 = i from by omega]
   omega
  rw [← h3,ByteArray.extract_append_extract]
  congr 1 <;> omega
theorem Kn (k:Nat):∀ (msg:ByteArray) (a i l n:Int) (t:ByteArray) (R:ByteArray × Int × Int),0 ≤ a → pre t → t.size ≤ 254 → ((n = -1 ∧ a ≤ i) ∨ (a < n ∧ n ≤ (msg.size:Int))) → bC.l k msg i l n t = some R →
  (R.2.2 = 0 ∧ jc R.1 = true ∧ a < R.2.1 ∧ R.2.1 ≤ (msg.size:Int)) ∨ ((R.2.2 = 2 ∨ R.2.2 = 3) ∧ R.1 = ⟨#[]⟩ ∧ R.2.1 = 0):=by
 induction k with
 | zero=>intro msg a i l n t R _ _ _ _ h;simp [bC.l] at h
 | succ k ih =>
  intro msg a i l n t R ha hp ht hn h
  rw [bC.l] at h
  by_cases g1:jN msg i 1
  ·have hr:=gB msg i
   have hi0:=g1.1
   have hi1:=g1.2.2.2
   rw [if_pos g1] at h
   by_cases c0:bt msg i = 0
   ·rw [if_pos c0] at h
    cases h
    left
    refine ⟨rfl,?_,?_⟩
    ·obtain ⟨ls,rfl,hok⟩:=hp
     exact uw.mpr ⟨ls,rfl,hok,by rw [ByteArray.size_append];show _ + root.size ≤ 255;rw [iK];omega⟩
    ·rcases hn with ⟨rfl,hn⟩ | hn
     ·rw [if_pos rfl];exact ⟨(by show a < i + 1;omega),(by show i + 1 ≤ (msg.size:Int);omega)⟩
     ·rw [if_neg (by omega)];exact hn
   ·rw [if_neg c0] at h
    by_cases c1:192 ≤ bt msg i
    ·rw [if_pos c1] at h
     have hg:=IL c1
     by_cases g2:jN msg i 2
     ·rw [if_pos g2] at h
      have hi2:=g2.2.2.2
      by_cases c2:ig 2 msg i - 49152 ≥ l
      ·rw [if_pos c2] at h
       cases h;right;exact ⟨.inr rfl,rfl,rfl⟩
      ·rw [if_neg c2] at h
       rcases hn with ⟨rfl,hn⟩ | hn
       ·rw [if_pos rfl] at h
        exact ih msg a _ _ _ t R ha hp ht (.inr ⟨by omega,by omega⟩) h
       ·rw [if_neg (by omega)] at h
        exact ih msg a _ _ _ t R ha hp ht (.inr hn) h
     ·rw [if_neg g2] at h
      cases h;right;exact ⟨.inl rfl,rfl,rfl⟩
    ·rw [if_neg c1] at h
     by_cases c2:63 < bt msg i
     ·rw [if_pos c2] at h
      cases h;right;exact ⟨.inr rfl,rfl,rfl⟩
     ·rw [if_neg c2] at h
      by_cases g3:gJ msg i (1 + bt msg i)
      ·rw [if_pos g3] at h
       by_cases c3:(t.size:Int) + (1 + bt msg i) ≥ 255
       ·rw [if_pos c3] at h
        cases h;right;exact ⟨.inr rfl,rfl,rfl⟩
       ·rw [if_neg c3] at h
        have hz:=size_ext g3.1 g3.2.1 g3.2.2
        obtain ⟨x,hx,hxe⟩:=Km g3 (by omega) (by omega)
        refine ih msg a _ _ _ _ R ha ?_ (by rw [ByteArray.size_append];omega) ?_ h
        ·rw [hxe];exact NU hp hx
        ·rcases hn with ⟨rfl,hn⟩ | hn
         ·exact .inl ⟨rfl,by omega⟩
         ·exact .inr hn
      ·rw [if_neg g3] at h
       cases h;right;exact ⟨.inl rfl,rfl,rfl⟩
  ·rw [if_neg g1] at h
   cases h;right;exact ⟨.inl rfl,rfl,rfl⟩
theorem NV {k:Nat} {msg:ByteArray} {i:Int} {R:ByteArray × Int × Int} (hm:msg.size ≤ 100000):bC.f k msg i = some R ↔ bC.l k msg i i (-1) ⟨#[]⟩ = some R:=by
 unfold bC.f;rw [if_pos (by omega)]
theorem GQ {k:Nat} {msg:ByteArray} {i:Int} {R:ByteArray × Int × Int} (hm:msg.size ≤ 100000) (h:bC.f k msg i = some R) :
  (R.2.2 = 0 ∧ jc R.1 = true ∧ 0 ≤ i ∧ i < R.2.1 ∧ R.2.1 ≤ (msg.size:Int)) ∨ ((R.2.2 = 2 ∨ R.2.2 = 3) ∧ R.1 = ⟨#[]⟩ ∧ R.2.1 = 0):=by
 rw [NV hm] at h
 by_cases h0:0 ≤ i
 ·rcases Kn k msg i i i (-1) ⟨#[]⟩ R h0 pre_nil (by decide) (.inl ⟨rfl,Int.le_refl _⟩) h with ⟨h1,h2,h3,h4⟩ | h1
  ·exact .inl ⟨h1,h2,h0,h3,h4⟩
  ·exact .inr h1
 ·cases k with
  | zero=>simp [bC.l] at h
  | succ k =>
   rw [bC.l,if_neg (fun g=>h0 g.1)] at h
   cases h;right;exact ⟨.inl rfl,rfl,rfl⟩
end Go.Proofs.Ytfokaoeinpnagaa.ZQ
namespace Go.Proofs.Ytfokaoeinpnagaa.ZQ
open Go.RowKit Go.Proofs.YtfokaoeinpnagaaW.bE Go.Proofs.YtfokaoeinpnagaaW.dB Go.Proofs.YtfokaoeinpnagaaW.dU Go.Proofs.Ytfokaoeinpnagaa.B
def plL : List ByteArray → Int → ByteArray → Int
 | [],_,_=>-1
 | x :: m,o,r=>if same (enc (x :: m)) r then o else plL m (o + 1 + x.size) r
def wrL (m:List ByteArray) (a:Int):List ByteArray → ByteArray → ByteArray
 | [],p=>p ++ root
 | x :: l,p=>if 0 ≤ plL m 0 (enc (x :: l)) then p ++ afR (49152 + a + plL m 0 (enc (x :: l))) 2 else wrL m a l (p ++ (sg x.size ++ x))
def wr (base:ByteArray) (a:Int) (n:ByteArray):ByteArray:=match uq base,uq n with
 | some m,some ls=>if 0 ≤ a ∧ a ≤ 16000 then wrL m a ls ⟨#[]⟩ else ⟨#[]⟩
 | _,_=>⟨#[]⟩
theorem GR (l:List ByteArray):l.length ≤ (enc l).size:=by
 induction l with
 | nil=>exact Nat.zero_le _
 | cons x l ih=>rw [nY,nZ];simp only [List.length_cons];omega
theorem NW (A:ByteArray) (b:Int) (C:ByteArray) (hb:0 ≤ b ∧ b ≤ 255):bt (A ++ (sg b ++ C)) A.size = b:=by
 rw [wU (by omega),show ((A.size:Int) - A.size) = 0 from by omega,qc (by omega) (by rw [jI];omega),EH b hb]
theorem EW (ls:List ByteArray):∀ (k:Nat) (A C t:ByteArray) (l n:Int),(∀ x ∈ ls,zJ x) → (t ++ iD ls).size ≤ 254 →
  bC.l (k + ls.length) (A ++ (iD ls ++ C)) A.size l n t = bC.l k (A ++ (iD ls ++ C)) (A.size + (iD ls).size:Nat) l n (t ++ iD ls):=by
 induction ls with
 | nil=>intro k A C t l n _ _;simp only [iD,List.length_nil,Nat.add_zero,append_empty,ED]
 | cons x ls ih =>
  intro k A C t l n hok hz
  have hx:=hok x (by simp)
  obtain ⟨hx1,hx2⟩:=hx
  have hz':t.size + (1 + x.size + (iD ls).size) ≤ 254:=by rw [ByteArray.size_append,mQ] at hz;exact hz
  have em:A ++ (iD (x :: ls) ++ C) = A ++ (sg x.size ++ (x ++ (iD ls ++ C))):=by simp only [iD,ByteArray.append_assoc]
  have hb:bt (A ++ (iD (x :: ls) ++ C)) A.size = x.size:=by rw [em];exact NW A _ _ (by omega)
  have hsz:(A ++ (iD (x :: ls) ++ C)).size = A.size + (1 + x.size + (iD ls).size + C.size):=by rw [ByteArray.size_append,ByteArray.size_append,mQ]
  have g1:jN (A ++ (iD (x :: ls) ++ C)) A.size 1:=⟨by omega,by omega,by omega,by omega⟩
  have g3:gJ (A ++ (iD (x :: ls) ++ C)) A.size (1 + (x.size:Int)):=⟨by omega,by omega,by omega⟩
  have hex:(A ++ (iD (x :: ls) ++ C)).extract ((A.size:Int)).toNat ((A.size:Int) + (1 + (x.size:Int))).toNat = sg x.size ++ x:=by
   rw [show ((A.size:Int)).toNat = A.size + 0 from by omega,show ((A.size:Int) + (1 + (x.size:Int))).toNat = A.size + (1 + x.size) from by omega,ByteArray.extract_append_size_add]
   have e2:iD (x :: ls) ++ C = (sg x.size ++ x) ++ (iD ls ++ C):=by simp only [iD,ByteArray.append_assoc]
   rw [e2]
   exact ByteArray.extract_append_eq_left (by rw [ByteArray.size_append,jI])
  show bC.l (k + ls.length + 1) _ _ _ _ _ = _
  rw [bC.l,if_pos g1,hb,if_neg (by omega),if_neg (by omega),if_neg (by omega),if_pos g3,if_neg (by omega),hex]
  have hA:((A.size:Int) + (1 + (x.size:Int))) = (((A ++ (sg x.size ++ x)).size:Nat):Int):=by rw [ByteArray.size_append,ByteArray.size_append,jI];omega
  have em2:A ++ (iD (x :: ls) ++ C) = (A ++ (sg x.size ++ x)) ++ (iD ls ++ C):=by simp only [iD,ByteArray.append_assoc]
  rw [hA,em2,ih k _ C _ l n (fun y hy=>hok y (by simp [hy])) (by rw [ByteArray.size_append,ByteArray.size_append,ByteArray.size_append,jI];omega)]
  congr 1
  ·rw [ByteArray.size_append,ByteArray.size_append,jI,mQ];congr 1;omega
  ·simp only [iD,ByteArray.append_assoc]
theorem IQ : root = sg 0:=by
 refine CJ (by rw [iK,jI]) fun i h0 h1=>?_
 rw [iK] at h1
 have:i = 0:=by omega
 subst this
 rw [CK,EH 0 (by omega)]
theorem Ko (k:Nat) (A C t:ByteArray) (l n:Int):bC.l (k + 1) (A ++ (root ++ C)) A.size l n t = some (t ++ root,(if n = -1 then (A.size:Int) + 1 else n),0):=by
 have hb:bt (A ++ (root ++ C)) A.size = 0:=by rw [IQ];exact NW A 0 C (by omega)
 have g1:jN (A ++ (root ++ C)) A.size 1:=⟨by omega,by omega,by omega,by simp only [ByteArray.size_append,iK];omega⟩
 rw [bC.l,if_pos g1,hb,if_pos rfl]
 rfl
theorem GU (ls:List ByteArray) (k:Nat) (A C t:ByteArray) (l n:Int) (hok:∀ x ∈ ls,zJ x) (hz:(t ++ iD ls).size ≤ 254) :
  bC.l (k + 1 + ls.length) (A ++ (enc ls ++ C)) A.size l n t = some (t ++ enc ls,(if n = -1 then (A.size:Int) + (enc ls).size else n),0):=by
 have e:A ++ (enc ls ++ C) = A ++ (iD ls ++ (root ++ C)):=by unfold enc;simp only [ByteArray.append_assoc]
 rw [e,EW ls (k + 1) A (root ++ C) t l n hok hz]
 have e2:A ++ (iD ls ++ (root ++ C)) = (A ++ iD ls) ++ (root ++ C):=by simp only [ByteArray.append_assoc]
 have e3:((A.size + (iD ls).size:Nat):Int) = (((A ++ iD ls).size:Nat):Int):=by rw [ByteArray.size_append]
 rw [e2,e3,Ko]
 rw [ByteArray.append_assoc,EJ,ByteArray.size_append]
 congr 2
 (try (congr 1;split <;> first | omega | rfl))
theorem CY (xs ys:List Int):strOfNums (xs ++ ys) = strOfNums xs ++ strOfNums ys:=by
 refine ByteArray.ext ?_
 rw [ByteArray.data_append]
 simp [strOfNums]
theorem Ad (a b:ByteArray):numsOf (a ++ b) = numsOf a ++ numsOf b:=by
 unfold numsOf;rw [ByteArray.data_append];simp
theorem wE (a b:ByteArray):jU (a ++ b) = jU a ++ jU b:=by
 unfold jU;rw [Ad,List.map_append,CY]
theorem qL (a:ByteArray):(jU a).size = a.size:=by unfold jU;rw [strOfNums_size,List.length_map,numsOf_length]
theorem QN {l:List ByteArray} (hok:∀ x ∈ l,zJ x) (hz:(enc l).size ≤ 255):jc (enc l) = true:=uw.mpr ⟨l,rfl,hok,hz⟩
end Go.Proofs.Ytfokaoeinpnagaa.ZQ
namespace Go.Proofs.Ytfokaoeinpnagaa.Mi
open Go Go.Proofs.YtfokaoeinpnagaaW.bE
def ents : Nat → List (Int × Value) → List MapEntry
 | _,[]=>[]
 | i,(k,v) :: l=>{ key:=.int .i64 k,val:=v,born:=i } :: ents (i + 1) l
def sS (k:Int):List (Int × Value) → Option Value
 | []=>none
 | (k',v) :: l=>if k = k' then some v else sS k l
theorem oO (k:Int):∀ (l:List (Int × Value)) (i j:Nat),∃ r,Instr.findNow (.int .i64) (.int .i64 k) (ents i l) j = some r ∧ r.map (·.2) = sS k l
 | [],i,j=>⟨none,rfl,rfl⟩
 | (k',v) :: l,i,j=>by
  obtain ⟨r,h1,h2⟩:=oO k l (i + 1) (j + 1)
  unfold ents sS Instr.findNow
  by_cases h:k = k'
  ·subst h
   exact ⟨some (j,v),by simp [Instr.sameNow],by simp⟩
  ·have hb:(k == k') = false:=by simpa using h
   exact ⟨r,by simp [Instr.sameNow,hb,h1],by simp [h,h2]⟩
theorem Bd (k:Int) (v:Value):∀ (l:List (Int × Value)) (i:Nat),ents i (l ++ [(k,v)]) = ents i l ++ [{ key:=.int .i64 k,val:=v,born:=i + l.length }]
 | [],i=>rfl
 | (k',v') :: l,i=>by
  simp only [List.cons_append,ents,Bd k v l (i + 1),List.length_cons]
  rw [show i + 1 + l.length = i + (l.length + 1) from by omega]
def At (w:World) (b:Nat) (l:List (Int × Value)):Prop:=w.heap[b]? = some (.map (ents 0 l).toArray l.length)
variable {P : Program}
theorem GV {w:World} {b:Nat} {l:List (Int × Value)} (h:At w b l) (t kt et:TypeId) (hm:P.underlying t = some (.map kt et)) (hk:P.underlying kt = some (.int .i64)) (k:Int) (v:Value) (hn:sS k l = none) :
  ∃ w',(Instr.mapUpdate t (.map (some b)) (.int .i64 k) v).run P w = .ok () w' ∧ At w' b (l ++ [(k,v)]) ∧ w.grownBy w' (some b):=by
 obtain ⟨r,h1,h2⟩:=oO k l 0 0
 rw [hn] at h2
 obtain rfl:r = none:=by cases r with | none=>rfl | some x=>cases h2
 have hc:(Instr.checkKey false 10000 kt (.int .i64 k)).run P w = .ok () w:=MapKept.run_checkKey (k:=.int .i64 k) hk (by simp [MapKept.IsKey]) false 9999
 refine ⟨{ w with heap:=w.heap.setIfInBounds b (.map (ents 0 (l ++ [(k,v)])).toArray (l ++ [(k,v)]).length) },?_,(MapKept.heap_set h).1,⟨rfl,rfl,rfl,by simp,fun i _ hi=>(MapKept.heap_set h).2 i (fun e=>hi (by rw [e]))⟩⟩
 unfold At at h
 simp [Instr.mapUpdate,run_underlying hm,MapKept.run_getObj_map h,hc,MapKept.run_findKey hk h1,MapKept.run_setObj_map _ h,Result.andThen]
 rw [Bd]
 simp
theorem look {w:World} {b:Nat} {l:List (Int × Value)} (h:At w b l) (t kt et:TypeId) (hm:P.underlying t = some (.map kt et)) (hk:P.underlying kt = some (.int .i64)) (z:Value) (hz:(zeroValue et).run P w = .ok z w) (k:Int) :
  (Instr.lookup t (.map (some b)) (.int .i64 k) true).run P w = .ok (.tuple #[(sS k l).getD z,.bool (sS k l).isSome]) w:=by
 obtain ⟨r,h1,h2⟩:=oO k l 0 0
 unfold At at h
 have hc:∀ e,(Instr.checkKey e 10000 kt (.int .i64 k)).run P w = .ok () w:=fun e=>MapKept.run_checkKey (k:=.int .i64 k) hk (by simp [MapKept.IsKey]) e 9999
 rw [← h2]
 cases r with
 | none=>simp [Instr.lookup,run_underlying hm,MapKept.run_getObj_map h,hc,MapKept.run_findKey hk h1,Result.andThen,hz]
 | some x=>obtain ⟨i,v⟩:=x;simp [Instr.lookup,run_underlying hm,MapKept.run_getObj_map h,hc,MapKept.run_findKey hk h1,Result.andThen]
theorem Kq (w:World) {ops:Array Oper} {rest:List Oper} {o:Oper} {a:Act} {Q:Exit → Act → World → Prop}
  (hg:o.guard = none) (m x v:Operand) (t:TypeId) (hop:o.op = Op.insert t m x v)
  (kt et:TypeId) (ht:P.underlying t = some (.map kt et)) (hk:P.underlying kt = some (.int .i64)) (b:Nat) (l:List (Int × Value)) (hm:a.eval m = .map (some b)) (hat:At w b l) (k:Int) (val:Value) (hx:a.eval x = .int .i64 k) (hv:a.eval v = val) (hn:sS k l = none)
  (hK:∀ w',At w' b (l ++ [(k,val)]) → w.grownBy w' (some b) → wpList P ops Q rest (a.put o.dst undef) w') :
  wpList P ops Q (o :: rest) a w:=by
 refine wpList_plain hg fun K' hK'=>?_
 obtain ⟨w',hrun,r1,r2⟩:=GV hat t kt et ht hk k val hn
 unfold Oper.wp
 simp [execOp,hop,hm,hx,hv,hrun,Result.andThen]
 exact hK' _ _ (hK w' r1 r2)
theorem QO (w:World):At (w.alloc (.map #[] 0)) w.heap.size []:=by
 unfold At ents
 exact heap_alloc_new w _
structure In (B0:Nat) (w0 w:World) (b:Nat) (l:List (Int × Value)):Prop where
 at_:At w b l
 ge:B0 ≤ b
 NY:RowKit.Below B0 w0 w
theorem In.made {w:World}:In w.heap.size w (w.alloc (.map #[] 0)) w.heap.size []:=⟨QO w,Nat.le_refl _,(RowKit.Below.refl _ _).alloc (Nat.le_refl _) _⟩
theorem In.grown {B0 b:Nat} {w0 w w':World} {l l':List (Int × Value)} (h:In B0 w0 w b l) (h':At w' b l') (hg:w.grownBy w' (some b)):In B0 w0 w' b l':=by
 refine ⟨h',h.ge,h.NY.grown hg ?_ (fun k e=>by cases e;exact h.ge)⟩
 have:=(Array.getElem?_eq_some_iff.1 h.at_).1
 have:=h.ge
 omega
theorem EX {w:World} {ops:Array Oper} {rest:List Oper} {o:Oper} {a:Act} {Q:Exit → Act → World → Prop} (t:TypeId) (m x v:Operand) (hop:o.op = Op.insert t m x v) (h:wpList P ops Q (o :: rest) a w):wpList P ops Q (o :: rest) a w:=h
theorem aa8 (w:World) {ops:Array Oper} {rest:List Oper} {o:Oper} {a:Act} {Q:Exit → Act → World → Prop}
  (hg:o.guard = none) (m x v:Operand) (t:TypeId) (hop:o.op = Op.insert t m x v)
  (kt et:TypeId) (ht:P.underlying t = some (.map kt et)) (hk:P.underlying kt = some (.int .i64)) (b:Nat) (l:List (Int × Value)) (hm:a.eval m = .map (some b)) {B0:Nat} {w0:World} (hin:In B0 w0 w b l) (k:Int) (val:Value) (hx:a.eval x = .int .i64 k) (hv:a.eval v = val) (hn:sS k l = none)
  (hK:∀ w',aj (In B0 w0 w' b (l ++ [(k,val)])) → wpList P ops Q rest (a.put o.dst undef) w') :
  wpList P ops Q (o :: rest) a w :=
 Kq w hg m x v t hop kt et ht hk b l hm hin.at_ k val hx hv hn fun w' h1 h2=>hK w' ⟨hin.grown h1 h2⟩
end Go.Proofs.Ytfokaoeinpnagaa.Mi
namespace Go.Proofs.Ytfokaoeinpnagaa.ZQ
open Go.RowKit Go.Proofs.YtfokaoeinpnagaaW.bE Go.Proofs.YtfokaoeinpnagaaW.dB Go.Proofs.YtfokaoeinpnagaaW.dU
attribute [local go_sem] jA jB kG kH iI iJ jC jD
def bV.agg (a b c:Int):Value:=.agg #[.int .i64 a,.int .i64 b,.int .i64 c]
def bV.tab : List (Int × Value):=[(1,bV.agg 4 0 0),(28,bV.agg 16 0 0),(2,bV.agg 0 1 0),(5,bV.agg 0 1 0),(12,bV.agg 0 1 0),(6,bV.agg 0 2 20),(15,bV.agg 2 1 0),(33,bV.agg 6 1 0)]
set_option maxHeartbeats 8000000 in
set_option maxRecDepth 100000 in
theorem bV.calls (w:World):Calls Try.prog 74 #[] w fun e w'=>∃ g,e = .returned (.map (some g)) ∧ Mi.In w.heap.size w w' g bV.tab:=by
 have hmm:=@run_makeMap Try.prog
 have hi:=aj.mk (Mi.In.made (w:=w))
 generalize hg:w.heap.size = g at hi
 have hg':=aj.mk hg
 go_enter Try.func74,Try.ntmps74
 go_wp2_with (first | (refine Mi.EX 143 _ _ _ rfl ?_;refine Mi.aa8 _ rfl _ _ _ 143 rfl 3 141 Try.underlying143 Try.underlying3 _ _ rfl (aj.out (by assumption)) _ _ rfl rfl rfl ?_;clear hi;intro w1 hi))
 go_ret
 exact ⟨g,rfl,hi.out⟩
def bS.l0 : Nat → ByteArray → Int → Int → Int → Int → Int → Int → Int → ByteArray → ByteArray → List ByteArray → Option (ByteArray × ByteArray × List ByteArray × Bool)
 | 0,_,_,_,_,_,_,_,_,_,_,_=>none
 | k + 1,x0,x1,x2,x37,x38,QS,QT,IU,IV,QU,CZ=>if x38 < x37 then ((bC.f k x0 x1).bind fun IW=>(if IW.2.2 = 0 then (if IW.2.1 > x2 then (some ((⟨#[]⟩:ByteArray),(⟨#[]⟩:ByteArray),([]:List ByteArray),false)) else (if CZ.length < 8796093022208 then (bS.l0 k x0 IW.2.1 x2 x37 (wrap64 (x38 + 1)) QS QT IU IV QU (CZ ++ [IW.1])) else (none))) else (some ((⟨#[]⟩:ByteArray),(⟨#[]⟩:ByteArray),([]:List ByteArray),false)))) else (if 0 ≤ x1 then (if x1 ≤ x2 then (if x2 ≤ (x0.size:Int) then (some (IV,x0.extract (x1:Int).toNat (x2:Int).toNat,CZ,(((x0.extract (x1:Int).toNat (x2:Int).toNat).size:Int) == IU))) else (none)) else (none)) else (none))
def bS.f (k:Nat) (a0:ByteArray) (a1:Int) (a2:Int) (eT:Int) (iR:Int) (j4:Int):Option (ByteArray × ByteArray × List ByteArray × Bool):=if (eT ≤ (wrap64 (a2 - a1))) then (if 0 ≤ a1 then (if a1 ≤ (wrap64 (a1 + eT)) then (if (wrap64 (a1 + eT)) ≤ (a0.size:Int) then (bS.l0 k a0 (wrap64 (a1 + eT)) a2 iR 0 eT iR j4 (a0.extract (a1:Int).toNat ((wrap64 (a1 + eT)):Int).toNat) (⟨#[]⟩:ByteArray) ([]:List ByteArray)) else (none)) else (none)) else (none)) else (some ((⟨#[]⟩:ByteArray),(⟨#[]⟩:ByteArray),([]:List ByteArray),false))
def bS.T15 : Bool × List (List Nat × List Nat):=(true,[([],[]),([],[]),([1],[1]),([2],[2]),([],[]),([4],[4]),([3,5],[3,5]),([0,0],[0]),([6,7,0,1,2,3,4,5,6,7],[6])])
def bS.B15 : List Nat:=[0,0,2,6,0,16,62,1,255]
theorem bS.aa9 : ng .any (opsOf Try.f75 15) = bS.T15:=by kernel_rfl
theorem bS.WL : qK bS.T15.2 bS.B15 = true:=by kernel_rfl
set_option maxHeartbeats 8000000 in
set_option maxRecDepth 100000 in
theorem bS.calls (k:Nat) (a0:ByteArray) (a1:Int) (a2:Int) (eT:Int) (iR:Int) (j4:Int) (r1:ByteArray) (r2:ByteArray) (r3:List ByteArray) (r4:Bool) (w:World) (h:bS.f k a0 a1 a2 eT iR j4 = some (r1,r2,r3,r4)) :
  Calls Try.prog 75 #[.string a0,.int .i64 a1,.int .i64 a2,.agg #[.int .i64 eT,.int .i64 iR,.int .i64 j4]] w fun e w'=>∃ v2_:Value,e = .returned (.tuple #[.agg #[.string r1,.string r2,v2_],.bool r4]) ∧ Kd.R Kd.string 9 w' w.heap.size (fun _=>True) v2_ r3 ∧ Below w.heap.size w w':=by
 have ahl:=Try.underlying141
 have abb:=Try.underlying115
 have HB:=aj.mk (Below.refl w.heap.size w)
 have H:(if (eT ≤ (wrap64 (a2 - a1))) then (if 0 ≤ a1 then (if a1 ≤ (wrap64 (a1 + eT)) then (if (wrap64 (a1 + eT)) ≤ (a0.size:Int) then (bS.l0 k a0 (wrap64 (a1 + eT)) a2 iR 0 eT iR j4 (a0.extract (a1:Int).toNat ((wrap64 (a1 + eT)):Int).toNat) (⟨#[]⟩:ByteArray) ([]:List ByteArray)) else (none)) else (none)) else (none)) else (some ((⟨#[]⟩:ByteArray),(⟨#[]⟩:ByteArray),([]:List ByteArray),false))) = some (r1,r2,r3,r4):=h
 clear h
 by_cases c5:(eT ≤ (wrap64 (a2 - a1)))
 ·rw [if_pos c5] at H
  have qg:decide (eT ≤ (wrap64 (a2 - a1))) = true:=decide_eq_true c5
  (try (have vJ:decide (eT ≤ ((a2 - a1))) = true:=by have h_:decide (eT ≤ (wrap64 (a2 - a1))) = true:=decide_eq_true c5;rw [B.dX (by omega) (by omega)] at h_;exact h_))
  clear c5
  by_cases c6:0 ≤ a1
  ·rw [if_pos c6] at H
   have Ab:=eq_true c6
   have NA:decide (0 ≤ a1) = true:=decide_eq_true c6
   clear c6
   by_cases c7:a1 ≤ (wrap64 (a1 + eT))
   ·rw [if_pos c7] at H
    have wX:=eq_true c7
    have QK:decide (a1 ≤ (wrap64 (a1 + eT))) = true:=decide_eq_true c7
    by_cases c8:(wrap64 (a1 + eT)) ≤ (a0.size:Int)
    ·rw [if_pos c8] at H
     have vG:=eq_true c8
     have vH:decide ((wrap64 (a1 + eT)) ≤ (a0.size:Int)) = true:=decide_eq_true c8
     have H':=aj.mk H
     clear H
     go_enter Try.func75,Try.ntmps75
     go_wp2_with (first | ((with_reducible refine gL (N:=7) rfl ?_);refine fU ?hg (N:=7) ?hd (cs:=#[.int .i64 eT,.int .i64 iR,.int .i64 j4]) (t:=141) ?hr ?_;(case hd=>rfl);(case hg=>rfl);(case hr=>first | (go_simp;done) | (go_simp;rfl));intro fO hg w9 gX hb;have eP:=aj.mk (bI (by repeat (first | (with_reducible first | exact HB.out | apply ak | apply ah | apply au) | exact HB.out)) hb);have iE:=aj.mk (gX);have jJ:=aj.mk ((by rw [hg];exact (bK (by repeat (first | (with_reducible first | exact HB.out | apply ak | apply ah | apply au) | exact HB.out))):w.heap.size ≤ fO));have jQ:=aj.mk ((by rw [hg];exact (bK (by repeat (first | (with_reducible first | exact HB.out | apply ak | apply ah | apply au) | exact HB.out))):w.heap.size ≤ fO));clear HB;have HB:=eP;have dH:=iE;have abd:=jJ;have iY:=jQ;clear eP iE jJ jQ;clear hb gX hg) | ((with_reducible refine gL (N:=8) rfl ?_);refine fU ?hg (N:=8) ?hd (cs:=#[.string (⟨#[]⟩:ByteArray),.string (⟨#[]⟩:ByteArray),.slice none 0 0]) (t:=115) ?hr ?_;(case hd=>rfl);(case hg=>rfl);(case hr=>first | (go_simp;done) | (go_simp;rfl));intro dD hg w10 gX hb;have eP:=aj.mk (dS (g:=fO) (o:=.cells #[.int .i64 eT,.int .i64 iR,.int .i64 j4] 141 (0,0)) (by (with_reducible repeat (first | refine aG ?_ _ | refine aH ?_ | refine aD ?_ _));exact dH.out) hb);have iE:=aj.mk (bI (by repeat (first | (with_reducible first | exact HB.out | apply ak | apply ah | apply au | refine aT ?_ iY.out) | exact HB.out)) hb);have jJ:=aj.mk (gX);have jQ:=aj.mk ((by rw [hg];exact (bK (by repeat (first | (with_reducible first | exact HB.out | apply ak | apply ah | apply au | refine aT ?_ iY.out) | exact HB.out))):w.heap.size ≤ dD));have qZ:=aj.mk ((by rw [hg];exact (bK (by repeat (first | (with_reducible first | exact HB.out | apply ak | apply ah | apply au | refine aT ?_ iY.out) | exact HB.out))):w.heap.size ≤ dD));have NZ:=aj.mk ((by rw [hg];exact Nat.ne_of_lt (jO (g:=fO) (o:=.cells #[.int .i64 eT,.int .i64 iR,.int .i64 j4] 141 (0,0)) (by (with_reducible repeat (first | refine aG ?_ _ | refine aH ?_ | refine aD ?_ _));exact dH.out)):fO ≠ dD));have N7:=aj.mk ((by rw [hg];exact Nat.ne_of_gt (jO (g:=fO) (o:=.cells #[.int .i64 eT,.int .i64 iR,.int .i64 j4] 141 (0,0)) (by (with_reducible repeat (first | refine aG ?_ _ | refine aH ?_ | refine aD ?_ _));exact dH.out)):dD ≠ fO));clear dH;clear HB;have dH:=eP;have HB:=iE;have dx:=jJ;have abe:=jQ;have kN:=qZ;have fF:=NZ;have kg:=N7;clear eP iE jJ jQ qZ NZ N7;clear hb gX hg) | ((with_reducible refine gL (N:=10) rfl ?_);refine fU ?hg (N:=10) ?hd (cs:=#[.string (⟨#[]⟩:ByteArray),.string (⟨#[]⟩:ByteArray),.slice none 0 0]) (t:=115) ?hr ?_;(case hd=>rfl);(case hg=>rfl);(case hr=>first | (go_simp;done) | (go_simp;rfl));intro fE hg Yk gX hb;have eP:=aj.mk (dS (g:=fO) (o:=.cells #[.int .i64 eT,.int .i64 iR,.int .i64 j4] 141 (0,0)) (by (with_reducible repeat (first | refine aG ?_ _ | refine aH ?_ | refine aD ?_ _));exact dH.out) hb);have iE:=aj.mk (dS (g:=dD) (o:=.cells #[.string (⟨#[]⟩:ByteArray),.string (⟨#[]⟩:ByteArray),.slice none 0 0] 115 (0,0)) (by (with_reducible repeat (first | refine aG ?_ _ | refine aH ?_ | refine aD ?_ _));exact dx.out) hb);have jJ:=aj.mk (bI (by repeat (first | (with_reducible first | exact HB.out | apply ak | apply ah | apply au | refine aT ?_ iY.out | refine aT ?_ kN.out) | exact HB.out)) hb);have jQ:=aj.mk (gX);have qZ:=aj.mk ((by rw [hg];exact (bK (by repeat (first | (with_reducible first | exact HB.out | apply ak | apply ah | apply au | refine aT ?_ iY.out | refine aT ?_ kN.out) | exact HB.out))):w.heap.size ≤ fE));have NZ:=aj.mk ((by rw [hg];exact (bK (by repeat (first | (with_reducible first | exact HB.out | apply ak | apply ah | apply au | refine aT ?_ iY.out | refine aT ?_ kN.out) | exact HB.out))):w.heap.size ≤ fE));have N7:=aj.mk ((by rw [hg];exact Nat.ne_of_lt (jO (g:=fO) (o:=.cells #[.int .i64 eT,.int .i64 iR,.int .i64 j4] 141 (0,0)) (by (with_reducible repeat (first | refine aG ?_ _ | refine aH ?_ | refine aD ?_ _));exact dH.out)):fO ≠ fE));have n7_:=aj.mk ((by rw [hg];exact Nat.ne_of_gt (jO (g:=fO) (o:=.cells #[.int .i64 eT,.int .i64 iR,.int .i64 j4] 141 (0,0)) (by (with_reducible repeat (first | refine aG ?_ _ | refine aH ?_ | refine aD ?_ _));exact dH.out)):fE ≠ fO));have n8_:=aj.mk ((by rw [hg];exact Nat.ne_of_lt (jO (g:=dD) (o:=.cells #[.string (⟨#[]⟩:ByteArray),.string (⟨#[]⟩:ByteArray),.slice none 0 0] 115 (0,0)) (by (with_reducible repeat (first | refine aG ?_ _ | refine aH ?_ | refine aD ?_ _));exact dx.out)):dD ≠ fE));have n9_:=aj.mk ((by rw [hg];exact Nat.ne_of_gt (jO (g:=dD) (o:=.cells #[.string (⟨#[]⟩:ByteArray),.string (⟨#[]⟩:ByteArray),.slice none 0 0] 115 (0,0)) (by (with_reducible repeat (first | refine aG ?_ _ | refine aH ?_ | refine aD ?_ _));exact dx.out)):fE ≠ dD));clear dH;clear dx;clear HB;have dH:=eP;have dx:=iE;have HB:=jJ;have dQ:=jQ;have abf:=qZ;have oh:=NZ;have ko:=N7;have oo:=n7_;have gW:=n8_;have fq:=n9_;clear eP iE jJ jQ qZ NZ N7 n7_ n8_ n9_;clear hb gX hg;have ahm:=fF.out;have ahn:=kg.out;have aho:=ko.out;have ahp:=oo.out;have QV:Yk.cell? ⟨fO,0,none⟩ = some (.int .i64 eT):=(aK dH.out 0).trans rfl;have QW:Yk.cell? ⟨fO,1,none⟩ = some (.int .i64 iR):=(aK dH.out 1).trans rfl;have QX:Yk.cell? ⟨fO,2,none⟩ = some (.int .i64 j4):=(aK dH.out 2).trans rfl;have QY:=aA dH.out 0;have QZ:=aA dH.out 1;have Q0:=aA dH.out 2;have ahq:=fq.out;have ahr:=gW.out;have Q5:Yk.cell? ⟨fE,0,none⟩ = some (.string (⟨#[]⟩:ByteArray)):=(aK dQ.out 0).trans rfl;have Q6:Yk.cell? ⟨fE,1,none⟩ = some (.string (⟨#[]⟩:ByteArray)):=(aK dQ.out 1).trans rfl;have Q7:Yk.cell? ⟨fE,2,none⟩ = some (.slice none 0 0):=(aK dQ.out 2).trans rfl;have Q8:=aA dQ.out 0;have Q9:=aA dQ.out 1;have Ra:=aA dQ.out 2))
     go_loopg [1,38] k (fun kq v1 v38 w'=>∃ (dP:Int) (uI:Int) (gH:ByteArray) (fG:ByteArray) (iq:List ByteArray) (iT:Value),v1 = .int .i64 dP ∧ v38 = .int .i64 uI ∧ aj (bS.l0 kq a0 dP a2 iR uI eT iR j4 (a0.extract (a1:Int).toNat ((wrap64 (a1 + eT)):Int).toNat) (⟨#[]⟩:ByteArray) iq = some (r1,r2,r3,r4)) ∧ aj (kq ≤ k) ∧ aj (Kd.R Kd.string 9 w' w.heap.size (fun _=>True) iT iq) ∧ aj (w'.heap[fO]? = some (.cells #[.int .i64 eT,.int .i64 iR,.int .i64 j4] 141 (0,0))) ∧ aj (w'.heap[dD]? = some (.cells #[.string gH,.string fG,(.slice none 0 0)] 115 (0,0))) ∧ aj (w'.heap[fE]? = some (.cells #[.string (a0.extract (a1:Int).toNat ((wrap64 (a1 + eT)):Int).toNat),.string (⟨#[]⟩:ByteArray),iT] 115 (0,0))) ∧ aj (Below w.heap.size w w'))
     case atStart=>exact ⟨(wrap64 (a1 + eT)),(0),((⟨#[]⟩:ByteArray)),((⟨#[]⟩:ByteArray)),(([]:List ByteArray)),(.slice none 0 0),(by first | rfl | (simp;done) | (simp [*];done) | (simp [B.aX];done) | (simp [B.aY];done)),(by first | rfl | (simp;done) | (simp [*];done) | (simp [B.aX];done) | (simp [B.aY];done)),H',⟨Nat.le_refl _⟩,⟨by first | exact Kd.jM _ _ _ _ _ | exact Kd.lD _ _ _ _ _ | exact Kd.lF _ _ _ _ _ | exact Kd.lu _ _ _ _ _ | exact Kd.lC _ _ _ _ _⟩,⟨by (with_reducible repeat (first | refine aG ?_ _ | refine aH ?_ | refine aD ?_ _));refine oJ ?_ ko.out _;(with_reducible repeat (first | refine aG ?_ _ | refine aH ?_ | refine aD ?_ _));exact dH.out⟩,⟨by (with_reducible repeat (first | refine aG ?_ _ | refine aH ?_ | refine aD ?_ _));refine oJ ?_ gW.out _;(with_reducible repeat (first | refine aG ?_ _ | refine aH ?_ | refine aD ?_ _));exact dx.out⟩,⟨by (with_reducible repeat (first | refine aG ?_ _ | refine aH ?_ | refine aD ?_ _));refine bU (cs:=#[.string (⟨#[]⟩:ByteArray),.string (⟨#[]⟩:ByteArray),.slice none 0 0]) ?_ 0 _ rfl;(with_reducible repeat (first | refine aG ?_ _ | refine aH ?_ | refine aD ?_ _));exact dQ.out⟩,⟨by repeat (first | (with_reducible first | exact HB.out | apply ak | apply ah | apply au | refine aT ?_ iY.out | refine aT ?_ kN.out | refine aT ?_ oh.out) | exact HB.out)⟩⟩
     case round =>
      clear H'
      try clear c1
      try clear p2
      try clear c5
      try clear qg
      try clear vJ
      try clear c6
      try clear Ab
      try clear NA
      try clear p6
      try clear c7
      try clear wX
      try clear QK
      try clear c8
      try clear vG
      try clear vH
      try clear c12
      try clear c13
      try clear c15
      try clear QV
      try clear QW
      try clear QX
      try clear Q5
      try clear Q6
      try clear Q7
      try clear QY
      try clear QZ
      try clear Q0
      try clear Q8
      try clear Q9
      try clear Ra
      obtain ⟨dP,uI,gH,fG,iq,iT,rfl,rfl,HA,wB,dM,dH,dx,dQ,HB⟩:=hrel
      cases gk with
      | zero=>exact absurd HA.out (by simp [bS.l0])
      | succ k1 =>
       have H:=HA.out
       clear HA
       simp only [bS.l0] at H
       by_cases c17:uI < iR
       ·rw [if_pos c17] at H
        have abg:decide (uI < iR) = true:=decide_eq_true c17
        clear c17
        replace H:=zbm H
        obtain ⟨⟨GX,Ae,t127⟩,NT,H⟩:=H
        replace H:(if t127 = 0 then (if Ae > a2 then (some ((⟨#[]⟩:ByteArray),(⟨#[]⟩:ByteArray),([]:List ByteArray),false)) else (if iq.length < 8796093022208 then (bS.l0 k1 a0 Ae a2 iR (wrap64 (uI + 1)) eT iR j4 (a0.extract (a1:Int).toNat ((wrap64 (a1 + eT)):Int).toNat) (⟨#[]⟩:ByteArray) (iq ++ [GX])) else (none))) else (some ((⟨#[]⟩:ByteArray),(⟨#[]⟩:ByteArray),([]:List ByteArray),false))) = some (r1,r2,r3,r4):=H
        have WK:=aj.mk NT
        clear NT
        by_cases c19:t127 = 0
        ·rw [if_pos c19] at H
         have abh:(t127 == 0) = true:=beq_iff_eq.mpr c19
         have abj:(t127 != 0) = false:=bne_eq_false_iff_eq.mpr c19
         clear c19
         by_cases c20:Ae > a2
         ·rw [if_pos c20] at H
          have Uc:decide (a2 < Ae) = true:=decide_eq_true c20
          clear c20
          simp only [Option.some.injEq,Prod.mk.injEq] at H
          obtain ⟨rfl,rfl,rfl,rfl⟩:=H
          go_wp2_with (first | ((with_reducible refine aU (f:=92) rfl ?_);refine bP (some 43) rfl rfl Try.func92 (by kernel_rfl) rfl #[.string a0,.int .i64 dP] rfl (by (try simp only [List.map_toArray,List.map_cons,List.map_nil]);first | done | rfl | (simp only [List.length_drop,List.length_take];rfl) | (simp only [ByteArray.size_append,Int.natCast_add];rfl) | (rw [B.dX] <;> first | rfl | omega | (simp only [decide_eq_false_iff_not,decide_eq_true_eq,Int.not_lt,Nat.not_lt,gt_iff_lt] at * <;> omega))) ?_;(with_reducible refine (bC.calls k1 a0 dP GX Ae t127 _ WK.out).mono ?_);rintro e w21 ⟨rfl,hb⟩;refine ⟨_,rfl,?_⟩;have eP:=aj.mk (Kd.l8 (by (with_reducible repeat (first | apply Kd.fJ | apply Kd.gy | apply Kd.gI));exact dM.out) hb);have iE:=aj.mk (dS (g:=fO) (o:=.cells #[.int .i64 eT,.int .i64 iR,.int .i64 j4] 141 (0,0)) (by (with_reducible repeat (first | refine aG ?_ _ | refine aH ?_ | refine aD ?_ _));exact dH.out) hb);have jJ:=aj.mk (dS (g:=dD) (o:=.cells #[.string gH,.string fG,.slice none 0 0] 115 (0,0)) (by (with_reducible repeat (first | refine aG ?_ _ | refine aH ?_ | refine aD ?_ _));exact dx.out) hb);have jQ:=aj.mk (dS (g:=fE) (o:=.cells #[.string (a0.extract (a1:Int).toNat ((wrap64 (a1 + eT)):Int).toNat),.string (⟨#[]⟩:ByteArray),iT] 115 (0,0)) (by (with_reducible repeat (first | refine aG ?_ _ | refine aH ?_ | refine aD ?_ _));exact dQ.out) hb);have qZ:=aj.mk (bI (by repeat (first | (with_reducible first | exact HB.out | apply ak | apply ah | apply au | refine aT ?_ iY.out | refine aT ?_ kN.out | refine aT ?_ oh.out) | exact HB.out)) hb);clear dM;clear dH;clear dx;clear dQ;clear HB;have dM:=eP;have dH:=iE;have dx:=jJ;have dQ:=jQ;have HB:=qZ;clear eP iE jJ jQ qZ;(try clear hb);(try clear hb2);(try clear hk);(try clear hi);have ahs:=kg.out;have aht:=fF.out;have ahu:=gW.out;have ahv:=fq.out;have adh:w21.cell? ⟨dD,0,none⟩ = some (.string gH):=(aK dx.out 0).trans rfl;have adi:w21.cell? ⟨dD,1,none⟩ = some (.string fG):=(aK dx.out 1).trans rfl;have adj:w21.cell? ⟨dD,2,none⟩ = some (.slice none 0 0):=(aK dx.out 2).trans rfl;have adk:=aA dx.out 0;have adl:=aA dx.out 1;have adn:=aA dx.out 2))
          refine bodyPost_ret (j3 rfl _ _ dD 115 #[.string (⟨#[]⟩:ByteArray),.string (⟨#[]⟩:ByteArray),.slice none 0 0] (0,0) _ rfl (by (with_reducible repeat (first | refine aG ?_ _ | refine aH ?_ | refine aD ?_ _));refine bU (cs:=#[.string (⟨#[]⟩:ByteArray),.string (⟨#[]⟩:ByteArray),.slice none 0 0]) ?_ 2 _ rfl;(with_reducible repeat (first | refine aG ?_ _ | refine aH ?_ | refine aD ?_ _));refine bU (cs:=#[.string (⟨#[]⟩:ByteArray),.string fG,.slice none 0 0]) ?_ 1 _ rfl;(with_reducible repeat (first | refine aG ?_ _ | refine aH ?_ | refine aD ?_ _));refine bU (cs:=#[.string gH,.string fG,.slice none 0 0]) ?_ 0 _ rfl;(with_reducible repeat (first | refine aG ?_ _ | refine aH ?_ | refine aD ?_ _));exact dx.out) Try.underlying115 rfl (by kernel_rfl)) rfl ?_
          exact ⟨_,by first | rfl | (simp [aI,aJ] <;> rfl) | (simp [*,aI,aJ] <;> rfl),by first | exact Kd.jM _ _ _ _ _ | exact Kd.lD _ _ _ _ _ | exact Kd.lF _ _ _ _ _ | exact Kd.lu _ _ _ _ _ | exact Kd.lC _ _ _ _ _,by repeat (first | (with_reducible first | exact HB.out | apply ak | apply ah | apply au | refine aT ?_ iY.out | refine aT ?_ kN.out | refine aT ?_ oh.out) | exact HB.out)⟩
         ·rw [if_neg c20] at H
          have Uc:decide (a2 < Ae) = false:=decide_eq_false c20
          clear c20
          by_cases c25:iq.length < 8796093022208
          ·rw [if_pos c25] at H
           have abk:=aj.mk c25
           clear c25
           obtain ⟨Rb,hy128⟩:∃ y_:List ByteArray,y_ = (iq ++ [GX]):=⟨_,rfl⟩
           replace H:(bS.l0 k1 a0 Ae a2 iR (wrap64 (uI + 1)) eT iR j4 (a0.extract (a1:Int).toNat ((wrap64 (a1 + eT)):Int).toNat) (⟨#[]⟩:ByteArray) Rb) = some (r1,r2,r3,r4):=by first | (rw [hy128];with_reducible exact H) | (have GJ:=(Option.bind_some _ _).symm.trans H;rw [hy128];with_reducible exact GJ) | (have GJ:=(Option.bind_some _ _).symm.trans H;with_reducible exact GJ) | with_reducible exact H | (rw [hy128];exact H) | exact H
           have abl:=aj.mk hy128
           clear hy128
           have H':=aj.mk H
           clear H
           go_wp2_with (first | ((with_reducible refine aU (f:=92) rfl ?_);refine bP (some 43) rfl rfl Try.func92 (by kernel_rfl) rfl #[.string a0,.int .i64 dP] rfl (by (try simp only [List.map_toArray,List.map_cons,List.map_nil]);first | done | rfl | (simp only [List.length_drop,List.length_take];rfl) | (simp only [ByteArray.size_append,Int.natCast_add];rfl) | (rw [B.dX] <;> first | rfl | omega | (simp only [decide_eq_false_iff_not,decide_eq_true_eq,Int.not_lt,Nat.not_lt,gt_iff_lt] at * <;> omega))) ?_;(with_reducible refine (bC.calls k1 a0 dP GX Ae t127 _ WK.out).mono ?_);rintro e w26 ⟨rfl,hb⟩;refine ⟨_,rfl,?_⟩;have eP:=aj.mk (Kd.l8 (by (with_reducible repeat (first | apply Kd.fJ | apply Kd.gy | apply Kd.gI));exact dM.out) hb);have iE:=aj.mk (dS (g:=fO) (o:=.cells #[.int .i64 eT,.int .i64 iR,.int .i64 j4] 141 (0,0)) (by (with_reducible repeat (first | refine aG ?_ _ | refine aH ?_ | refine aD ?_ _));exact dH.out) hb);have jJ:=aj.mk (dS (g:=dD) (o:=.cells #[.string gH,.string fG,.slice none 0 0] 115 (0,0)) (by (with_reducible repeat (first | refine aG ?_ _ | refine aH ?_ | refine aD ?_ _));exact dx.out) hb);have jQ:=aj.mk (dS (g:=fE) (o:=.cells #[.string (a0.extract (a1:Int).toNat ((wrap64 (a1 + eT)):Int).toNat),.string (⟨#[]⟩:ByteArray),iT] 115 (0,0)) (by (with_reducible repeat (first | refine aG ?_ _ | refine aH ?_ | refine aD ?_ _));exact dQ.out) hb);have qZ:=aj.mk (bI (by repeat (first | (with_reducible first | exact HB.out | apply ak | apply ah | apply au | refine aT ?_ iY.out | refine aT ?_ kN.out | refine aT ?_ oh.out) | exact HB.out)) hb);clear dM;clear dH;clear dx;clear dQ;clear HB;have dM:=eP;have dH:=iE;have dx:=jJ;have dQ:=jQ;have HB:=qZ;clear eP iE jJ jQ qZ;(try clear hb);(try clear hb2);(try clear hk);(try clear hi);have ahw:=oo.out;have ahx:=ko.out;have ahy:=fq.out;have ahz:=gW.out;have ado:w26.cell? ⟨fE,0,none⟩ = some (.string (a0.extract (a1:Int).toNat ((wrap64 (a1 + eT)):Int).toNat)):=(aK dQ.out 0).trans rfl;have adp:w26.cell? ⟨fE,1,none⟩ = some (.string (⟨#[]⟩:ByteArray)):=(aK dQ.out 1).trans rfl;have adq:w26.cell? ⟨fE,2,none⟩ = some (iT):=(aK dQ.out 2).trans rfl;have adr:=aA dQ.out 0;have ads:=aA dQ.out 1;have adt:=aA dQ.out 2) | ((with_reducible refine oK (b:=.append) (xs:=#[.tmp 56,.tmp 58]) rfl ?_);at_builtin;refine Kd.yT Kd.string (w0:=w) w.heap.size rfl (.tmp 56) (.tmp 58) 25 9 (.string ⟨#[]⟩) 16 rfl Try.underlying25 Iz rfl (by decide) (by omega) iT iq GX [.string GX] (fun _=>True) (fun _=>False) rfl rfl ?aP (fun _ hk=>hk.elim) ?aF ?aO ?aB ?aS ?aL ?_;(case aP=>exact rfl);(case aB=>exact (by repeat (first | (with_reducible first | exact HB.out | apply ak | apply ah | apply au | refine aT ?_ iY.out | refine aT ?_ kN.out | refine aT ?_ oh.out) | exact HB.out)));(case aF=>exact (fun _ _=>trivial));(case aO=>exact (by (with_reducible repeat (first | apply Kd.fJ | apply Kd.gy | apply Kd.gI));exact dM.out));(case aS=>exact (bK (by repeat (first | (with_reducible first | exact HB.out | apply ak | apply ah | apply au | refine aT ?_ iY.out | refine aT ?_ kN.out | refine aT ?_ oh.out) | exact HB.out))));(case aL=>have:=abk.out;omega);intro ais w30 ho hb hg hat;rw [← abl.out] at ho;have eP:=aj.mk (qF (g:=fO) (o:=.cells #[.int .i64 eT,.int .i64 iR,.int .i64 j4] 141 (0,0)) (by (with_reducible repeat (first | refine aG ?_ _ | refine aH ?_ | refine aD ?_ _));exact dH.out) hg (Kd.QB dM.out dH.out (by decide)));have iE:=aj.mk (qF (g:=dD) (o:=.cells #[.string gH,.string fG,.slice none 0 0] 115 (0,0)) (by (with_reducible repeat (first | refine aG ?_ _ | refine aH ?_ | refine aD ?_ _));exact dx.out) hg (Kd.QB dM.out dx.out (by decide)));have jJ:=aj.mk (qF (g:=fE) (o:=.cells #[.string (a0.extract (a1:Int).toNat ((wrap64 (a1 + eT)):Int).toNat),.string (⟨#[]⟩:ByteArray),iT] 115 (0,0)) (by (with_reducible repeat (first | refine aG ?_ _ | refine aH ?_ | refine aD ?_ _));exact dQ.out) hg (Kd.QB dM.out dQ.out (by decide)));have jQ:=aj.mk (hb);have qZ:=aj.mk (ho);clear dH;clear dx;clear dQ;clear HB;clear dM;have dH:=eP;have dx:=iE;have dQ:=jJ;have HB:=jQ;have Ud:=qZ;clear eP iE jJ jQ qZ;clear ho hb hg hat;obtain ⟨abm,abn,afW⟩:=Kd.Cy Ud.out;subst afW;have IX:w30.cell? ⟨fE,0,none⟩ = some (.string (a0.extract (a1:Int).toNat ((wrap64 (a1 + eT)):Int).toNat)):=(aK dQ.out 0).trans rfl;have IY:w30.cell? ⟨fE,1,none⟩ = some (.string (⟨#[]⟩:ByteArray)):=(aK dQ.out 1).trans rfl;have IZ:w30.cell? ⟨fE,2,none⟩ = some (iT):=(aK dQ.out 2).trans rfl;have I4:=aA dQ.out 0;have I5:=aA dQ.out 1;have I6:=aA dQ.out 2))
           go_roundg k1
           case measure=>have:=wB.out;omega
           case rel=>exact ⟨(Ae),(wrap64 (uI + 1)),(gH),(fG),(Rb),(.slice abm Rb.length abn),(by first | rfl | (simp;done) | (simp [*];done) | (simp [B.aX];done) | (simp [B.aY];done)),(by first | rfl | (simp;done) | (simp [*];done) | (simp [B.aX];done) | (simp [B.aY];done)),H',⟨by have:=wB.out;omega⟩,⟨by (with_reducible repeat (first | apply Kd.fJ | apply Kd.gy | apply Kd.gI));exact Kd.qb (Kd.ug (p:=⟨fE,2,none⟩) (Kd.uh Ud.out dQ.out (by decide)) (fun _ hk=>hk.2) (.slice abm Rb.length abn)) (fun _ hk=>trivial)⟩,⟨by (with_reducible repeat (first | refine aG ?_ _ | refine aH ?_ | refine aD ?_ _));refine oJ ?_ ko.out _;(with_reducible repeat (first | refine aG ?_ _ | refine aH ?_ | refine aD ?_ _));exact dH.out⟩,⟨by (with_reducible repeat (first | refine aG ?_ _ | refine aH ?_ | refine aD ?_ _));refine oJ ?_ gW.out _;(with_reducible repeat (first | refine aG ?_ _ | refine aH ?_ | refine aD ?_ _));exact dx.out⟩,⟨by (with_reducible repeat (first | refine aG ?_ _ | refine aH ?_ | refine aD ?_ _));refine bU (cs:=#[.string (a0.extract (a1:Int).toNat ((wrap64 (a1 + eT)):Int).toNat),.string (⟨#[]⟩:ByteArray),iT]) ?_ 2 _ rfl;(with_reducible repeat (first | refine aG ?_ _ | refine aH ?_ | refine aD ?_ _));exact dQ.out⟩,⟨by repeat (first | (with_reducible first | exact HB.out | apply ak | apply ah | apply au | refine aT ?_ iY.out | refine aT ?_ kN.out | refine aT ?_ oh.out) | exact HB.out)⟩⟩
          ·rw [if_neg c25] at H
           exact absurd H (by simp)
        ·rw [if_neg c19] at H
         have abh:(t127 == 0) = false:=beq_eq_false_iff_ne.mpr c19
         have abj:(t127 != 0) = true:=bne_iff_ne.mpr c19
         simp only [Option.some.injEq,Prod.mk.injEq] at H
         obtain ⟨rfl,rfl,rfl,rfl⟩:=H
         go_wp2_with (first | ((with_reducible refine aU (f:=92) rfl ?_);refine bP (some 43) rfl rfl Try.func92 (by kernel_rfl) rfl #[.string a0,.int .i64 dP] rfl (by (try simp only [List.map_toArray,List.map_cons,List.map_nil]);first | done | rfl | (simp only [List.length_drop,List.length_take];rfl) | (simp only [ByteArray.size_append,Int.natCast_add];rfl) | (rw [B.dX] <;> first | rfl | omega | (simp only [decide_eq_false_iff_not,decide_eq_true_eq,Int.not_lt,Nat.not_lt,gt_iff_lt] at * <;> omega))) ?_;(with_reducible refine (bC.calls k1 a0 dP GX Ae t127 _ WK.out).mono ?_);rintro e w33 ⟨rfl,hb⟩;refine ⟨_,rfl,?_⟩;have eP:=aj.mk (Kd.l8 (by (with_reducible repeat (first | apply Kd.fJ | apply Kd.gy | apply Kd.gI));exact dM.out) hb);have iE:=aj.mk (dS (g:=fO) (o:=.cells #[.int .i64 eT,.int .i64 iR,.int .i64 j4] 141 (0,0)) (by (with_reducible repeat (first | refine aG ?_ _ | refine aH ?_ | refine aD ?_ _));exact dH.out) hb);have jJ:=aj.mk (dS (g:=dD) (o:=.cells #[.string gH,.string fG,.slice none 0 0] 115 (0,0)) (by (with_reducible repeat (first | refine aG ?_ _ | refine aH ?_ | refine aD ?_ _));exact dx.out) hb);have jQ:=aj.mk (dS (g:=fE) (o:=.cells #[.string (a0.extract (a1:Int).toNat ((wrap64 (a1 + eT)):Int).toNat),.string (⟨#[]⟩:ByteArray),iT] 115 (0,0)) (by (with_reducible repeat (first | refine aG ?_ _ | refine aH ?_ | refine aD ?_ _));exact dQ.out) hb);have qZ:=aj.mk (bI (by repeat (first | (with_reducible first | exact HB.out | apply ak | apply ah | apply au | refine aT ?_ iY.out | refine aT ?_ kN.out | refine aT ?_ oh.out) | exact HB.out)) hb);clear dM;clear dH;clear dx;clear dQ;clear HB;have dM:=eP;have dH:=iE;have dx:=jJ;have dQ:=jQ;have HB:=qZ;clear eP iE jJ jQ qZ;(try clear hb);(try clear hb2);(try clear hk);(try clear hi);have ahA:=kg.out;have ahB:=fF.out;have ahC:=gW.out;have ahD:=fq.out;have adu:w33.cell? ⟨dD,0,none⟩ = some (.string gH):=(aK dx.out 0).trans rfl;have adv:w33.cell? ⟨dD,1,none⟩ = some (.string fG):=(aK dx.out 1).trans rfl;have adw:w33.cell? ⟨dD,2,none⟩ = some (.slice none 0 0):=(aK dx.out 2).trans rfl;have adx:=aA dx.out 0;have ady:=aA dx.out 1;have adz:=aA dx.out 2))
         refine bodyPost_ret (j3 rfl _ _ dD 115 #[.string (⟨#[]⟩:ByteArray),.string (⟨#[]⟩:ByteArray),.slice none 0 0] (0,0) _ rfl (by (with_reducible repeat (first | refine aG ?_ _ | refine aH ?_ | refine aD ?_ _));refine bU (cs:=#[.string (⟨#[]⟩:ByteArray),.string (⟨#[]⟩:ByteArray),.slice none 0 0]) ?_ 2 _ rfl;(with_reducible repeat (first | refine aG ?_ _ | refine aH ?_ | refine aD ?_ _));refine bU (cs:=#[.string (⟨#[]⟩:ByteArray),.string fG,.slice none 0 0]) ?_ 1 _ rfl;(with_reducible repeat (first | refine aG ?_ _ | refine aH ?_ | refine aD ?_ _));refine bU (cs:=#[.string gH,.string fG,.slice none 0 0]) ?_ 0 _ rfl;(with_reducible repeat (first | refine aG ?_ _ | refine aH ?_ | refine aD ?_ _));exact dx.out) Try.underlying115 rfl (by kernel_rfl)) rfl ?_
         exact ⟨_,by first | rfl | (simp [aI,aJ] <;> rfl) | (simp [*,aI,aJ] <;> rfl),by first | exact Kd.jM _ _ _ _ _ | exact Kd.lD _ _ _ _ _ | exact Kd.lF _ _ _ _ _ | exact Kd.lu _ _ _ _ _ | exact Kd.lC _ _ _ _ _,by repeat (first | (with_reducible first | exact HB.out | apply ak | apply ah | apply au | refine aT ?_ iY.out | refine aT ?_ kN.out | refine aT ?_ oh.out) | exact HB.out)⟩
       ·rw [if_neg c17] at H
        have abg:decide (uI < iR) = false:=decide_eq_false c17
        clear c17
        by_cases c37:0 ≤ dP
        ·rw [if_pos c37] at H
         have ahE:=eq_true c37
         have ahF:decide (0 ≤ dP) = true:=decide_eq_true c37
         clear c37
         by_cases Ec:dP ≤ a2
         ·rw [if_pos Ec] at H
          have Ue:=eq_true Ec
          have ahG:decide (dP ≤ a2) = true:=decide_eq_true Ec
          clear Ec
          by_cases OB:a2 ≤ (a0.size:Int)
          ·rw [if_pos OB] at H
           have ahH:=eq_true OB
           have ahI:decide (a2 ≤ (a0.size:Int)) = true:=decide_eq_true OB
           clear OB
           simp only [Option.some.injEq,Prod.mk.injEq] at H
           obtain ⟨rfl,rfl,rfl,rfl⟩:=H
           have ahJ:=oo.out
           have ahK:=ko.out
           have ahL:=fq.out
           have ahM:=gW.out
           have Rc:wr.cell? ⟨fE,0,none⟩ = some (.string (a0.extract (a1:Int).toNat ((wrap64 (a1 + eT)):Int).toNat)):=(aK dQ.out 0).trans rfl
           have Rf:wr.cell? ⟨fE,1,none⟩ = some (.string (⟨#[]⟩:ByteArray)):=(aK dQ.out 1).trans rfl
           have Rh:wr.cell? ⟨fE,2,none⟩ = some (iT):=(aK dQ.out 2).trans rfl
           have Ri:=aA dQ.out 0
           have Rj:=aA dQ.out 1
           have Rk:=aA dQ.out 2
           try go_wp2
           have eP:aj (Kd.R Kd.string 9 (wr.setCell ⟨fE,1,none⟩ (.string (a0.extract (dP:Int).toNat (a2:Int).toNat))) w.heap.size (fun _=>True) iT iq):=⟨by (with_reducible repeat (first | apply Kd.fJ | apply Kd.gy | apply Kd.gI));exact Kd.qb (Kd.ug (p:=⟨fE,1,none⟩) (Kd.uh dM.out dQ.out (by decide)) (fun _ hk=>hk.2) (.string (a0.extract (dP:Int).toNat (a2:Int).toNat))) (fun _ hk=>trivial)⟩
           have iE:aj ((wr.setCell ⟨fE,1,none⟩ (.string (a0.extract (dP:Int).toNat (a2:Int).toNat))).heap[fO]? = some (.cells #[.int .i64 eT,.int .i64 iR,.int .i64 j4] 141 (0,0))):=⟨by (with_reducible repeat (first | refine aG ?_ _ | refine aH ?_ | refine aD ?_ _));refine oJ ?_ ko.out _;(with_reducible repeat (first | refine aG ?_ _ | refine aH ?_ | refine aD ?_ _));exact dH.out⟩
           have jJ:aj ((wr.setCell ⟨fE,1,none⟩ (.string (a0.extract (dP:Int).toNat (a2:Int).toNat))).heap[dD]? = some (.cells #[.string gH,.string fG,.slice none 0 0] 115 (0,0))):=⟨by (with_reducible repeat (first | refine aG ?_ _ | refine aH ?_ | refine aD ?_ _));refine oJ ?_ gW.out _;(with_reducible repeat (first | refine aG ?_ _ | refine aH ?_ | refine aD ?_ _));exact dx.out⟩
           have jQ:aj ((wr.setCell ⟨fE,1,none⟩ (.string (a0.extract (dP:Int).toNat (a2:Int).toNat))).heap[fE]? = some (.cells #[.string (a0.extract (a1:Int).toNat ((wrap64 (a1 + eT)):Int).toNat),.string (a0.extract (dP:Int).toNat (a2:Int).toNat),iT] 115 (0,0))):=⟨by (with_reducible repeat (first | refine aG ?_ _ | refine aH ?_ | refine aD ?_ _));refine bU (cs:=#[.string (a0.extract (a1:Int).toNat ((wrap64 (a1 + eT)):Int).toNat),.string (⟨#[]⟩:ByteArray),iT]) ?_ 1 _ rfl;(with_reducible repeat (first | refine aG ?_ _ | refine aH ?_ | refine aD ?_ _));exact dQ.out⟩
           have qZ:aj (Below w.heap.size w (wr.setCell ⟨fE,1,none⟩ (.string (a0.extract (dP:Int).toNat (a2:Int).toNat)))):=⟨by repeat (first | (with_reducible first | exact HB.out | apply ak | apply ah | apply au | refine aT ?_ iY.out | refine aT ?_ kN.out | refine aT ?_ oh.out) | exact HB.out)⟩
           (try clear dM)
           (try clear dH)
           (try clear dx)
           (try clear dQ)
           (try clear HB)
           generalize (wr.setCell ⟨fE,1,none⟩ (.string (a0.extract (dP:Int).toNat (a2:Int).toNat))) = w43 at eP iE jJ jQ qZ ⊢
           have dM:=eP
           have dH:=iE
           have dx:=jJ
           have dQ:=jQ
           have HB:=qZ
           clear eP iE jJ jQ qZ
           have eP:=aj.mk (Kd.gI dM.out)
           have iE:=aj.mk (aH dH.out)
           have jJ:=aj.mk (aH dx.out)
           have jQ:=aj.mk (aH dQ.out)
           have qZ:=aj.mk (au HB.out)
           clear dM
           clear dH
           clear dx
           clear dQ
           clear HB
           have dM:=eP
           have dH:=iE
           have dx:=jJ
           have dQ:=jQ
           have HB:=qZ
           clear eP iE jJ jQ qZ
           obtain ⟨WM,WO,abo⟩:=Kd.Cy dM.out
           (first | subst abo | (injection abo with f1_ f2_ f3_;have f4_:=f1_.symm;have f5_:=f3_.symm;clear f1_ f2_ f3_;subst f4_;subst f5_))
           refine Nl (n:=9) (S:=fun w'=>w'.cell? ⟨fE,0,none⟩ = some (.string (a0.extract (a1:Int).toNat ((wrap64 (a1 + eT)):Int).toNat)) ∧ w'.cell? ⟨fE,1,none⟩ = some (.string (a0.extract (dP:Int).toNat (a2:Int).toNat)) ∧ w'.cell? ⟨fE,2,none⟩ = some (.slice WM iq.length WO) ∧ w'.cell? ⟨fO,0,none⟩ = some (.int .i64 eT) ∧ w'.cell? ⟨fO,1,none⟩ = some (.int .i64 iR) ∧ w'.cell? ⟨fO,2,none⟩ = some (.int .i64 j4)) (ds:=[]) #[false,false,false,false,false,false,false,false,false] (by kernel_rfl) rfl rfl ⟨(aK dQ.out 0).trans rfl,(aK dQ.out 1).trans rfl,(aK dQ.out 2).trans rfl,(aK dH.out 0).trans rfl,(aK dH.out 1).trans rfl,(aK dH.out 2).trans rfl⟩ (fun hHeld=>?_);refine A9 bS.aa9 bS.WL (fun wW HW_=>?_)
           generalize w43.drew = w44 at dM dH dx dQ HB hHeld ⊢
           refine lU (i:=1) (N:=some 69) (v:=?_) (a':=?_) #[false,true,false,false,false,false,false,false,false] rfl rfl (jP wW.out (by kernel_rfl)) (fun _ _ _ h=>h) (Or.inl ⟨by rfl,?_⟩) ?_ ?_
           rotate_left
           ·intro w'
            go_simp
            with_reducible rfl
           rotate_left
           ·simp only [Act.put,List.setIfInBounds_toArray,List.set_cons_zero,List.set_cons_succ,gV,iB]
            rfl
           refine lU (i:=4) (N:=some 72) (v:=?_) (a':=?_) #[false,true,false,false,true,false,false,false,false] rfl rfl (jP wW.out (by kernel_rfl)) (fun _ _ _ h=>h) (Or.inl ⟨by rfl,?_⟩) ?_ ?_
           rotate_left
           ·intro w'
            go_simp
            with_reducible rfl
           rotate_left
           ·simp only [Act.put,List.setIfInBounds_toArray,List.set_cons_zero,List.set_cons_succ,gV,iB]
            rfl
           refine EB (i:=0) (N:=some 68) (v:=?_) (a':=?_) #[true,true,false,false,true,false,false,false,false] rfl rfl (zf wW.out HW_.out (by kernel_rfl)) (fun _ _ _ h=>h) (Or.inl ⟨by rfl,?_⟩) hHeld ?_ ?_
           rotate_left
           ·rintro w' ⟨s0,s1,s2,s3,s4,s5⟩
            go_simp
            with_reducible rfl
           rotate_left
           ·simp only [Act.put,List.setIfInBounds_toArray,List.set_cons_zero,List.set_cons_succ,gV,iB]
            rfl
           refine EB (i:=2) (N:=some 70) (v:=?_) (a':=?_) #[true,true,true,false,true,false,false,false,false] rfl rfl (zf wW.out HW_.out (by kernel_rfl)) (fun _ _ _ h=>h) (Or.inl ⟨by rfl,?_⟩) hHeld ?_ ?_
           rotate_left
           ·rintro w' ⟨s0,s1,s2,s3,s4,s5⟩
            go_simp
            with_reducible rfl
           rotate_left
           ·simp only [Act.put,List.setIfInBounds_toArray,List.set_cons_zero,List.set_cons_succ,gV,iB]
            rfl
           refine lU (i:=3) (N:=some 71) (v:=?_) (a':=?_) #[true,true,true,true,true,false,false,false,false] rfl rfl (jP wW.out (by kernel_rfl)) (fun _ _ _ h=>h) (Or.inl ⟨by rfl,?_⟩) ?_ ?_
           rotate_left
           ·intro w'
            go_simp
            with_reducible rfl
           rotate_left
           ·simp only [Act.put,List.setIfInBounds_toArray,List.set_cons_zero,List.set_cons_succ,gV,iB]
            rfl
           refine EB (i:=5) (N:=some 73) (v:=?_) (a':=?_) #[true,true,true,true,true,true,false,false,false] rfl rfl (zf wW.out HW_.out (by kernel_rfl)) (fun _ _ _ h=>h) (Or.inl ⟨by rfl,?_⟩) hHeld ?_ ?_
           rotate_left
           ·rintro w' ⟨s0,s1,s2,s3,s4,s5⟩
            go_simp
            with_reducible rfl
           rotate_left
           ·simp only [Act.put,List.setIfInBounds_toArray,List.set_cons_zero,List.set_cons_succ,gV,iB]
            rfl
           refine lU (i:=6) (N:=some 74) (v:=?_) (a':=?_) #[true,true,true,true,true,true,true,false,false] rfl rfl (jP wW.out (by kernel_rfl)) (fun _ _ _ h=>h) (Or.inl ⟨by rfl,?_⟩) ?_ ?_
           rotate_left
           ·intro w'
            go_simp
            with_reducible rfl
           rotate_left
           ·simp only [Act.put,List.setIfInBounds_toArray,List.set_cons_zero,List.set_cons_succ,gV,iB]
            rfl
           refine Ww (i:=7) (N:=none) #[true,true,true,true,true,true,true,true,false] rfl rfl (GI wW.out (by kernel_rfl)) (by decide) (fun K hK=>?_)
           have ait:w44.cell? ⟨dD,0,none⟩ = some (.string gH):=(aK dx.out 0).trans rfl
           have ahN:=aA dx.out 0
           have adA:=fF.out
           have adB:=fq.out
           have adC:=kg.out
           have adD:=gW.out
           have aiu:w44.cell? ⟨dD,1,none⟩ = some (.string fG):=(aK dx.out 1).trans rfl
           have ahO:=aA dx.out 1
           have adE:=fF.out
           have adF:=fq.out
           have adG:=kg.out
           have adH:=gW.out
           have aiv:w44.cell? ⟨dD,2,none⟩ = some (.slice none 0 0):=(aK dx.out 2).trans rfl
           have ahP:=aA dx.out 2
           have adI:=fF.out
           have adJ:=fq.out
           have adK:=kg.out
           have adL:=gW.out
           refine aav (w1:=?_) (by rfl) rfl ?_ ?_
           rotate_left
           ·go_simp
            rfl
           refine hK.out _ _ ⟨((cell_far (p:=⟨dD,_,none⟩) fq.out _).trans (((cell_far (p:=⟨dD,_,none⟩) fq.out _).trans (((cell_far (p:=⟨dD,_,none⟩) fq.out _).trans (hHeld.1)))))),((cell_far (p:=⟨dD,_,none⟩) fq.out _).trans (((cell_far (p:=⟨dD,_,none⟩) fq.out _).trans (((cell_far (p:=⟨dD,_,none⟩) fq.out _).trans (hHeld.2.1)))))),((cell_far (p:=⟨dD,_,none⟩) fq.out _).trans (((cell_far (p:=⟨dD,_,none⟩) fq.out _).trans (((cell_far (p:=⟨dD,_,none⟩) fq.out _).trans (hHeld.2.2.1)))))),((cell_far (p:=⟨dD,_,none⟩) fF.out _).trans (((cell_far (p:=⟨dD,_,none⟩) fF.out _).trans (((cell_far (p:=⟨dD,_,none⟩) fF.out _).trans (hHeld.2.2.2.1)))))),((cell_far (p:=⟨dD,_,none⟩) fF.out _).trans (((cell_far (p:=⟨dD,_,none⟩) fF.out _).trans (((cell_far (p:=⟨dD,_,none⟩) fF.out _).trans (hHeld.2.2.2.2.1)))))),((cell_far (p:=⟨dD,_,none⟩) fF.out _).trans (((cell_far (p:=⟨dD,_,none⟩) fF.out _).trans (((cell_far (p:=⟨dD,_,none⟩) fF.out _).trans (hHeld.2.2.2.2.2))))))⟩ (fun hHeld=>?_)
           clear hK K
           refine lU (i:=8) (N:=some 9) (v:=?_) (a':=?_) #[true,true,true,true,true,true,true,true,true] rfl rfl (jP wW.out (by kernel_rfl)) (fun _ _ _ h=>h) (Or.inl ⟨by rfl,?_⟩) ?_ ?_
           rotate_left
           ·intro w'
            go_simp
            with_reducible rfl
           rotate_left
           ·simp only [Act.put,List.setIfInBounds_toArray,List.set_cons_zero,List.set_cons_succ,gV,iB]
            rfl
           refine TR (Iw wW.out (by kernel_rfl)) ?_
           try go_wp2
           refine bodyPost_ret (j3 rfl _ _ dD 115 #[.string (a0.extract (a1:Int).toNat ((wrap64 (a1 + eT)):Int).toNat),.string (a0.extract (dP:Int).toNat (a2:Int).toNat),.slice WM iq.length WO] (0,0) _ rfl (by (with_reducible repeat (first | refine aG ?_ _ | refine aH ?_ | refine aD ?_ _));refine bU (cs:=#[.string (a0.extract (a1:Int).toNat ((wrap64 (a1 + eT)):Int).toNat),.string (a0.extract (dP:Int).toNat (a2:Int).toNat),.slice none 0 0]) ?_ 2 _ rfl;(with_reducible repeat (first | refine aG ?_ _ | refine aH ?_ | refine aD ?_ _));refine bU (cs:=#[.string (a0.extract (a1:Int).toNat ((wrap64 (a1 + eT)):Int).toNat),.string fG,.slice none 0 0]) ?_ 1 _ rfl;(with_reducible repeat (first | refine aG ?_ _ | refine aH ?_ | refine aD ?_ _));refine bU (cs:=#[.string gH,.string fG,.slice none 0 0]) ?_ 0 _ rfl;(with_reducible repeat (first | refine aG ?_ _ | refine aH ?_ | refine aD ?_ _));exact dx.out) Try.underlying115 rfl (by kernel_rfl)) rfl ?_
           exact ⟨_,by first | rfl | (simp [aI,aJ] <;> rfl) | (simp [*,aI,aJ] <;> rfl),by (with_reducible repeat (first | apply Kd.fJ | apply Kd.gy | apply Kd.gI));exact Kd.qb (Kd.ug (p:=⟨dD,2,none⟩) (Kd.ug (p:=⟨dD,1,none⟩) (Kd.ug (p:=⟨dD,0,none⟩) (Kd.uh dM.out dx.out (by decide)) (fun _ hk=>hk.2) (.string (a0.extract (a1:Int).toNat ((wrap64 (a1 + eT)):Int).toNat))) (fun _ hk=>hk.2) (.string (a0.extract (dP:Int).toNat (a2:Int).toNat))) (fun _ hk=>hk.2) (.slice WM iq.length WO)) (fun _ hk=>trivial),by repeat (first | (with_reducible first | exact HB.out | apply ak | apply ah | apply au | refine aT ?_ iY.out | refine aT ?_ kN.out | refine aT ?_ oh.out) | exact HB.out)⟩
          ·rw [if_neg OB] at H
           exact absurd H (by simp)
         ·rw [if_neg Ec] at H
          exact absurd H (by simp)
        ·rw [if_neg c37] at H
         exact absurd H (by simp)
    ·rw [if_neg c8] at H
     exact absurd H (by simp)
   ·rw [if_neg c7] at H
    exact absurd H (by simp)
  ·rw [if_neg c6] at H
   exact absurd H (by simp)
 ·rw [if_neg c5] at H
  have qg:decide (eT ≤ (wrap64 (a2 - a1))) = false:=decide_eq_false c5
  (try (have vJ:decide (eT ≤ ((a2 - a1))) = false:=by have h_:decide (eT ≤ (wrap64 (a2 - a1))) = false:=decide_eq_false c5;rw [B.dX (by omega) (by omega)] at h_;exact h_))
  clear c5
  simp only [Option.some.injEq,Prod.mk.injEq] at H
  obtain ⟨rfl,rfl,rfl,rfl⟩:=H
  go_enter Try.func75,Try.ntmps75
  go_wp2_with (first | ((with_reducible refine gL (N:=7) rfl ?_);refine fU ?hg (N:=7) ?hd (cs:=#[.int .i64 eT,.int .i64 iR,.int .i64 j4]) (t:=141) ?hr ?_;(case hd=>rfl);(case hg=>rfl);(case hr=>first | (go_simp;done) | (go_simp;rfl));intro fO hg w49 gX hb;have eP:=aj.mk (bI (by repeat (first | (with_reducible first | exact HB.out | apply ak | apply ah | apply au) | exact HB.out)) hb);have iE:=aj.mk (gX);have jJ:=aj.mk ((by rw [hg];exact (bK (by repeat (first | (with_reducible first | exact HB.out | apply ak | apply ah | apply au) | exact HB.out))):w.heap.size ≤ fO));have jQ:=aj.mk ((by rw [hg];exact (bK (by repeat (first | (with_reducible first | exact HB.out | apply ak | apply ah | apply au) | exact HB.out))):w.heap.size ≤ fO));clear HB;have HB:=eP;have dH:=iE;have abd:=jJ;have iY:=jQ;clear eP iE jJ jQ;clear hb gX hg) | ((with_reducible refine gL (N:=8) rfl ?_);refine fU ?hg (N:=8) ?hd (cs:=#[.string (⟨#[]⟩:ByteArray),.string (⟨#[]⟩:ByteArray),.slice none 0 0]) (t:=115) ?hr ?_;(case hd=>rfl);(case hg=>rfl);(case hr=>first | (go_simp;done) | (go_simp;rfl));intro dD hg w50 gX hb;have eP:=aj.mk (dS (g:=fO) (o:=.cells #[.int .i64 eT,.int .i64 iR,.int .i64 j4] 141 (0,0)) (by (with_reducible repeat (first | refine aG ?_ _ | refine aH ?_ | refine aD ?_ _));exact dH.out) hb);have iE:=aj.mk (bI (by repeat (first | (with_reducible first | exact HB.out | apply ak | apply ah | apply au | refine aT ?_ iY.out) | exact HB.out)) hb);have jJ:=aj.mk (gX);have jQ:=aj.mk ((by rw [hg];exact (bK (by repeat (first | (with_reducible first | exact HB.out | apply ak | apply ah | apply au | refine aT ?_ iY.out) | exact HB.out))):w.heap.size ≤ dD));have qZ:=aj.mk ((by rw [hg];exact (bK (by repeat (first | (with_reducible first | exact HB.out | apply ak | apply ah | apply au | refine aT ?_ iY.out) | exact HB.out))):w.heap.size ≤ dD));have NZ:=aj.mk ((by rw [hg];exact Nat.ne_of_lt (jO (g:=fO) (o:=.cells #[.int .i64 eT,.int .i64 iR,.int .i64 j4] 141 (0,0)) (by (with_reducible repeat (first | refine aG ?_ _ | refine aH ?_ | refine aD ?_ _));exact dH.out)):fO ≠ dD));have N7:=aj.mk ((by rw [hg];exact Nat.ne_of_gt (jO (g:=fO) (o:=.cells #[.int .i64 eT,.int .i64 iR,.int .i64 j4] 141 (0,0)) (by (with_reducible repeat (first | refine aG ?_ _ | refine aH ?_ | refine aD ?_ _));exact dH.out)):dD ≠ fO));clear dH;clear HB;have dH:=eP;have HB:=iE;have dx:=jJ;have abe:=jQ;have kN:=qZ;have fF:=NZ;have kg:=N7;clear eP iE jJ jQ qZ NZ N7;clear hb gX hg) | ((with_reducible refine gL (N:=10) rfl ?_);refine fU ?hg (N:=10) ?hd (cs:=#[.string (⟨#[]⟩:ByteArray),.string (⟨#[]⟩:ByteArray),.slice none 0 0]) (t:=115) ?hr ?_;(case hd=>rfl);(case hg=>rfl);(case hr=>first | (go_simp;done) | (go_simp;rfl));intro fE hg Yl gX hb;have eP:=aj.mk (dS (g:=fO) (o:=.cells #[.int .i64 eT,.int .i64 iR,.int .i64 j4] 141 (0,0)) (by (with_reducible repeat (first | refine aG ?_ _ | refine aH ?_ | refine aD ?_ _));exact dH.out) hb);have iE:=aj.mk (dS (g:=dD) (o:=.cells #[.string (⟨#[]⟩:ByteArray),.string (⟨#[]⟩:ByteArray),.slice none 0 0] 115 (0,0)) (by (with_reducible repeat (first | refine aG ?_ _ | refine aH ?_ | refine aD ?_ _));exact dx.out) hb);have jJ:=aj.mk (bI (by repeat (first | (with_reducible first | exact HB.out | apply ak | apply ah | apply au | refine aT ?_ iY.out | refine aT ?_ kN.out) | exact HB.out)) hb);have jQ:=aj.mk (gX);have qZ:=aj.mk ((by rw [hg];exact (bK (by repeat (first | (with_reducible first | exact HB.out | apply ak | apply ah | apply au | refine aT ?_ iY.out | refine aT ?_ kN.out) | exact HB.out))):w.heap.size ≤ fE));have NZ:=aj.mk ((by rw [hg];exact (bK (by repeat (first | (with_reducible first | exact HB.out | apply ak | apply ah | apply au | refine aT ?_ iY.out | refine aT ?_ kN.out) | exact HB.out))):w.heap.size ≤ fE));have N7:=aj.mk ((by rw [hg];exact Nat.ne_of_lt (jO (g:=fO) (o:=.cells #[.int .i64 eT,.int .i64 iR,.int .i64 j4] 141 (0,0)) (by (with_reducible repeat (first | refine aG ?_ _ | refine aH ?_ | refine aD ?_ _));exact dH.out)):fO ≠ fE));have n7_:=aj.mk ((by rw [hg];exact Nat.ne_of_gt (jO (g:=fO) (o:=.cells #[.int .i64 eT,.int .i64 iR,.int .i64 j4] 141 (0,0)) (by (with_reducible repeat (first | refine aG ?_ _ | refine aH ?_ | refine aD ?_ _));exact dH.out)):fE ≠ fO));have n8_:=aj.mk ((by rw [hg];exact Nat.ne_of_lt (jO (g:=dD) (o:=.cells #[.string (⟨#[]⟩:ByteArray),.string (⟨#[]⟩:ByteArray),.slice none 0 0] 115 (0,0)) (by (with_reducible repeat (first | refine aG ?_ _ | refine aH ?_ | refine aD ?_ _));exact dx.out)):dD ≠ fE));have n9_:=aj.mk ((by rw [hg];exact Nat.ne_of_gt (jO (g:=dD) (o:=.cells #[.string (⟨#[]⟩:ByteArray),.string (⟨#[]⟩:ByteArray),.slice none 0 0] 115 (0,0)) (by (with_reducible repeat (first | refine aG ?_ _ | refine aH ?_ | refine aD ?_ _));exact dx.out)):fE ≠ dD));clear dH;clear dx;clear HB;have dH:=eP;have dx:=iE;have HB:=jJ;have dQ:=jQ;have abf:=qZ;have oh:=NZ;have ko:=N7;have oo:=n7_;have gW:=n8_;have fq:=n9_;clear eP iE jJ jQ qZ NZ N7 n7_ n8_ n9_;clear hb gX hg;have ahQ:=fF.out;have ahR:=kg.out;have ahS:=ko.out;have ahT:=oo.out;have adM:Yl.cell? ⟨fO,0,none⟩ = some (.int .i64 eT):=(aK dH.out 0).trans rfl;have adN:Yl.cell? ⟨fO,1,none⟩ = some (.int .i64 iR):=(aK dH.out 1).trans rfl;have adO:Yl.cell? ⟨fO,2,none⟩ = some (.int .i64 j4):=(aK dH.out 2).trans rfl;have adP:=aA dH.out 0;have adQ:=aA dH.out 1;have adR:=aA dH.out 2;have ahU:=gW.out;have ahV:=fq.out;have adS:Yl.cell? ⟨dD,0,none⟩ = some (.string (⟨#[]⟩:ByteArray)):=(aK dx.out 0).trans rfl;have adT:Yl.cell? ⟨dD,1,none⟩ = some (.string (⟨#[]⟩:ByteArray)):=(aK dx.out 1).trans rfl;have adU:Yl.cell? ⟨dD,2,none⟩ = some (.slice none 0 0):=(aK dx.out 2).trans rfl;have adV:=aA dx.out 0;have adW:=aA dx.out 1;have adX:=aA dx.out 2))
  refine bodyPost_ret (j3 rfl _ _ dD 115 #[.string (⟨#[]⟩:ByteArray),.string (⟨#[]⟩:ByteArray),.slice none 0 0] (0,0) _ rfl (by (with_reducible repeat (first | refine aG ?_ _ | refine aH ?_ | refine aD ?_ _));refine bU (cs:=#[.string (⟨#[]⟩:ByteArray),.string (⟨#[]⟩:ByteArray),.slice none 0 0]) ?_ 2 _ rfl;(with_reducible repeat (first | refine aG ?_ _ | refine aH ?_ | refine aD ?_ _));refine bU (cs:=#[.string (⟨#[]⟩:ByteArray),.string (⟨#[]⟩:ByteArray),.slice none 0 0]) ?_ 1 _ rfl;(with_reducible repeat (first | refine aG ?_ _ | refine aH ?_ | refine aD ?_ _));refine bU (cs:=#[.string (⟨#[]⟩:ByteArray),.string (⟨#[]⟩:ByteArray),.slice none 0 0]) ?_ 0 _ rfl;(with_reducible repeat (first | refine aG ?_ _ | refine aH ?_ | refine aD ?_ _));exact dx.out) Try.underlying115 rfl (by kernel_rfl)) rfl ?_
  exact ⟨_,by first | rfl | (simp [aI,aJ] <;> rfl) | (simp [*,aI,aJ] <;> rfl),by first | exact Kd.jM _ _ _ _ _ | exact Kd.lD _ _ _ _ _ | exact Kd.lF _ _ _ _ _ | exact Kd.lu _ _ _ _ _ | exact Kd.lC _ _ _ _ _,by repeat (first | (with_reducible first | exact HB.out | apply ak | apply ah | apply au | refine aT ?_ iY.out | refine aT ?_ kN.out | refine aT ?_ oh.out) | exact HB.out)⟩
theorem iL.keep {a b:ByteArray} {v:Value} {l:List ByteArray} {base g:Nat} {ok:Nat → Prop} {w w1 w2:World}
  (h:(w1.cell? ⟨g,0,none⟩ = some (.string a) ∧ w1.cell? ⟨g,1,none⟩ = some (.string b) ∧ w1.cell? ⟨g,2,none⟩ = some v) ∧ aj (Below g w w1 ∧ g < w1.heap.size ∧ Kd.R Kd.string 9 w1 base ok v l)) (hb:Below w1.heap.size w1 w2) :
  (w2.cell? ⟨g,0,none⟩ = some (.string a) ∧ w2.cell? ⟨g,1,none⟩ = some (.string b) ∧ w2.cell? ⟨g,2,none⟩ = some v) ∧ aj (Below g w w2 ∧ g < w2.heap.size ∧ Kd.R Kd.string 9 w2 base ok v l):=by
 obtain ⟨⟨c0,c1,c2⟩,⟨h1,h2,h3⟩⟩:=h
 have hs:=hb.size
 exact ⟨⟨(hb.cell h2).trans c0,(hb.cell h2).trans c1,(hb.cell h2).trans c2⟩,⟨h1.trans (hb.mono (by omega)),by omega,Kd.l8 h3 hb⟩⟩
set_option maxHeartbeats 4000000 in
set_option maxRecDepth 100000 in
theorem iL.calls (a b:ByteArray) (v:Value) (l:List ByteArray) (base:Nat) (ok:Nat → Prop) (w:World) (hr:Kd.R Kd.string 9 w base ok v l) (hl:l.length ≤ 1000000) (hz:a.size + (strings_Join.cat l).size + b.size ≤ 140737488355328) :
  Calls Try.prog 96 #[.agg #[.string a,.string b,v]] w fun e w'=>e = .returned (.string (a ++ strings_Join.cat l ++ b)) ∧ Below w.heap.size w w':=by
 have HB:=aj.mk (ak (Below.refl w.heap.size w) (.cells #[.string a,.string b,v] 115 (0,0)))
 have HR:=aj.mk (Kd.fJ hr (.cells #[.string a,.string b,v] 115 (0,0)))
 have HC:(w.alloc (.cells #[.string a,.string b,v] 115 (0,0))).cell? ⟨w.heap.size,0,none⟩ = some (.string a) ∧ (w.alloc (.cells #[.string a,.string b,v] 115 (0,0))).cell? ⟨w.heap.size,1,none⟩ = some (.string b) ∧ (w.alloc (.cells #[.string a,.string b,v] 115 (0,0))).cell? ⟨w.heap.size,2,none⟩ = some v:=by
  refine ⟨?_,?_,?_⟩ <;> (rw [Lib.cell_of_heap (heap_alloc_new w _)];rfl)
 have HC0:=aj.mk HC
 clear HC
 have HC:=HC0
 clear HC0
 have hs:w.heap.size < (w.alloc (.cells #[.string a,.string b,v] 115 (0,0))).heap.size:=by show _ < (w.heap.push _).size;rw [Array.size_push];omega
 have HS:=aj.mk hs
 have HZ:=aj.mk hz
 have HL:=aj.mk hl
 clear hs hz hr hl
 go_enter Try.func96,Try.ntmps96
 go_wp2
 generalize w.alloc (.cells #[.string a,.string b,v] 115 (0,0)) = w1 at *
 generalize hgg:w.heap.size = g at *
 have hgg:=aj.mk hgg
 have hf1:a.size + (strings_Join.cat l).size ≤ 9223372036854775807:=by have:=HZ.out;omega
 have hf2:a.size + (strings_Join.cat l).size + b.size ≤ 9223372036854775807:=by have:=HZ.out;omega
 have c0:=HC.out.1
 have c1:=HC.out.2.1
 have c2:=HC.out.2.2
 go_region_held (fun w'=>(w'.cell? ⟨g,0,none⟩ = some (.string a) ∧ w'.cell? ⟨g,1,none⟩ = some (.string b) ∧ w'.cell? ⟨g,2,none⟩ = some v) ∧ aj (Below g w w' ∧ g < w'.heap.size ∧ Kd.R Kd.string 9 w' base ok v l)) ((first | assumption | exact iL.keep ⟨⟨c0,c1,c2⟩,⟨HB.out,HS.out,HR.out⟩⟩ (jw (Below.refl _ _)) | exact iL.keep (by assumption) (by assumption))) ((first | (go_at_call 110;refine (strings_Join.calls v l base ok _ (Kd.gI HR.out) HL.out (by have:=HZ.out;omega)).mono ?_;rintro e w' ⟨rfl,hb'⟩)))
 all_goals
  rename_i hx
  go_wp2
  go_ret
  exact ⟨rfl,hgg.out ▸ hx.2.out.1⟩
def dI.l0 : Nat → ByteArray → Option (Bool)
 | 0,_=>none
 | k + 1,x0=>if x0.toList = ([]:List UInt8) then (some true) else (if 0 < (x0.size:Int) then (if (wrap64 (1 + (wrap64 (bt x0 0)))) > (x0.size:Int) then (some false) else (if 0 ≤ (wrap64 (1 + (wrap64 (bt x0 0)))) then (if (wrap64 (1 + (wrap64 (bt x0 0)))) ≤ (x0.size:Int) then (dI.l0 k (x0.extract ((wrap64 (1 + (wrap64 (bt x0 0)))):Int).toNat x0.size)) else (none)) else (none))) else (none))
def dI.f (k:Nat) (a0:ByteArray):Option (Bool):=if a0.toList = ([]:List UInt8) then (some false) else (dI.l0 k a0)
set_option maxHeartbeats 8000000 in
set_option maxRecDepth 100000 in
theorem dI.calls (k:Nat) (a0:ByteArray) (r:Bool) (w:World) (h:dI.f k a0 = some r) :
  Calls Try.prog 106 #[.string a0] w fun e w'=>e = .returned (.bool r) ∧ aW w w':=by
 have H:(if a0.toList = ([]:List UInt8) then (some false) else (dI.l0 k a0)) = some r:=h
 clear h
 by_cases c2:a0.toList = ([]:List UInt8)
 ·rw [if_pos c2] at H
  have wV:(a0.toList == ([]:List UInt8)) = true:=beq_iff_eq.mpr c2
  have Ka:(a0.toList != ([]:List UInt8)) = false:=bne_eq_false_iff_eq.mpr c2
  have abp:a0.toList.isEmpty = true:=List.isEmpty_iff.mpr c2
  clear c2
  obtain rfl:=Option.some.inj H
  go_enter Try.func106,Try.ntmps106
  go_wp2
  go_ret
  exact ⟨by first | rfl | (simp;done) | (simp [*];done),by repeat (first | exact aW.refl _ | apply aW.step)⟩
 ·rw [if_neg c2] at H
  have wV:(a0.toList == ([]:List UInt8)) = false:=beq_eq_false_iff_ne.mpr c2
  have Ka:(a0.toList != ([]:List UInt8)) = true:=bne_iff_ne.mpr c2
  have abp:a0.toList.isEmpty = false:=Bool.eq_false_iff.mpr (fun h_=>c2 (List.isEmpty_iff.mp h_))
  have H':=aj.mk H
  clear H
  go_enter Try.func106,Try.ntmps106
  go_wp2
  go_loopg [0] k (fun kq v0 w'=>∃ (bL:ByteArray),v0 = .string bL ∧ aj (dI.l0 kq bL = some r) ∧ aj (kq ≤ k) ∧ aW w w')
  case atStart=>exact ⟨(a0),(by first | rfl | (simp;done) | (simp [*];done) | (simp [B.aX];done) | (simp [B.aY];done)),H',⟨Nat.le_refl _⟩,by repeat (first | exact aW.refl _ | apply aW.step)⟩
  case round =>
   clear H'
   try clear c1
   try clear c2
   try clear wV
   try clear Ka
   try clear abp
   try clear p2
   obtain ⟨bL,rfl,HA,wB,⟨m1,rfl⟩⟩:=hrel
   cases gk with
   | zero=>exact absurd HA.out (by simp [dI.l0])
   | succ k1 =>
    have H:=HA.out
    clear HA
    simp only [dI.l0] at H
    by_cases c3:bL.toList = ([]:List UInt8)
    ·rw [if_pos c3] at H
     have qX:(bL.toList == ([]:List UInt8)) = true:=beq_iff_eq.mpr c3
     have CQ:(bL.toList != ([]:List UInt8)) = false:=bne_eq_false_iff_eq.mpr c3
     have NH:bL.toList.isEmpty = true:=List.isEmpty_iff.mpr c3
     clear c3
     obtain rfl:=Option.some.inj H
     go_wp2
     go_ret
     exact ⟨by first | rfl | (simp;done) | (simp [*];done),by repeat (first | exact aW.refl _ | apply aW.step)⟩
    ·rw [if_neg c3] at H
     have qX:(bL.toList == ([]:List UInt8)) = false:=beq_eq_false_iff_ne.mpr c3
     have CQ:(bL.toList != ([]:List UInt8)) = true:=bne_iff_ne.mpr c3
     have NH:bL.toList.isEmpty = false:=Bool.eq_false_iff.mpr (fun h_=>c3 (List.isEmpty_iff.mp h_))
     by_cases c4:0 < (bL.size:Int)
     ·rw [if_pos c4] at H
      have qW:decide (0 < (bL.size:Int)) = true:=decide_eq_true c4
      have Ke:decide (0 < bL.size) = true:=decide_eq_true (by omega)
      clear c4
      by_cases c6:(wrap64 (1 + (wrap64 (bt bL 0)))) > (bL.size:Int)
      ·rw [if_pos c6] at H
       have Ab:decide ((bL.size:Int) < (wrap64 (1 + (wrap64 (bt bL 0))))) = true:=decide_eq_true c6
       (try (have NA:decide ((bL.size:Int) < ((1 + ((bt bL 0))))) = true:=by have h_:decide ((bL.size:Int) < (wrap64 (1 + (wrap64 (bt bL 0))))) = true:=decide_eq_true c6;rw [B.dX (by omega) (by omega)] at h_;rw [B.dX (by omega) (by omega)] at h_;exact h_))
       clear c6
       obtain rfl:=Option.some.inj H
       have p5:0 ≤ (0:Int):=(by omega)
       have q5:0 < bL.size:=(by have:(0:Int) < (bL.size:Int):=of_decide_eq_true (by first | (with_reducible assumption) | assumption);omega)
       have hx5:∀ h:0 < bL.size,((bL[0]'h).toNat:Int) = bt bL 0:=nW bL 0
       clear p5
       have qi5:(0 < (bL.size:Int)) = True:=eq_true (of_decide_eq_true (by first | (with_reducible assumption) | assumption))
       replace q5:=eq_true q5
       go_wp2
       go_ret
       exact ⟨by first | rfl | (simp;done) | (simp [*];done),by repeat (first | exact aW.refl _ | apply aW.step)⟩
      ·rw [if_neg c6] at H
       have Ab:decide ((bL.size:Int) < (wrap64 (1 + (wrap64 (bt bL 0))))) = false:=decide_eq_false c6
       (try (have NA:decide ((bL.size:Int) < ((1 + ((bt bL 0))))) = false:=by have h_:decide ((bL.size:Int) < (wrap64 (1 + (wrap64 (bt bL 0))))) = false:=decide_eq_false c6;rw [B.dX (by omega) (by omega)] at h_;rw [B.dX (by omega) (by omega)] at h_;exact h_))
       clear c6
       obtain ⟨Rl,Kr⟩:∃ j_:Int,(wrap64 (1 + (wrap64 (bt bL 0)))) = j_:=⟨_,rfl⟩
       replace H:(if 0 ≤ (Rl) then (if (Rl) ≤ (bL.size:Int) then (dI.l0 k1 (bL.extract ((Rl):Int).toNat bL.size)) else (none)) else (none)) = some r:=by first | (rw [Kr] at H;exact H) | (simp only [Kr] at H ⊢;exact H)
       (try rw [Kr] at Ab)
       (try rw [Kr] at NA)
       have ahW:(IntKind.i64.wrap (1 + (wrap64 (bt bL 0)))) = Rl:=(gV _).trans Kr
       by_cases c8:0 ≤ (Rl)
       ·rw [if_pos c8] at H
        have vG:=eq_true c8
        have vH:decide (0 ≤ (Rl)) = true:=decide_eq_true c8
        clear c8
        by_cases c9:(Rl) ≤ (bL.size:Int)
        ·rw [if_pos c9] at H
         have uy:=eq_true c9
         have EN:decide ((Rl) ≤ (bL.size:Int)) = true:=decide_eq_true c9
         clear c9
         have H':=aj.mk H
         clear H
         have p5:0 ≤ (0:Int):=(by omega)
         have q5:0 < bL.size:=(by have:(0:Int) < (bL.size:Int):=of_decide_eq_true (by first | (with_reducible assumption) | assumption);omega)
         have hx5:∀ h:0 < bL.size,((bL[0]'h).toNat:Int) = bt bL 0:=nW bL 0
         clear p5
         have qi5:(0 < (bL.size:Int)) = True:=eq_true (of_decide_eq_true (by first | (with_reducible assumption) | assumption))
         replace q5:=eq_true q5
         go_wp2
         go_roundg k1
         case measure=>have:=wB.out;omega
         case rel=>exact ⟨(bL.extract ((Rl):Int).toNat bL.size),(by first | rfl | (simp;done) | (simp only [← Kr] <;> (first | rfl | simp)) | (simp [*];done)),H',⟨by have:=wB.out;omega⟩,by repeat (first | exact aW.refl _ | apply aW.step)⟩
        ·rw [if_neg c9] at H
         exact absurd H (by simp)
       ·rw [if_neg c8] at H
        exact absurd H (by simp)
     ·rw [if_neg c4] at H
      exact absurd H (by simp)
def ay.uP (k:Int):Option (Int × Int × Int) :=
 if k = 1 then some (4,0,0) else if k = 28 then some (16,0,0) else if k = 2 then some (0,1,0) else if k = 5 then some (0,1,0) else if k = 12 then some (0,1,0) else if k = 6 then some (0,2,20) else if k = 15 then some (2,1,0) else if k = 33 then some (6,1,0) else none
theorem ay.xG (k:Int):Mi.sS k bV.tab = (ay.uP k).map fun s=>bV.agg s.1 s.2.1 s.2.2:=by
 unfold ay.uP bV.tab
 simp only [Mi.sS]
 repeat' split
 all_goals rfl
def ay.fin (k:Nat) (kind:Int) (d:ByteArray) (is:Bool):Option (ByteArray × Int) :=
 if is = true then (if kind = 16 then ((dI.f k d).bind fun b=>if b = true then (if (d.size:Int) > 65535 then some (⟨#[]⟩,4) else some (d,0)) else some (⟨#[]⟩,4)) else (if (d.size:Int) > 65535 then some (⟨#[]⟩,4) else some (d,0))) else some (⟨#[]⟩,4)
def ay.g (k:Nat) (a0:ByteArray) (a1 a2 a3:Int) (s:Int × Int × Int):Option (ByteArray × Int) :=
 (bS.f k a0 a1 (wrap64 (a1 + a2)) s.1 s.2.1 s.2.2).bind fun p=>if p.1.size + (strings_Join.cat p.2.2.1).size + p.2.1.size ≤ 140737488355328 then (if p.2.2.1.length ≤ 1000000 then ay.fin k a3 (p.1 ++ strings_Join.cat p.2.2.1 ++ p.2.1) p.2.2.2 else none) else none
def ay.f (k:Nat) (a0:ByteArray) (a1 a2 a3:Int):Option (ByteArray × Int) :=
 (eX.f a0 a1 a2).bind fun t=>if t.2 = true then (match ay.uP a3 with | some s=>ay.g k a0 a1 a2 a3 s | none=>ay.fin k a3 t.1 true) else some (⟨#[]⟩,2)
theorem ay.Bf {k:Nat} {kind:Int} {d:ByteArray} {r:ByteArray × Int} (h:ay.fin k kind d true = some r) (hk:kind = 16) :
  ∃ b,dI.f k d = some b ∧ (if b = true then (if (d.size:Int) > 65535 then some ((⟨#[]⟩:ByteArray),(4:Int)) else some (d,0)) else some (⟨#[]⟩,4)) = some r:=by
 unfold ay.fin at h
 rw [if_pos rfl,if_pos hk] at h
 exact zbm h
theorem ay.qM {k:Nat} {kind:Int} {d:ByteArray} {r:ByteArray × Int} (h:ay.fin k kind d true = some r) (hk:¬ kind = 16) :
  (if (d.size:Int) > 65535 then some ((⟨#[]⟩:ByteArray),(4:Int)) else some (d,0)) = some r:=by
 unfold ay.fin at h
 rw [if_pos rfl,if_neg hk] at h
 exact h
theorem ay.WQ {k:Nat} {kind:Int} {d:ByteArray} {r:ByteArray × Int} (h:ay.fin k kind d false = some r):r = (⟨#[]⟩,4):=by
 unfold ay.fin at h
 rw [if_neg Bool.false_ne_true] at h
 exact (Option.some.inj h).symm
theorem ay.slc {v:Value} {l:List ByteArray} {base:Nat} {ok:Nat → Prop} {w:World} (hr:Kd.R Kd.string 9 w base ok v l):∃ A n c,v = .slice A n c:=by
 rcases (Kd.uj hr).2 with ⟨rfl,_⟩ | ⟨g,cap,cur,rfl,_⟩
 ·exact ⟨_,_,_,rfl⟩
 ·exact ⟨_,_,_,rfl⟩
theorem ay.mh {b:Bool} {d r1:ByteArray} {r2:Int} (h:(if b = true then (if (d.size:Int) > 65535 then some ((⟨#[]⟩:ByteArray),(4:Int)) else some (d,0)) else some (⟨#[]⟩,4)) = some (r1,r2)) :
  (b = true → 65535 < (d.size:Int) → r1 = ⟨#[]⟩ ∧ r2 = 4) ∧ (b = true → (d.size:Int) ≤ 65535 → r1 = d ∧ r2 = 0) ∧ (b = false → r1 = ⟨#[]⟩ ∧ r2 = 4):=by
 refine ⟨fun h1 h2=>?_,fun h1 h2=>?_,fun h1=>?_⟩
 ·rw [if_pos h1,if_pos h2] at h;cases h;exact ⟨rfl,rfl⟩
 ·rw [if_pos h1,if_neg (by omega)] at h;cases h;exact ⟨rfl,rfl⟩
 ·rw [h1,if_neg Bool.false_ne_true] at h;cases h;exact ⟨rfl,rfl⟩
theorem ay.qN {d r1:ByteArray} {r2:Int} (h:(if (d.size:Int) > 65535 then some ((⟨#[]⟩:ByteArray),(4:Int)) else some (d,0)) = some (r1,r2)) :
  (65535 < (d.size:Int) → r1 = ⟨#[]⟩ ∧ r2 = 4) ∧ ((d.size:Int) ≤ 65535 → r1 = d ∧ r2 = 0):=by
 refine ⟨fun h2=>?_,fun h2=>?_⟩
 ·rw [if_pos h2] at h;cases h;exact ⟨rfl,rfl⟩
 ·rw [if_neg (by omega)] at h;cases h;exact ⟨rfl,rfl⟩
set_option maxHeartbeats 8000000 in
set_option maxRecDepth 100000 in
theorem ay.calls (k:Nat) (a0:ByteArray) (a1 a2 a3:Int) (r1:ByteArray) (r2:Int) (w:World) (h:ay.f k a0 a1 a2 a3 = some (r1,r2)) :
  Calls Try.prog 91 #[.string a0,.int .i64 a1,.int .i64 a2,.int .i64 a3] w fun e w'=>e = .returned (.tuple #[.string r1,.int .i64 r2]) ∧ Below w.heap.size w w':=by
 have HB:=aj.mk (Below.refl w.heap.size w)
 obtain ⟨⟨t1,t2⟩,ht,h'⟩:=zbm h
 clear h
 have HT:=aj.mk ht
 clear ht
 cases t2 with
 | false =>
  rw [if_neg Bool.false_ne_true] at h'
  obtain ⟨rfl,rfl⟩:=Prod.mk.injEq .. ▸ Option.some.inj h'
  go_enter Try.func91,Try.ntmps91
  go_wp2_with (first | (go_at_call 94;refine (eX.calls _ _ _ _ _ _ HT.out).mono ?_;rintro e w1 ⟨rfl,hd1⟩))
  go_ret2
  exact ⟨rfl,hd1.below⟩
 | true =>
  replace h':(match ay.uP a3 with | some s=>ay.g k a0 a1 a2 a3 s | none=>ay.fin k a3 t1 true) = some (r1,r2):=h'
  cases hsh:ay.uP a3 with
  | none =>
   rw [hsh] at h'
   have HH:=aj.mk (show ay.fin k a3 t1 true = some (r1,r2) from h')
   clear h'
   have hfn:Mi.sS a3 bV.tab = none:=by rw [ay.xG,hsh];rfl
   go_enter Try.func91,Try.ntmps91
   go_wp2_with (first
    | (go_at_call 94;refine (eX.calls _ _ _ _ _ _ HT.out).mono ?_;rintro e w1 ⟨rfl,hd1⟩)
    | (go_at_call 74;refine (bV.calls _).mono ?_;rintro e w2 ⟨g,rfl,hin⟩;have hl:=Mi.look (P:=Try.prog) hin.at_ 143 3 141 Try.underlying143 Try.underlying3 _ (Try.zeroValue141 w2) a3;rw [hfn] at hl;have hB2:=aj.mk ((HB.out.trans hd1.below).trans (hin.NY.mono hd1.below.size));clear hin)
    | (go_at_call 106;obtain ⟨b,hb,hx⟩:=ay.Bf HH.out (by assumption);have hx:=aj.mk hx;refine (dI.calls _ _ _ _ hb).mono ?_;rintro e w3 ⟨rfl,hd3⟩))
   all_goals
    go_ret2
    first
     | (have hq:=(ay.mh hx.out).1 (by assumption) (by assumption);obtain ⟨rfl,rfl⟩:=hq;exact ⟨rfl,(ak hB2.out _).trans (hd3.below.mono (by have:=hB2.out.size;simp only [World.alloc,Array.size_push];omega))⟩)
     | (have hq:=(ay.mh hx.out).2.1 (by assumption) (by assumption);obtain ⟨rfl,rfl⟩:=hq;exact ⟨rfl,(ak hB2.out _).trans (hd3.below.mono (by have:=hB2.out.size;simp only [World.alloc,Array.size_push];omega))⟩)
     | (have hq:=(ay.mh hx.out).2.2 (by first | assumption | simpa using ‹¬ b = true›);obtain ⟨rfl,rfl⟩:=hq;exact ⟨rfl,(ak hB2.out _).trans (hd3.below.mono (by have:=hB2.out.size;simp only [World.alloc,Array.size_push];omega))⟩)
     | (have hq:=(ay.qN (ay.qM HH.out (by assumption))).1 (by assumption);obtain ⟨rfl,rfl⟩:=hq;exact ⟨rfl,ak hB2.out _⟩)
     | (have hq:=(ay.qN (ay.qM HH.out (by assumption))).2 (by assumption);obtain ⟨rfl,rfl⟩:=hq;exact ⟨rfl,ak hB2.out _⟩)
  | some s =>
   obtain ⟨s0,s1,s2⟩:=s
   rw [hsh] at h'
   replace h':ay.g k a0 a1 a2 a3 (s0,s1,s2) = some (r1,r2):=h'
   unfold ay.g at h'
   obtain ⟨⟨p1,p2,p3,p4⟩,hp,h'⟩:=zbm h'
   replace h':(if p1.size + (strings_Join.cat p3).size + p2.size ≤ 140737488355328 then (if p3.length ≤ 1000000 then ay.fin k a3 (p1 ++ strings_Join.cat p3 ++ p2) p4 else none) else none) = some (r1,r2):=h'
   have hp:=aj.mk (show bS.f k a0 a1 (wrap64 (a1 + a2)) s0 s1 s2 = some (p1,p2,p3,p4) from hp)
   by_cases z1:p1.size + (strings_Join.cat p3).size + p2.size ≤ 140737488355328
   ·rw [if_pos z1] at h'
    by_cases z2:p3.length ≤ 1000000
    ·rw [if_pos z2] at h'
     have HH:=aj.mk h'
     have z1:=aj.mk z1
     have z2:=aj.mk z2
     clear h'
     have hfn:Mi.sS a3 bV.tab = some (bV.agg s0 s1 s2):=by rw [ay.xG,hsh];rfl
     cases p4
     all_goals
      go_enter Try.func91,Try.ntmps91
      go_wp2_with (first
       | (go_at_call 94;refine (eX.calls _ _ _ _ _ _ HT.out).mono ?_;rintro e w1 ⟨rfl,hd1⟩)
       | (go_at_call 74;refine (bV.calls _).mono ?_;rintro e w2 ⟨g,rfl,hin⟩;have hl:=Mi.look (P:=Try.prog) hin.at_ 143 3 141 Try.underlying143 Try.underlying3 _ (Try.zeroValue141 w2) a3;rw [hfn] at hl;replace hl:=show _ = Result.ok (Value.tuple #[.agg #[.int .i64 s0,.int .i64 s1,.int .i64 s2],.bool true]) w2 from hl;have hB2:=aj.mk ((HB.out.trans hd1.below).trans (hin.NY.mono hd1.below.size));clear hin)
       | (go_at_call 75;refine (bS.calls _ _ _ _ _ _ _ _ _ _ _ _ hp.out).mono ?_;rintro e w3 ⟨v,rfl,hv,hb3⟩;obtain ⟨vA,vn,vc,rfl⟩:=ay.slc hv;have hB3:=aj.mk ((ak hB2.out _).trans (hb3.mono (by have:=hB2.out.size;simp only [World.alloc,Array.size_push];omega)));have hv:=aj.mk hv;clear hb3)
       | (go_at_call 96;refine (iL.calls _ _ _ p3 _ _ _ (Kd.fJ hv.out _) z2.out z1.out).mono ?_;rintro e w4 ⟨rfl,hb4⟩;have hB4:=aj.mk ((ak hB3.out _).trans (hb4.mono (by have:=hB3.out.size;simp only [World.alloc,Array.size_push];omega)));clear hb4)
       | (go_at_call 106;obtain ⟨b,hb,hx⟩:=ay.Bf HH.out (by assumption);have hx:=aj.mk hx;refine (dI.calls _ _ _ _ hb).mono ?_;rintro e w5 ⟨rfl,hd3⟩))
      all_goals
       go_ret2
       first
        | (have hq:=ay.WQ HH.out;cases hq;exact ⟨rfl,hB4.out⟩)
        | (have hq:=(ay.mh hx.out).1 (by first | assumption | (simp only [ByteArray.size_append,Int.natCast_add];assumption)) (by first | assumption | (simp only [ByteArray.size_append,Int.natCast_add];assumption));obtain ⟨rfl,rfl⟩:=hq;exact ⟨rfl,hB4.out.trans (hd3.below.mono hB4.out.size)⟩)
        | (have hq:=(ay.mh hx.out).2.1 (by first | assumption | (simp only [ByteArray.size_append,Int.natCast_add];assumption)) (by first | assumption | (simp only [ByteArray.size_append,Int.natCast_add];assumption));obtain ⟨rfl,rfl⟩:=hq;exact ⟨rfl,hB4.out.trans (hd3.below.mono hB4.out.size)⟩)
        | (have hq:=(ay.mh hx.out).2.2 (by first | assumption | simpa using ‹¬ b = true›);obtain ⟨rfl,rfl⟩:=hq;exact ⟨rfl,hB4.out.trans (hd3.below.mono hB4.out.size)⟩)
        | (have hq:=(ay.qN (ay.qM HH.out (by first | assumption | (simp only [ByteArray.size_append,Int.natCast_add];assumption)))).1 (by first | assumption | (simp only [ByteArray.size_append,Int.natCast_add];assumption));obtain ⟨rfl,rfl⟩:=hq;exact ⟨rfl,hB4.out⟩)
        | (have hq:=(ay.qN (ay.qM HH.out (by first | assumption | (simp only [ByteArray.size_append,Int.natCast_add];assumption)))).2 (by first | assumption | (simp only [ByteArray.size_append,Int.natCast_add];assumption));obtain ⟨rfl,rfl⟩:=hq;exact ⟨rfl,hB4.out⟩)
    ·rw [if_neg z2] at h';cases h'
   ·rw [if_neg z1] at h';cases h'
def iU.f (k:Nat) (a0:Int) (a1:ByteArray):Option (Bool):=if (a1.size:Int) > 65535 then (some false) else ((ay.f k a1 0 (a1.size:Int) a0).bind fun EY=>(if EY.2 = 0 then (some (EY.1.toList == a1.toList)) else (some false)))
set_option maxHeartbeats 8000000 in
set_option maxRecDepth 100000 in
theorem iU.calls (k:Nat) (a0:Int) (a1:ByteArray) (r:Bool) (w:World) (h:iU.f k a0 a1 = some r) :
  Calls Try.prog 73 #[.int .i64 a0,.string a1] w fun e w'=>e = .returned (.bool r) ∧ Below w.heap.size w w':=by
 have HB:=aj.mk (Below.refl w.heap.size w)
 have H:(if (a1.size:Int) > 65535 then (some false) else ((ay.f k a1 0 (a1.size:Int) a0).bind fun EY=>(if EY.2 = 0 then (some (EY.1.toList == a1.toList)) else (some false)))) = some r:=h
 clear h
 by_cases c3:(a1.size:Int) > 65535
 ·rw [if_pos c3] at H
  have qX:decide (65535 < (a1.size:Int)) = true:=decide_eq_true c3
  have CQ:decide (65535 < a1.size) = true:=decide_eq_true (by omega)
  clear c3
  obtain rfl:=Option.some.inj H
  go_enter Try.func73,Try.ntmps73
  go_wp2
  go_ret
  exact ⟨by first | rfl | (simp [aI,aJ] <;> rfl) | (simp [*,aI,aJ] <;> rfl),by repeat (first | (with_reducible first | exact HB.out | apply ak | apply ah | apply au) | exact HB.out)⟩
 ·rw [if_neg c3] at H
  have qX:decide (65535 < (a1.size:Int)) = false:=decide_eq_false c3
  have CQ:decide (65535 < a1.size) = false:=decide_eq_false (by omega)
  clear c3
  replace H:=zbm H
  obtain ⟨⟨t131,EZ⟩,EO,H⟩:=H
  replace H:(if EZ = 0 then (some (t131.toList == a1.toList)) else (some false)) = some r:=H
  have A4:=aj.mk EO
  clear EO
  by_cases c5:EZ = 0
  ·rw [if_pos c5] at H
   have qg:(EZ == 0) = true:=beq_iff_eq.mpr c5
   have vJ:(EZ != 0) = false:=bne_eq_false_iff_eq.mpr c5
   clear c5
   obtain rfl:=Option.some.inj H
   go_enter Try.func73,Try.ntmps73
   go_wp2_with (first | ((with_reducible refine aU (f:=91) rfl ?_);refine bP (some 15) rfl rfl Try.func91 (by kernel_rfl) rfl #[.string a1,.int .i64 0,.int .i64 (a1.size:Int),.int .i64 a0] rfl (by (try simp only [List.map_toArray,List.map_cons,List.map_nil]);first | done | rfl | (simp only [List.length_drop,List.length_take];rfl) | (simp only [ByteArray.size_append,Int.natCast_add];rfl) | (rw [B.dX] <;> first | rfl | omega | (simp only [decide_eq_false_iff_not,decide_eq_true_eq,Int.not_lt,Nat.not_lt,gt_iff_lt] at * <;> omega))) ?_;(with_reducible refine (ay.calls k a1 0 (a1.size:Int) a0 t131 EZ _ A4.out).mono ?_);rintro e w6 ⟨rfl,hb⟩;refine ⟨_,rfl,?_⟩;have eP:=aj.mk (bI (by repeat (first | (with_reducible first | exact HB.out | apply ak | apply ah | apply au) | exact HB.out)) hb);clear HB;have HB:=eP;clear eP;(try clear hb);(try clear hb2);(try clear hk);(try clear hi)))
   go_ret
   exact ⟨by first | rfl | (simp [aI,aJ] <;> rfl) | (simp [*,aI,aJ] <;> rfl),by repeat (first | (with_reducible first | exact HB.out | apply ak | apply ah | apply au) | exact HB.out)⟩
  ·rw [if_neg c5] at H
   have qg:(EZ == 0) = false:=beq_eq_false_iff_ne.mpr c5
   have vJ:(EZ != 0) = true:=bne_iff_ne.mpr c5
   obtain rfl:=Option.some.inj H
   go_enter Try.func73,Try.ntmps73
   go_wp2_with (first | ((with_reducible refine aU (f:=91) rfl ?_);refine bP (some 15) rfl rfl Try.func91 (by kernel_rfl) rfl #[.string a1,.int .i64 0,.int .i64 (a1.size:Int),.int .i64 a0] rfl (by (try simp only [List.map_toArray,List.map_cons,List.map_nil]);first | done | rfl | (simp only [List.length_drop,List.length_take];rfl) | (simp only [ByteArray.size_append,Int.natCast_add];rfl) | (rw [B.dX] <;> first | rfl | omega | (simp only [decide_eq_false_iff_not,decide_eq_true_eq,Int.not_lt,Nat.not_lt,gt_iff_lt] at * <;> omega))) ?_;(with_reducible refine (ay.calls k a1 0 (a1.size:Int) a0 t131 EZ _ A4.out).mono ?_);rintro e w7 ⟨rfl,hb⟩;refine ⟨_,rfl,?_⟩;have eP:=aj.mk (bI (by repeat (first | (with_reducible first | exact HB.out | apply ak | apply ah | apply au) | exact HB.out)) hb);clear HB;have HB:=eP;clear eP;(try clear hb);(try clear hb2);(try clear hk);(try clear hi)))
   go_ret
   exact ⟨by first | rfl | (simp [aI,aJ] <;> rfl) | (simp [*,aI,aJ] <;> rfl),by repeat (first | (with_reducible first | exact HB.out | apply ak | apply ah | apply au) | exact HB.out)⟩
def bW.f (k:Nat) (a0:Int) (a1:ByteArray):Option (ByteArray × ByteArray × List ByteArray × Bool) :=
 (iU.f k a0 a1).bind fun c=>if c = true then (match ay.uP a0 with | some s=>bS.f k a1 0 (a1.size:Int) s.1 s.2.1 s.2.2 | none=>some (a1,⟨#[]⟩,[],true)) else some (⟨#[]⟩,⟨#[]⟩,[],false)
theorem bW.three {w w1:World} {g B:Nat} {a b c a' b' c':Value} (bk:w1.heap[g]? = some (.cells #[a',b',c'] 115 (0,0))) :
  (((w1.setCell ⟨g,0,none⟩ a).setCell ⟨g,1,none⟩ b).setCell ⟨g,2,none⟩ c).heap[g]? = some (.cells #[a,b,c] 115 (0,0)) ∧
  (Below B w w1 → B ≤ g → Below B w (((w1.setCell ⟨g,0,none⟩ a).setCell ⟨g,1,none⟩ b).setCell ⟨g,2,none⟩ c)) ∧
  (∀ v l base ok,Kd.R Kd.string 9 w1 base ok v l → Kd.R Kd.string 9 (((w1.setCell ⟨g,0,none⟩ a).setCell ⟨g,1,none⟩ b).setCell ⟨g,2,none⟩ c) base ok v l):=by
 have b1:=bU bk 0 a (cs':=#[a,b',c']) rfl
 have b2:=bU b1 1 b (cs':=#[a,b,c']) rfl
 have b3:=bU b2 2 c (cs':=#[a,b,c]) rfl
 refine ⟨b3,fun h hg=>((h.setCell hg _).setCell hg _).setCell hg _,fun v l base ok h=>?_⟩
 exact Kd.Ng (Kd.Ng (Kd.Ng h bk (by decide) 0 a) b1 (by decide) 1 b) b2 (by decide) 2 c
theorem bW.facts {w1:World} {g:Nat} {a b c:Value} (bk:w1.heap[g]? = some (.cells #[a,b,c] 115 (0,0))) :
  (w1.cell? ⟨g,0,none⟩ = some a ∧ w1.cell? ⟨g,1,none⟩ = some b ∧ w1.cell? ⟨g,2,none⟩ = some c) ∧ w1.frozen? ⟨g,0,none⟩ = false ∧ w1.frozen? ⟨g,1,none⟩ = false ∧ w1.frozen? ⟨g,2,none⟩ = false :=
 ⟨⟨aK bk 0,aK bk 1,aK bk 2⟩,aA bk 0,aA bk 1,aA bk 2⟩
set_option maxHeartbeats 8000000 in
set_option maxRecDepth 100000 in
theorem bW.calls (k:Nat) (a0:Int) (a1:ByteArray) (r1 r2:ByteArray) (r3:List ByteArray) (r4:Bool) (w:World) (h:bW.f k a0 a1 = some (r1,r2,r3,r4)) :
  Calls Try.prog 51 #[.int .i64 a0,.string a1] w fun e w'=>∃ v2_:Value,e = .returned (.tuple #[.agg #[.string r1,.string r2,v2_],.bool r4]) ∧ Kd.R Kd.string 9 w' w.heap.size (fun _=>True) v2_ r3 ∧ Below w.heap.size w w':=by
 obtain ⟨c,hc,h'⟩:=zbm h
 clear h
 have HC:=aj.mk hc
 clear hc
 cases c with
 | false =>
  rw [if_neg Bool.false_ne_true] at h'
  cases h'
  go_enter Try.func51,Try.ntmps51
  go_wp2_with (first
   | (go_at_call 73;refine (iU.calls _ _ _ _ _ HC.out).mono ?_;rintro e w1 ⟨rfl,hd1⟩;have bk:=dS (tZ w _) hd1;obtain ⟨⟨k0,k1,k2⟩,f0,f1,f2⟩:=bW.facts bk;have bk:=aj.mk bk;have hB1:=aj.mk ((ak (Below.refl w.heap.size w) _).trans (hd1.mono (by simp only [World.alloc,Array.size_push];omega)));clear hd1))
  refine bodyPost_ret (j3 rfl _ _ w.heap.size 115 #[.string ⟨#[]⟩,.string ⟨#[]⟩,.slice none 0 0] (0,0) _ rfl (bW.three (w:=w) (B:=0) bk.out).1 Try.underlying115 rfl (by kernel_rfl)) rfl ?_
  exact ⟨_,rfl,Kd.jM _ _ _ _ _,(bW.three bk.out).2.1 hB1.out (Nat.le_refl _)⟩
 | true =>
  replace h':(match ay.uP a0 with | some s=>bS.f k a1 0 (a1.size:Int) s.1 s.2.1 s.2.2 | none=>some (a1,⟨#[]⟩,[],true)) = some (r1,r2,r3,r4):=h'
  cases hsh:ay.uP a0 with
  | none =>
   rw [hsh] at h'
   cases h'
   have hfn:Mi.sS a0 bV.tab = none:=by rw [ay.xG,hsh];rfl
   go_enter Try.func51,Try.ntmps51
   go_wp2_with (first
    | (go_at_call 73;refine (iU.calls _ _ _ _ _ HC.out).mono ?_;rintro e w1 ⟨rfl,hd1⟩;have bk:=dS (tZ w _) hd1;obtain ⟨⟨k0,k1,k2⟩,f0,f1,f2⟩:=bW.facts bk;have bk:=aj.mk bk;have hB1:=aj.mk ((ak (Below.refl w.heap.size w) _).trans (hd1.mono (by simp only [World.alloc,Array.size_push];omega)));clear hd1)
    | (go_at_call 74;refine (bV.calls _).mono ?_;rintro e w2 ⟨g,rfl,hin⟩;clear k0 k1 k2 f0 f1 f2;have hl:=Mi.look (P:=Try.prog) hin.at_ 143 3 141 Try.underlying143 Try.underlying3 _ (Try.zeroValue141 w2) a0;rw [hfn] at hl;replace hl:=show _ = Result.ok (Value.tuple #[.agg #[.int .i64 0,.int .i64 0,.int .i64 0],.bool false]) w2 from hl;have hB2:=aj.mk (hB1.out.trans (hin.NY.mono hB1.out.size));have bk:=aj.mk (aD (dS bk.out hin.NY) (.cells #[.int .i64 0,.int .i64 0,.int .i64 0] 141 (0,0)));obtain ⟨⟨k0,k1,k2⟩,f0,f1,f2⟩:=bW.facts bk.out;clear hin))
   refine bodyPost_ret (j3 rfl _ _ w.heap.size 115 #[.string a1,.string ⟨#[]⟩,.slice none 0 0] (0,0) _ rfl (bW.three (w:=w) (B:=0) bk.out).1 Try.underlying115 rfl (by kernel_rfl)) rfl ?_
   exact ⟨_,rfl,Kd.jM _ _ _ _ _,(bW.three bk.out).2.1 (ak hB2.out _) (Nat.le_refl _)⟩
  | some s =>
   obtain ⟨s0,s1,s2⟩:=s
   rw [hsh] at h'
   have hp:=aj.mk (show bS.f k a1 0 (a1.size:Int) s0 s1 s2 = some (r1,r2,r3,r4) from h')
   clear h'
   have hfn:Mi.sS a0 bV.tab = some (bV.agg s0 s1 s2):=by rw [ay.xG,hsh];rfl
   go_enter Try.func51,Try.ntmps51
   go_wp2_with (first
    | (go_at_call 73;refine (iU.calls _ _ _ _ _ HC.out).mono ?_;rintro e w1 ⟨rfl,hd1⟩;have bk:=dS (tZ w _) hd1;obtain ⟨⟨k0,k1,k2⟩,f0,f1,f2⟩:=bW.facts bk;have bk:=aj.mk bk;have hB1:=aj.mk ((ak (Below.refl w.heap.size w) _).trans (hd1.mono (by simp only [World.alloc,Array.size_push];omega)));clear hd1)
    | (go_at_call 74;refine (bV.calls _).mono ?_;rintro e w2 ⟨g,rfl,hin⟩;clear k0 k1 k2 f0 f1 f2;have hl:=Mi.look (P:=Try.prog) hin.at_ 143 3 141 Try.underlying143 Try.underlying3 _ (Try.zeroValue141 w2) a0;rw [hfn] at hl;replace hl:=show _ = Result.ok (Value.tuple #[.agg #[.int .i64 s0,.int .i64 s1,.int .i64 s2],.bool true]) w2 from hl;have hB2:=aj.mk (hB1.out.trans (hin.NY.mono hB1.out.size));have bk:=aj.mk (aD (dS bk.out hin.NY) (.cells #[.int .i64 s0,.int .i64 s1,.int .i64 s2] 141 (0,0)));obtain ⟨⟨k0,k1,k2⟩,f0,f1,f2⟩:=bW.facts bk.out;clear hin)
    | (go_at_call 75;refine (bS.calls _ _ _ _ _ _ _ _ _ _ _ _ hp.out).mono ?_;rintro e w3 ⟨v,rfl,hv,hb3⟩;clear k0 k1 k2 f0 f1 f2;obtain ⟨vA,vn,vc,rfl⟩:=ay.slc hv;have hB3:=aj.mk ((ak hB2.out _).trans (hb3.mono (by have:=hB2.out.size;simp only [World.alloc,Array.size_push];omega)));have hv:=aj.mk (Kd.uf hv (by have:=hB2.out.size;simp only [World.alloc,Array.size_push];omega:w.heap.size ≤ _));have bk:=aj.mk (dS bk.out hb3);obtain ⟨⟨k0,k1,k2⟩,f0,f1,f2⟩:=bW.facts bk.out;clear hb3))
   refine bodyPost_ret (j3 rfl _ _ w.heap.size 115 #[.string r1,.string r2,.slice vA vn vc] (0,0) _ rfl (bW.three (w:=w) (B:=0) bk.out).1 Try.underlying115 rfl (by kernel_rfl)) rfl ?_
   exact ⟨_,rfl,(bW.three (w:=w) (B:=0) bk.out).2.2 _ _ _ _ hv.out,(bW.three bk.out).2.1 hB3.out (Nat.le_refl _)⟩
def eH.all (k:Nat):List ByteArray → Option (List ByteArray)
 | []=>some []
 | x :: l=>(mU.f k x).bind fun y=>(eH.all k l).bind fun m=>some (y :: m)
def eH.fin (p1 p2:ByteArray) (m:List ByteArray):Option ByteArray :=
 if p1.size + (strings_Join.cat m).size + p2.size ≤ 140737488355328 then (if m.length ≤ 1000000 then some (p1 ++ strings_Join.cat m ++ p2) else none) else none
def eH.f (k:Nat) (a0:Int) (a1:ByteArray):Option ByteArray :=
 (bW.f k a0 a1).bind fun p=>(eH.all k p.2.2.1).bind fun m=>eH.fin p.1 p.2.1 m
theorem eH.zo {k:Nat}:∀ {l m:List ByteArray},eH.all k l = some m → m.length = l.length
 | [],m,h=>by cases h;rfl
 | x :: l,m,h=>by
  rw [eH.all] at h
  obtain ⟨y,_,h⟩:=zbm h
  obtain ⟨m',h',h⟩:=zbm h
  cases h
  rw [List.length_cons,List.length_cons,eH.zo h']
set_option maxHeartbeats 8000000 in
set_option maxRecDepth 100000 in
theorem eH.calls (k:Nat) (a0:Int) (a1:ByteArray) (r:ByteArray) (w:World) (h:eH.f k a0 a1 = some r) :
  Calls Try.prog 83 #[.int .i64 a0,.string a1] w fun e w'=>e = .returned (.string r) ∧ Below w.heap.size w w':=by
 obtain ⟨⟨p1,p2,l,p4⟩,hp,h'⟩:=zbm h
 clear h
 obtain ⟨m,hm,h'⟩:=zbm h'
 replace hm:eH.all k l = some m:=hm
 replace h':eH.fin p1 p2 m = some r:=h'
 have hml:=eH.zo hm
 have HP:=aj.mk hp
 have HM:=aj.mk hm
 have HF:=aj.mk h'
 have HL:=aj.mk hml
 clear hp hm h' hml
 go_enter Try.func83,Try.ntmps83
 go_wp2_with (first
  | (go_at_call 51;refine (bW.calls _ _ _ _ _ _ _ _ HP.out).mono ?_;rintro e w1 ⟨v,rfl,hv,hb1⟩;obtain ⟨vA,vn,vc,rfl⟩:=ay.slc hv;obtain ⟨rfl,_,hcc⟩:=Kd.yU hv;have hmx:=aj.mk (Kd.aas hcc);clear hcc;have hv2:=aj.mk (Kd.fJ hv (.cells #[.string p1,.string p2,.slice vA l.length vc] 115 (0,0)));have hb2:=aj.mk (ak hb1 (.cells #[.string p1,.string p2,.slice vA l.length vc] 115 (0,0)));have bk2:=aj.mk (tZ w1 (.cells #[.string p1,.string p2,.slice vA l.length vc] 115 (0,0)));have hge:=aj.mk hb1.size;clear hv hb1))
 generalize hw1:w1.alloc (.cells #[.string p1,.string p2,.slice vA l.length vc] 115 (0,0)) = w2 at *
 generalize hg:w1.heap.size = g at *
 clear hw1 hg
 go_loopw [18] (fun v18 wr=>∃ (j:Nat) (cur:List ByteArray),v18 = .int .i64 j ∧ j ≤ l.length ∧ aj (cur.length = l.length ∧ ∃ mm,eH.all k (cur.drop j) = some mm ∧ m = cur.take j ++ mm) ∧ aj (wr.heap[g]? = some (.cells #[.string p1,.string p2,.slice vA l.length vc] 115 (0,0))) ∧ aj (Kd.R Kd.string 9 wr w.heap.size (fun _=>True) (.slice vA l.length vc) cur) ∧ aj (Below w.heap.size w wr)) (fun v18 _=>l.length - (intOf v18).toNat)
 case atStart=>exact ⟨0,l,rfl,Nat.zero_le _,⟨rfl,m,HM.out,rfl⟩,bk2,hv2,hb2⟩
 case round =>
  clear HM hv2 hb2 bk2
  obtain ⟨j,cur,rfl,hj,hc,bk,hR,hB⟩:=hrel
  by_cases hlt:j < l.length
  ·obtain ⟨hcl,mm,hmm,hmt⟩:=hc.out
   have hjc:j < cur.length:=by omega
   rw [List.drop_eq_getElem_cons hjc,eH.all] at hmm
   obtain ⟨y,hy,hmm⟩:=zbm hmm
   obtain ⟨m',hm',hmm⟩:=zbm hmm
   obtain rfl:mm = y :: m':=(Option.some.inj hmm).symm
   have hnew:=aj.mk (show (cur.set j y).length = l.length ∧ ∃ mm,eH.all k ((cur.set j y).drop (j + 1)) = some mm ∧ m = (cur.set j y).take (j + 1) ++ mm from by
    refine ⟨by rw [List.length_set];exact hcl,m',?_,?_⟩
    ·rw [List.drop_set_of_lt (by omega)];exact hm'
    ·have e:(cur.set j y).take (j + 1) = cur.take j ++ [y]:=by
      rw [List.take_succ_eq_append_getElem (by rw [List.length_set];exact hjc),List.getElem_set_self,List.take_set_of_le (Nat.le_refl j)]
     rw [hmt,e,List.append_assoc];rfl)
   obtain ⟨gr,cap,e0,_,_,cells,hcells⟩:=Kd.Wt hR.out (by omega)
   injection e0 with e1 e2 e3
   subst e1 e3
   have hne:=aj.mk (show g ≠ gr from Wo bk.out hcells (by decide))
   have hxc:=Kd.Cz ByteArray.empty hR.out (j:Int) (by omega) (by omega)
   have hxe:Gz ByteArray.empty cur (j:Int) = cur[j]:=by
    unfold Gz
    rw [Int.toNat_natCast,List.getD_eq_getElem?_getD,List.getElem?_eq_getElem hjc]
    rfl
   rw [hxe,Int.toNat_natCast] at hxc
   have HY:=aj.mk hy
   have c0:=hxc.1
   have c1:=(bW.facts bk.out).1.2.2
   have hlt2:=aj.mk hlt
   have p0:(0 ≤ (j:Int)) = True:=eq_true (by omega)
   have q0:((j:Int) < (l.length:Int)) = True:=eq_true (by omega)
   generalize cur[j] = x at *
   clear hmm hm' hmt hy hxe hxc hcells hc e2 hlt hjc hcl
   go_wp2
   go_region_with (first | (go_at_call 48;refine (mU.calls _ _ _ _ HY.out).mono ?_;rintro e w3 ⟨rfl,hb3⟩;have bk3:=dS (aH bk.out) hb3;have Ym:=Kd.l8 (Kd.gI hR.out) hb3;have hB3:=aj.mk ((jw hB.out).trans (hb3.mono hB.out.size));have d0:=(Kd.Cz ByteArray.empty Ym (j:Int) (by omega) (by have:=hlt2.out;omega)).1;have d1:=(Kd.Cz ByteArray.empty Ym (j:Int) (by omega) (by have:=hlt2.out;omega)).2;rw [Int.toNat_natCast] at d0 d1;have d2:=(bW.facts bk3).1.2.2;have bk3:=aj.mk bk3;have Ym:=aj.mk Ym;clear hb3))
   all_goals
    have hfin:=Kd.Wv Ym.out (j:Int) y
    rw [Int.toNat_natCast] at hfin
    have bk4:=aj.mk (oJ (p:=⟨gr,j,none⟩) bk3.out hne.out (.string y))
    have hR4:=aj.mk hfin.1
    have hB4:=aj.mk (hB3.out.grown hfin.2 hB3.out.size (fun k e=>by cases e;exact Kd.Ws Ym.out gr rfl))
    clear hfin
    generalize w3.setCell ⟨gr,j,none⟩ (.string y) = w4 at *
    clear c0 c1 d0 d1 d2 p0 q0
    have hw:=(show wrap64 ((j:Int) + 1) = ((j + 1:Nat):Int) from by have hlt:=hlt2.out;have hm9:=hmx.out;rw [B.dX (by omega) (by omega)];omega)
    have hw:=aj.mk hw
    go_wp2
    go_roundw
    case rel=>have hlt:=hlt2.out;have hm9:=hmx.out;exact ⟨j + 1,cur.set j y,by rw [hw.out],hlt2.out,hnew,bk4,hR4,hB4⟩
    case measure=>have hlt:=hlt2.out;have hm9:=hmx.out;rw [hw.out];simp only [intOf];omega
  ·obtain rfl:j = l.length:=by omega
   have hcm:m = cur:=by
    obtain ⟨hcl,mm,hmm,hmt⟩:=hc.out
    rw [← hcl,List.drop_length] at hmm
    cases hmm
    rw [hmt,← hcl,List.take_length,List.append_nil]
   subst hcm
   have q0:((l.length:Int) < (l.length:Int)) = False:=eq_false (by omega)
   obtain ⟨⟨k0,k1,k2⟩,_,_,_⟩:=bW.facts bk.out
   have hF:=HF.out
   unfold eH.fin at hF
   by_cases z1:p1.size + (strings_Join.cat m).size + p2.size ≤ 140737488355328
   ·rw [if_pos z1] at hF
    by_cases z2:m.length ≤ 1000000
    ·rw [if_pos z2] at hF
     obtain rfl:=Option.some.inj hF
     have z1:=aj.mk z1
     have z2:=aj.mk z2
     clear hF HF
     go_wp2_with (first
      | (go_at_call 96;refine (iL.calls _ _ _ m _ _ _ hR.out z2.out z1.out).mono ?_;rintro e w4 ⟨rfl,hb4⟩;have hB4:=aj.mk (hB.out.trans (hb4.mono hB.out.size));clear hb4))
     go_ret
     exact ⟨rfl,hB4.out⟩
    ·rw [if_neg z2] at hF;cases hF
   ·rw [if_neg z1] at hF;cases hF
def mX.f (k:Nat) (a0:Int) (a1:ByteArray):Option (List ByteArray):=(bW.f k a0 a1).bind fun N8=>(some N8.2.2.1)
set_option maxHeartbeats 8000000 in
set_option maxRecDepth 100000 in
theorem mX.calls (k:Nat) (a0:Int) (a1:ByteArray) (r:List ByteArray) (w:World) (h:mX.f k a0 a1 = some r) :
  Calls Try.prog 29 #[.int .i64 a0,.string a1] w fun e w'=>∃ Ny:Value,e = .returned (Ny) ∧ Kd.R Kd.string 9 w' w.heap.size (fun _=>True) Ny r ∧ Below w.heap.size w w':=by
 have abb:=Try.underlying115
 have HB:=aj.mk (Below.refl w.heap.size w)
 have H:((bW.f k a0 a1).bind fun N8=>(some N8.2.2.1)) = some r:=h
 clear h
 replace H:=zbm H
 obtain ⟨⟨abq,abr,WR,t138⟩,Ua,H⟩:=H
 replace H:(some WR) = some r:=H
 have A3:=aj.mk Ua
 clear Ua
 obtain rfl:=Option.some.inj H
 go_enter Try.func29,Try.ntmps29
 go_wp2_with (first | ((with_reducible refine aU (f:=51) rfl ?_);refine bP (some 10) rfl rfl Try.func51 (by kernel_rfl) rfl #[.int .i64 a0,.string a1] rfl (by (try simp only [List.map_toArray,List.map_cons,List.map_nil]);first | done | rfl | (simp only [List.length_drop,List.length_take];rfl) | (simp only [ByteArray.size_append,Int.natCast_add];rfl) | (rw [B.dX] <;> first | rfl | omega | (simp only [decide_eq_false_iff_not,decide_eq_true_eq,Int.not_lt,Nat.not_lt,gt_iff_lt] at * <;> omega))) ?_;(with_reducible refine (bW.calls k a0 a1 abq abr WR t138 _ A3.out).mono ?_);rintro e w4 ⟨aiw,rfl,ho0,hb⟩;refine ⟨_,rfl,?_⟩;have eP:=aj.mk (Kd.uf ho0 (bK (by repeat (first | (with_reducible first | exact HB.out | apply ak | apply ah | apply au) | exact HB.out))));have iE:=aj.mk (bI (by repeat (first | (with_reducible first | exact HB.out | apply ak | apply ah | apply au) | exact HB.out)) hb);clear HB;have E5:=eP;have HB:=iE;clear eP iE;(try clear hb);(try clear hb2);(try clear hk);(try clear hi);(try clear ho0)) | ((with_reducible refine gL (N:=5) rfl ?_);refine fU ?hg (N:=5) ?hd (cs:=#[.string (⟨#[]⟩:ByteArray),.string (⟨#[]⟩:ByteArray),.slice none 0 0]) (t:=115) ?hr ?_;(case hd=>rfl);(case hg=>rfl);(case hr=>first | (go_simp;done) | (go_simp;rfl));intro wF hg w5 gX hb;have eP:=aj.mk (Kd.l8 (by (with_reducible repeat (first | apply Kd.fJ | apply Kd.gy | apply Kd.gI));exact E5.out) hb);have iE:=aj.mk (bI (by repeat (first | (with_reducible first | exact HB.out | apply ak | apply ah | apply au) | exact HB.out)) hb);have jJ:=aj.mk (gX);have jQ:=aj.mk ((by rw [hg];exact (bK (by repeat (first | (with_reducible first | exact HB.out | apply ak | apply ah | apply au) | exact HB.out))):w.heap.size ≤ wF));have qZ:=aj.mk ((by rw [hg];exact (bK (by repeat (first | (with_reducible first | exact HB.out | apply ak | apply ah | apply au) | exact HB.out))):w.heap.size ≤ wF));clear E5;clear HB;have E5:=eP;have HB:=iE;have zq:=jJ;have ahX:=jQ;have abt:=qZ;clear eP iE jJ jQ qZ;clear hb gX hg;have afX:w5.cell? ⟨wF,0,none⟩ = some (.string (⟨#[]⟩:ByteArray)):=(aK zq.out 0).trans rfl;have afY:w5.cell? ⟨wF,1,none⟩ = some (.string (⟨#[]⟩:ByteArray)):=(aK zq.out 1).trans rfl;have afZ:w5.cell? ⟨wF,2,none⟩ = some (.slice none 0 0):=(aK zq.out 2).trans rfl;have af0:=aA zq.out 0;have af2:=aA zq.out 1;have af3:=aA zq.out 2;obtain ⟨Ao7,co7,eo7⟩:=Kd.Cy E5.out;subst eo7))
 go_ret
 exact ⟨_,by first | rfl | (simp [aI,aJ] <;> rfl) | (simp [*,aI,aJ] <;> rfl),by (with_reducible repeat (first | apply Kd.fJ | apply Kd.gy | apply Kd.gI));exact Kd.qb (Kd.ug (p:=⟨wF,2,none⟩) (Kd.ug (p:=⟨wF,1,none⟩) (Kd.ug (p:=⟨wF,0,none⟩) (Kd.uh E5.out zq.out (by decide)) (fun _ hk=>hk.2) (.string abq)) (fun _ hk=>hk.2) (.string abr)) (fun _ hk=>hk.2) (.slice Ao7 WR.length co7)) (fun _ hk=>trivial),by repeat (first | (with_reducible first | exact HB.out | apply ak | apply ah | apply au | refine aT ?_ abt.out) | exact HB.out)⟩
end Go.Proofs.Ytfokaoeinpnagaa.ZQ
namespace Go.Proofs.Ytfokaoeinpnagaa.ZQ
open Go.RowKit Go.Proofs.YtfokaoeinpnagaaW.bE Go.Proofs.YtfokaoeinpnagaaW.dB Go.Proofs.YtfokaoeinpnagaaW.dU
attribute [local go_sem] jA jB kG kH iI iJ jC jD
theorem WS (d:Nat) (w:World) (x0 y0:Int) (x1 y1:Int) (x2 y2:Int) :
  (Op.equalIn (d + 2) 119 (.agg #[.int .i64 x0,.int .i64 x1,.int .i64 x2]) (.agg #[.int .i64 y0,.int .i64 y1,.int .i64 y2])).run Try.prog w = .ok (x0 == y0 && (x1 == y1 && (x2 == y2))) w:=by
 refine B.Nr Try.underlying119 (by kernel_rfl) (by kernel_rfl) ?_
 show (Op.eqItems _ 3 1 _ _ [0,1,2]).run _ _ = _
 refine B.EF (by go_simp;rfl) (by go_simp;rfl) (by go_simp) ?_
 refine B.EF (by go_simp;rfl) (by go_simp;rfl) (by go_simp) ?_
 exact B.Nq (by go_simp;rfl) (by go_simp;rfl) (by go_simp)
end Go.Proofs.Ytfokaoeinpnagaa.ZQ

/- A part of the proof of ChainLinks: cut, joined and given short names by a program of this session (wip/tools/pack.py); Lean checks it. No condition. -/
import Derived.Test.YtfokaoeinpnagaaPCLksj
import Derived.Test.YtfokaoeinpnagaaPCLksk
import Derived.Test.YtfokaoeinpnagaaProg
import Derived.WideMake
import Derived.WalkKit
import Derived.Below
import Derived.Deep.RegionHeld3
import Derived.Test.YtfokaoeinpnagaaPCLksd
set_option linter.unusedSectionVars false
set_option linter.unusedSimpArgs false
set_option linter.unusedVariables false
namespace Go.Proofs.Ytfokaoeinpnagaa.ZQ
open Go.RowKit Go.Proofs.YtfokaoeinpnagaaW.bD Go.Proofs.YtfokaoeinpnagaaW.dI Go.Proofs.YtfokaoeinpnagaaW.eO
attribute [local go_sem] jr jv ku kC iF iG jw jy
def aQ.f (a0:Int):Option (ByteArray × Int × Int):=some ((⟨#[]⟩:ByteArray),0,a0)
set_option maxHeartbeats 8000000 in
set_option maxRecDepth 100000 in
theorem aQ.calls (a0:Int) (r1:ByteArray) (r2:Int) (r3:Int) (w:World) (h:aQ.f a0 = some (r1,r2,r3)) :
  Calls Try.prog 78 #[.int .i64 a0] w fun e w'=>e = .returned (.tuple #[.string r1,.int .i64 r2,.int .i64 r3]) ∧ aW w w':=by
 have H:(some ((⟨#[]⟩:ByteArray),0,a0)) = some (r1,r2,r3):=h
 clear h
 simp only [Option.some.injEq,Prod.mk.injEq] at H
 obtain ⟨rfl,rfl,rfl⟩:=H
 go_enter Try.func78,Try.ntmps78
 go_wp2
 go_ret3
 exact ⟨by first | rfl | (simp;done) | (simp [*];done),by repeat (first | exact aW.refl _ | apply aW.step)⟩
def aR.l0 : Nat → ByteArray → Int → ByteArray → Int → Int → Option (ByteArray × Int × Int)
 | 0,_,_,_,_,_=>none
 | k + 1,x0,x1,x7,x8,x9=>(av.f k x0 x1 1).bind fun Az=>(if Az.2 = true then (if Az.1 = 0 then (if x8 < 0 then (if x7.size + 1 ≤ 9223372036854775807 then (some (x7 ++ (⟨#[0]⟩:ByteArray),wrap64 (x1 + 1),0)) else (none)) else (if x7.size + 1 ≤ 9223372036854775807 then (some (x7 ++ (⟨#[0]⟩:ByteArray),x8,0)) else (none))) else (if Az.1 ≥ 192 then ((av.f k x0 x1 2).bind fun jY=>(if jY.2 = true then (if (wrap64 (jY.1 - 49152)) ≥ x9 then ((aQ.f 3).bind fun kD=>(some (kD.1,kD.2.1,kD.2.2))) else (if x8 < 0 then (aR.l0 k x0 (wrap64 (jY.1 - 49152)) x7 (wrap64 (x1 + 2)) (wrap64 (jY.1 - 49152))) else (aR.l0 k x0 (wrap64 (jY.1 - 49152)) x7 x8 (wrap64 (jY.1 - 49152))))) else ((aQ.f 2).bind fun kE=>(some (kE.1,kE.2.1,kE.2.2))))) else (if Az.1 > 63 then ((aQ.f 3).bind fun pO=>(some (pO.1,pO.2.1,pO.2.2))) else ((bB.f x0 x1 (wrap64 (Az.1 + 1))).bind fun ni=>(if ni.2 = true then (if x7.size + ni.1.size ≤ 9223372036854775807 then (if (wrap64 (((x7 ++ ni.1).size:Int) + 1)) > 255 then ((aQ.f 3).bind fun kF=>(some (kF.1,kF.2.1,kF.2.2))) else (aR.l0 k x0 (wrap64 ((wrap64 (x1 + Az.1)) + 1)) (x7 ++ ni.1) x8 x9)) else (none)) else ((aQ.f 2).bind fun kG=>(some (kG.1,kG.2.1,kG.2.2)))))))) else ((aQ.f 2).bind fun pQ=>(some (pQ.1,pQ.2.1,pQ.2.2))))
def aR.f (k:Nat) (a0:ByteArray) (a1:Int):Option (ByteArray × Int × Int):=aR.l0 k a0 a1 (⟨#[]⟩:ByteArray) (-1) a1
set_option maxHeartbeats 8000000 in
set_option maxRecDepth 100000 in
theorem aR.calls (k:Nat) (a0:ByteArray) (a1:Int) (r1:ByteArray) (r2:Int) (r3:Int) (w:World) (h:aR.f k a0 a1 = some (r1,r2,r3)) :
  Calls Try.prog 54 #[.string a0,.int .i64 a1] w fun e w'=>e = .returned (.tuple #[.string r1,.int .i64 r2,.int .i64 r3]) ∧ aW w w':=by
 have H:(aR.l0 k a0 a1 (⟨#[]⟩:ByteArray) (-1) a1) = some (r1,r2,r3):=h
 clear h
 have H':=aj.mk H
 clear H
 go_enter Try.func54,Try.ntmps54
 go_wp2
 go_loopg [1,7,8,9] k (fun kq v1 v7 v8 v9 w'=>∃ (dO:Int) (eF:ByteArray) (jc:Int) (ou:Int),v1 = .int .i64 dO ∧ v7 = .string eF ∧ v8 = .int .i64 jc ∧ v9 = .int .i64 ou ∧ aj (aR.l0 kq a0 dO eF jc ou = some (r1,r2,r3)) ∧ aj (kq ≤ k) ∧ aW w w')
 case atStart=>exact ⟨(a1),((⟨#[]⟩:ByteArray)),((-1)),(a1),(by first | rfl | (simp;done) | (simp [*];done) | (simp [B.aX];done) | (simp [B.aY];done)),(by first | rfl | (simp;done) | (simp [*];done) | (simp [B.aX];done) | (simp [B.aY];done)),(by first | rfl | (simp;done) | (simp [*];done) | (simp [B.aX];done) | (simp [B.aY];done)),(by first | rfl | (simp;done) | (simp [*];done) | (simp [B.aX];done) | (simp [B.aY];done)),H',⟨Nat.le_refl _⟩,by repeat (first | exact aW.refl _ | apply aW.step)⟩
 case round =>
  clear H'
  try clear p2
  obtain ⟨dO,eF,jc,ou,rfl,rfl,rfl,rfl,HA,vO,⟨m1,rfl⟩⟩:=hrel
  cases gk with
  | zero=>exact absurd HA.out (by simp [aR.l0])
  | succ k1 =>
   have H:=HA.out
   clear HA
   simp only [aR.l0] at H
   replace H:=zbm H
   obtain ⟨⟨t143,aao⟩,Tf,H⟩:=H
   replace H:(if aao = true then (if t143 = 0 then (if jc < 0 then (if eF.size + 1 ≤ 9223372036854775807 then (some (eF ++ (⟨#[0]⟩:ByteArray),wrap64 (dO + 1),0)) else (none)) else (if eF.size + 1 ≤ 9223372036854775807 then (some (eF ++ (⟨#[0]⟩:ByteArray),jc,0)) else (none))) else (if t143 ≥ 192 then ((av.f k1 a0 dO 2).bind fun jY=>(if jY.2 = true then (if (wrap64 (jY.1 - 49152)) ≥ ou then ((aQ.f 3).bind fun kD=>(some (kD.1,kD.2.1,kD.2.2))) else (if jc < 0 then (aR.l0 k1 a0 (wrap64 (jY.1 - 49152)) eF (wrap64 (dO + 2)) (wrap64 (jY.1 - 49152))) else (aR.l0 k1 a0 (wrap64 (jY.1 - 49152)) eF jc (wrap64 (jY.1 - 49152))))) else ((aQ.f 2).bind fun kE=>(some (kE.1,kE.2.1,kE.2.2))))) else (if t143 > 63 then ((aQ.f 3).bind fun pO=>(some (pO.1,pO.2.1,pO.2.2))) else ((bB.f a0 dO (wrap64 (t143 + 1))).bind fun ni=>(if ni.2 = true then (if eF.size + ni.1.size ≤ 9223372036854775807 then (if (wrap64 (((eF ++ ni.1).size:Int) + 1)) > 255 then ((aQ.f 3).bind fun kF=>(some (kF.1,kF.2.1,kF.2.2))) else (aR.l0 k1 a0 (wrap64 ((wrap64 (dO + t143)) + 1)) (eF ++ ni.1) jc ou)) else (none)) else ((aQ.f 2).bind fun kG=>(some (kG.1,kG.2.1,kG.2.2)))))))) else ((aQ.f 2).bind fun pQ=>(some (pQ.1,pQ.2.1,pQ.2.2)))) = some (r1,r2,r3):=H
   have A3:=aj.mk Tf
   clear Tf
   by_cases c4:aao = true
   ·subst c4
    have H1:(if t143 = 0 then (if jc < 0 then (if eF.size + 1 ≤ 9223372036854775807 then (some (eF ++ (⟨#[0]⟩:ByteArray),wrap64 (dO + 1),0)) else (none)) else (if eF.size + 1 ≤ 9223372036854775807 then (some (eF ++ (⟨#[0]⟩:ByteArray),jc,0)) else (none))) else (if t143 ≥ 192 then ((av.f k1 a0 dO 2).bind fun jY=>(if jY.2 = true then (if (wrap64 (jY.1 - 49152)) ≥ ou then ((aQ.f 3).bind fun kD=>(some (kD.1,kD.2.1,kD.2.2))) else (if jc < 0 then (aR.l0 k1 a0 (wrap64 (jY.1 - 49152)) eF (wrap64 (dO + 2)) (wrap64 (jY.1 - 49152))) else (aR.l0 k1 a0 (wrap64 (jY.1 - 49152)) eF jc (wrap64 (jY.1 - 49152))))) else ((aQ.f 2).bind fun kE=>(some (kE.1,kE.2.1,kE.2.2))))) else (if t143 > 63 then ((aQ.f 3).bind fun pO=>(some (pO.1,pO.2.1,pO.2.2))) else ((bB.f a0 dO (wrap64 (t143 + 1))).bind fun ni=>(if ni.2 = true then (if eF.size + ni.1.size ≤ 9223372036854775807 then (if (wrap64 (((eF ++ ni.1).size:Int) + 1)) > 255 then ((aQ.f 3).bind fun kF=>(some (kF.1,kF.2.1,kF.2.2))) else (aR.l0 k1 a0 (wrap64 ((wrap64 (dO + t143)) + 1)) (eF ++ ni.1) jc ou)) else (none)) else ((aQ.f 2).bind fun kG=>(some (kG.1,kG.2.1,kG.2.2)))))))) = some (r1,r2,r3):=by rw [if_pos rfl] at H;exact H
    clear H
    have H:=H1
    clear H1
    by_cases c5:t143 = 0
    ·rw [if_pos c5] at H
     have pJ:(t143 == 0) = true:=beq_iff_eq.mpr c5
     have uZ:(t143 != 0) = false:=bne_eq_false_iff_eq.mpr c5
     clear c5
     by_cases c6:jc < 0
     ·rw [if_pos c6] at H
      have zM:decide (jc < 0) = true:=decide_eq_true c6
      clear c6
      by_cases c7:eF.size + 1 ≤ 9223372036854775807
      ·rw [if_pos c7] at H
       have wF:=eq_true c7
       have Qf:decide (eF.size + 1 ≤ 9223372036854775807) = true:=decide_eq_true c7
       try have Qg:(9223372036854775807 < eF.size + 1) = False:=eq_false (Nat.not_lt.2 c7)
       simp only [Option.some.injEq,Prod.mk.injEq] at H
       obtain ⟨rfl,rfl,rfl⟩:=H
       go_wp2_with (first | ((with_reducible refine aU (f:=77) rfl ?_);refine bP (some 20) rfl rfl Try.func77 (by kernel_rfl) rfl #[.string a0,.int .i64 dO,.int .i64 1] rfl (by (try simp only [List.map_toArray,List.map_cons,List.map_nil]);first | done | rfl | (simp only [List.length_drop,List.length_take];rfl) | (simp only [ByteArray.size_append,Int.natCast_add];rfl) | (rw [B.dW] <;> first | rfl | omega | (simp only [decide_eq_false_iff_not,decide_eq_true_eq,Int.not_lt,Nat.not_lt,gt_iff_lt] at * <;> omega))) ?_;(with_reducible refine (av.calls k1 a0 dO 1 t143 true _ A3.out).mono ?_);rintro e w' ⟨rfl,⟨nd,rfl⟩⟩;refine ⟨_,rfl,?_⟩))
       go_ret3
       exact ⟨by first | rfl | (simp;done) | (simp [*];done),by repeat (first | exact aW.refl _ | apply aW.step)⟩
      ·rw [if_neg c7] at H
       exact absurd H (by simp)
     ·rw [if_neg c6] at H
      have zM:decide (jc < 0) = false:=decide_eq_false c6
      clear c6
      by_cases c8:eF.size + 1 ≤ 9223372036854775807
      ·rw [if_pos c8] at H
       have uW:=eq_true c8
       have uX:decide (eF.size + 1 ≤ 9223372036854775807) = true:=decide_eq_true c8
       try have M6:(9223372036854775807 < eF.size + 1) = False:=eq_false (Nat.not_lt.2 c8)
       simp only [Option.some.injEq,Prod.mk.injEq] at H
       obtain ⟨rfl,rfl,rfl⟩:=H
       go_wp2_with (first | ((with_reducible refine aU (f:=77) rfl ?_);refine bP (some 20) rfl rfl Try.func77 (by kernel_rfl) rfl #[.string a0,.int .i64 dO,.int .i64 1] rfl (by (try simp only [List.map_toArray,List.map_cons,List.map_nil]);first | done | rfl | (simp only [List.length_drop,List.length_take];rfl) | (simp only [ByteArray.size_append,Int.natCast_add];rfl) | (rw [B.dW] <;> first | rfl | omega | (simp only [decide_eq_false_iff_not,decide_eq_true_eq,Int.not_lt,Nat.not_lt,gt_iff_lt] at * <;> omega))) ?_;(with_reducible refine (av.calls k1 a0 dO 1 t143 true _ A3.out).mono ?_);rintro e w' ⟨rfl,⟨nd,rfl⟩⟩;refine ⟨_,rfl,?_⟩))
       go_ret3
       exact ⟨by first | rfl | (simp;done) | (simp [*];done),by repeat (first | exact aW.refl _ | apply aW.step)⟩
      ·rw [if_neg c8] at H
       exact absurd H (by simp)
    ·rw [if_neg c5] at H
     have pJ:(t143 == 0) = false:=beq_eq_false_iff_ne.mpr c5
     have uZ:(t143 != 0) = true:=bne_iff_ne.mpr c5
     by_cases c9:t143 ≥ 192
     ·rw [if_pos c9] at H
      have tQ:decide (192 ≤ t143) = true:=decide_eq_true c9
      clear c9
      replace H:=zbm H
      obtain ⟨⟨t148,aap⟩,Nf,H⟩:=H
      replace H:(if aap = true then (if (wrap64 (t148 - 49152)) ≥ ou then ((aQ.f 3).bind fun kD=>(some (kD.1,kD.2.1,kD.2.2))) else (if jc < 0 then (aR.l0 k1 a0 (wrap64 (t148 - 49152)) eF (wrap64 (dO + 2)) (wrap64 (t148 - 49152))) else (aR.l0 k1 a0 (wrap64 (t148 - 49152)) eF jc (wrap64 (t148 - 49152))))) else ((aQ.f 2).bind fun kE=>(some (kE.1,kE.2.1,kE.2.2)))) = some (r1,r2,r3):=H
      have Tg:=aj.mk Nf
      clear Nf
      by_cases c11:aap = true
      ·subst c11
       have H1:(if (wrap64 (t148 - 49152)) ≥ ou then ((aQ.f 3).bind fun kD=>(some (kD.1,kD.2.1,kD.2.2))) else (if jc < 0 then (aR.l0 k1 a0 (wrap64 (t148 - 49152)) eF (wrap64 (dO + 2)) (wrap64 (t148 - 49152))) else (aR.l0 k1 a0 (wrap64 (t148 - 49152)) eF jc (wrap64 (t148 - 49152))))) = some (r1,r2,r3):=by rw [if_pos rfl] at H;exact H
       clear H
       have H:=H1
       clear H1
       by_cases c12:(wrap64 (t148 - 49152)) ≥ ou
       ·rw [if_pos c12] at H
        have tT:decide (ou ≤ (wrap64 (t148 - 49152))) = true:=decide_eq_true c12
        (try (have tV:decide (ou ≤ ((t148 - 49152))) = true:=by have h_:decide (ou ≤ (wrap64 (t148 - 49152))) = true:=decide_eq_true c12;rw [B.dW (by omega) (by omega)] at h_;exact h_))
        clear c12
        replace H:=zbm H
        obtain ⟨⟨aaq,t154,aar⟩,aas,H⟩:=H
        replace H:(some (aaq,t154,aar)) = some (r1,r2,r3):=H
        have A13:=aj.mk aas
        clear aas
        simp only [Option.some.injEq,Prod.mk.injEq] at H
        obtain ⟨rfl,rfl,rfl⟩:=H
        go_wp2_with (first | ((with_reducible refine aU (f:=77) rfl ?_);refine bP (some 20) rfl rfl Try.func77 (by kernel_rfl) rfl #[.string a0,.int .i64 dO,.int .i64 1] rfl (by (try simp only [List.map_toArray,List.map_cons,List.map_nil]);first | done | rfl | (simp only [List.length_drop,List.length_take];rfl) | (simp only [ByteArray.size_append,Int.natCast_add];rfl) | (rw [B.dW] <;> first | rfl | omega | (simp only [decide_eq_false_iff_not,decide_eq_true_eq,Int.not_lt,Nat.not_lt,gt_iff_lt] at * <;> omega))) ?_;(with_reducible refine (av.calls k1 a0 dO 1 t143 true _ A3.out).mono ?_);rintro e w' ⟨rfl,⟨nd,rfl⟩⟩;refine ⟨_,rfl,?_⟩) | ((with_reducible refine aU (f:=77) rfl ?_);refine bP (some 43) rfl rfl Try.func77 (by kernel_rfl) rfl #[.string a0,.int .i64 dO,.int .i64 2] rfl (by (try simp only [List.map_toArray,List.map_cons,List.map_nil]);first | done | rfl | (simp only [List.length_drop,List.length_take];rfl) | (simp only [ByteArray.size_append,Int.natCast_add];rfl) | (rw [B.dW] <;> first | rfl | omega | (simp only [decide_eq_false_iff_not,decide_eq_true_eq,Int.not_lt,Nat.not_lt,gt_iff_lt] at * <;> omega))) ?_;(with_reducible refine (av.calls k1 a0 dO 2 t148 true _ Tg.out).mono ?_);rintro e w' ⟨rfl,⟨nd,rfl⟩⟩;refine ⟨_,rfl,?_⟩) | ((with_reducible refine aU (f:=78) rfl ?_);refine bP (some 56) rfl rfl Try.func78 (by kernel_rfl) rfl #[.int .i64 3] rfl (by (try simp only [List.map_toArray,List.map_cons,List.map_nil]);first | done | rfl | (simp only [List.length_drop,List.length_take];rfl) | (simp only [ByteArray.size_append,Int.natCast_add];rfl) | (rw [B.dW] <;> first | rfl | omega | (simp only [decide_eq_false_iff_not,decide_eq_true_eq,Int.not_lt,Nat.not_lt,gt_iff_lt] at * <;> omega))) ?_;(with_reducible refine (aQ.calls 3 aaq t154 aar _ A13.out).mono ?_);rintro e w' ⟨rfl,⟨nd,rfl⟩⟩;refine ⟨_,rfl,?_⟩))
        go_ret3
        exact ⟨by first | rfl | (simp;done) | (simp [*];done),by repeat (first | exact aW.refl _ | apply aW.step)⟩
       ·rw [if_neg c12] at H
        have tT:decide (ou ≤ (wrap64 (t148 - 49152))) = false:=decide_eq_false c12
        (try (have tV:decide (ou ≤ ((t148 - 49152))) = false:=by have h_:decide (ou ≤ (wrap64 (t148 - 49152))) = false:=decide_eq_false c12;rw [B.dW (by omega) (by omega)] at h_;exact h_))
        clear c12
        by_cases c14:jc < 0
        ·rw [if_pos c14] at H
         have H9:decide (jc < 0) = true:=decide_eq_true c14
         clear c14
         have H':=aj.mk H
         clear H
         go_wp2_with (first | ((with_reducible refine aU (f:=77) rfl ?_);refine bP (some 20) rfl rfl Try.func77 (by kernel_rfl) rfl #[.string a0,.int .i64 dO,.int .i64 1] rfl (by (try simp only [List.map_toArray,List.map_cons,List.map_nil]);first | done | rfl | (simp only [List.length_drop,List.length_take];rfl) | (simp only [ByteArray.size_append,Int.natCast_add];rfl) | (rw [B.dW] <;> first | rfl | omega | (simp only [decide_eq_false_iff_not,decide_eq_true_eq,Int.not_lt,Nat.not_lt,gt_iff_lt] at * <;> omega))) ?_;(with_reducible refine (av.calls k1 a0 dO 1 t143 true _ A3.out).mono ?_);rintro e w' ⟨rfl,⟨nd,rfl⟩⟩;refine ⟨_,rfl,?_⟩) | ((with_reducible refine aU (f:=77) rfl ?_);refine bP (some 43) rfl rfl Try.func77 (by kernel_rfl) rfl #[.string a0,.int .i64 dO,.int .i64 2] rfl (by (try simp only [List.map_toArray,List.map_cons,List.map_nil]);first | done | rfl | (simp only [List.length_drop,List.length_take];rfl) | (simp only [ByteArray.size_append,Int.natCast_add];rfl) | (rw [B.dW] <;> first | rfl | omega | (simp only [decide_eq_false_iff_not,decide_eq_true_eq,Int.not_lt,Nat.not_lt,gt_iff_lt] at * <;> omega))) ?_;(with_reducible refine (av.calls k1 a0 dO 2 t148 true _ Tg.out).mono ?_);rintro e w' ⟨rfl,⟨nd,rfl⟩⟩;refine ⟨_,rfl,?_⟩))
         go_roundg k1
         case measure=>have:=vO.out;omega
         case rel=>exact ⟨(wrap64 (t148 - 49152)),(eF),(wrap64 (dO + 2)),(wrap64 (t148 - 49152)),(by first | rfl | (simp;done) | (simp [*];done) | (simp [B.aX];done) | (simp [B.aY];done)),(by first | rfl | (simp;done) | (simp [*];done) | (simp [B.aX];done) | (simp [B.aY];done)),(by first | rfl | (simp;done) | (simp [*];done) | (simp [B.aX];done) | (simp [B.aY];done)),(by first | rfl | (simp;done) | (simp [*];done) | (simp [B.aX];done) | (simp [B.aY];done)),H',⟨by have:=vO.out;omega⟩,by repeat (first | exact aW.refl _ | apply aW.step)⟩
        ·rw [if_neg c14] at H
         have H9:decide (jc < 0) = false:=decide_eq_false c14
         clear c14
         have H':=aj.mk H
         clear H
         go_wp2_with (first | ((with_reducible refine aU (f:=77) rfl ?_);refine bP (some 20) rfl rfl Try.func77 (by kernel_rfl) rfl #[.string a0,.int .i64 dO,.int .i64 1] rfl (by (try simp only [List.map_toArray,List.map_cons,List.map_nil]);first | done | rfl | (simp only [List.length_drop,List.length_take];rfl) | (simp only [ByteArray.size_append,Int.natCast_add];rfl) | (rw [B.dW] <;> first | rfl | omega | (simp only [decide_eq_false_iff_not,decide_eq_true_eq,Int.not_lt,Nat.not_lt,gt_iff_lt] at * <;> omega))) ?_;(with_reducible refine (av.calls k1 a0 dO 1 t143 true _ A3.out).mono ?_);rintro e w' ⟨rfl,⟨nd,rfl⟩⟩;refine ⟨_,rfl,?_⟩) | ((with_reducible refine aU (f:=77) rfl ?_);refine bP (some 43) rfl rfl Try.func77 (by kernel_rfl) rfl #[.string a0,.int .i64 dO,.int .i64 2] rfl (by (try simp only [List.map_toArray,List.map_cons,List.map_nil]);first | done | rfl | (simp only [List.length_drop,List.length_take];rfl) | (simp only [ByteArray.size_append,Int.natCast_add];rfl) | (rw [B.dW] <;> first | rfl | omega | (simp only [decide_eq_false_iff_not,decide_eq_true_eq,Int.not_lt,Nat.not_lt,gt_iff_lt] at * <;> omega))) ?_;(with_reducible refine (av.calls k1 a0 dO 2 t148 true _ Tg.out).mono ?_);rintro e w' ⟨rfl,⟨nd,rfl⟩⟩;refine ⟨_,rfl,?_⟩))
         go_roundg k1
         case measure=>have:=vO.out;omega
         case rel=>exact ⟨(wrap64 (t148 - 49152)),(eF),(jc),(wrap64 (t148 - 49152)),(by first | rfl | (simp;done) | (simp [*];done) | (simp [B.aX];done) | (simp [B.aY];done)),(by first | rfl | (simp;done) | (simp [*];done) | (simp [B.aX];done) | (simp [B.aY];done)),(by first | rfl | (simp;done) | (simp [*];done) | (simp [B.aX];done) | (simp [B.aY];done)),(by first | rfl | (simp;done) | (simp [*];done) | (simp [B.aX];done) | (simp [B.aY];done)),H',⟨by have:=vO.out;omega⟩,by repeat (first | exact aW.refl _ | apply aW.step)⟩
      ·replace c11:=Bool.eq_false_iff.mpr c11
       subst c11
       have H1:((aQ.f 2).bind fun kE=>(some (kE.1,kE.2.1,kE.2.2))) = some (r1,r2,r3):=by rw [if_neg (show ¬ (false = true) by decide)] at H;exact H
       clear H
       have H:=H1
       clear H1
       replace H:=zbm H
       obtain ⟨⟨aat,aau,t152⟩,aav,H⟩:=H
       replace H:(some (aat,aau,t152)) = some (r1,r2,r3):=H
       have A15:=aj.mk aav
       clear aav
       simp only [Option.some.injEq,Prod.mk.injEq] at H
       obtain ⟨rfl,rfl,rfl⟩:=H
       go_wp2_with (first | ((with_reducible refine aU (f:=77) rfl ?_);refine bP (some 20) rfl rfl Try.func77 (by kernel_rfl) rfl #[.string a0,.int .i64 dO,.int .i64 1] rfl (by (try simp only [List.map_toArray,List.map_cons,List.map_nil]);first | done | rfl | (simp only [List.length_drop,List.length_take];rfl) | (simp only [ByteArray.size_append,Int.natCast_add];rfl) | (rw [B.dW] <;> first | rfl | omega | (simp only [decide_eq_false_iff_not,decide_eq_true_eq,Int.not_lt,Nat.not_lt,gt_iff_lt] at * <;> omega))) ?_;(with_reducible refine (av.calls k1 a0 dO 1 t143 true _ A3.out).mono ?_);rintro e w' ⟨rfl,⟨nd,rfl⟩⟩;refine ⟨_,rfl,?_⟩) | ((with_reducible refine aU (f:=77) rfl ?_);refine bP (some 43) rfl rfl Try.func77 (by kernel_rfl) rfl #[.string a0,.int .i64 dO,.int .i64 2] rfl (by (try simp only [List.map_toArray,List.map_cons,List.map_nil]);first | done | rfl | (simp only [List.length_drop,List.length_take];rfl) | (simp only [ByteArray.size_append,Int.natCast_add];rfl) | (rw [B.dW] <;> first | rfl | omega | (simp only [decide_eq_false_iff_not,decide_eq_true_eq,Int.not_lt,Nat.not_lt,gt_iff_lt] at * <;> omega))) ?_;(with_reducible refine (av.calls k1 a0 dO 2 t148 false _ Tg.out).mono ?_);rintro e w' ⟨rfl,⟨nd,rfl⟩⟩;refine ⟨_,rfl,?_⟩) | ((with_reducible refine aU (f:=78) rfl ?_);refine bP (some 48) rfl rfl Try.func78 (by kernel_rfl) rfl #[.int .i64 2] rfl (by (try simp only [List.map_toArray,List.map_cons,List.map_nil]);first | done | rfl | (simp only [List.length_drop,List.length_take];rfl) | (simp only [ByteArray.size_append,Int.natCast_add];rfl) | (rw [B.dW] <;> first | rfl | omega | (simp only [decide_eq_false_iff_not,decide_eq_true_eq,Int.not_lt,Nat.not_lt,gt_iff_lt] at * <;> omega))) ?_;(with_reducible refine (aQ.calls 2 aat aau t152 _ A15.out).mono ?_);rintro e w' ⟨rfl,⟨nd,rfl⟩⟩;refine ⟨_,rfl,?_⟩))
       go_ret3
       exact ⟨by first | rfl | (simp;done) | (simp [*];done),by repeat (first | exact aW.refl _ | apply aW.step)⟩
     ·rw [if_neg c9] at H
      have tQ:decide (192 ≤ t143) = false:=decide_eq_false c9
      clear c9
      by_cases c16:t143 > 63
      ·rw [if_pos c16] at H
       have H7:decide (63 < t143) = true:=decide_eq_true c16
       clear c16
       replace H:=zbm H
       obtain ⟨⟨t156,t157,aaw⟩,aax,H⟩:=H
       replace H:(some (t156,t157,aaw)) = some (r1,r2,r3):=H
       have A17:=aj.mk aax
       clear aax
       simp only [Option.some.injEq,Prod.mk.injEq] at H
       obtain ⟨rfl,rfl,rfl⟩:=H
       go_wp2_with (first | ((with_reducible refine aU (f:=77) rfl ?_);refine bP (some 20) rfl rfl Try.func77 (by kernel_rfl) rfl #[.string a0,.int .i64 dO,.int .i64 1] rfl (by (try simp only [List.map_toArray,List.map_cons,List.map_nil]);first | done | rfl | (simp only [List.length_drop,List.length_take];rfl) | (simp only [ByteArray.size_append,Int.natCast_add];rfl) | (rw [B.dW] <;> first | rfl | omega | (simp only [decide_eq_false_iff_not,decide_eq_true_eq,Int.not_lt,Nat.not_lt,gt_iff_lt] at * <;> omega))) ?_;(with_reducible refine (av.calls k1 a0 dO 1 t143 true _ A3.out).mono ?_);rintro e w' ⟨rfl,⟨nd,rfl⟩⟩;refine ⟨_,rfl,?_⟩) | ((with_reducible refine aU (f:=78) rfl ?_);refine bP (some 69) rfl rfl Try.func78 (by kernel_rfl) rfl #[.int .i64 3] rfl (by (try simp only [List.map_toArray,List.map_cons,List.map_nil]);first | done | rfl | (simp only [List.length_drop,List.length_take];rfl) | (simp only [ByteArray.size_append,Int.natCast_add];rfl) | (rw [B.dW] <;> first | rfl | omega | (simp only [decide_eq_false_iff_not,decide_eq_true_eq,Int.not_lt,Nat.not_lt,gt_iff_lt] at * <;> omega))) ?_;(with_reducible refine (aQ.calls 3 t156 t157 aaw _ A17.out).mono ?_);rintro e w' ⟨rfl,⟨nd,rfl⟩⟩;refine ⟨_,rfl,?_⟩))
       go_ret3
       exact ⟨by first | rfl | (simp;done) | (simp [*];done),by repeat (first | exact aW.refl _ | apply aW.step)⟩
      ·rw [if_neg c16] at H
       have H7:decide (63 < t143) = false:=decide_eq_false c16
       clear c16
       replace H:=zbm H
       obtain ⟨⟨t159,t160⟩,Ng,H⟩:=H
       replace H:(if t160 = true then (if eF.size + t159.size ≤ 9223372036854775807 then (if (wrap64 (((eF ++ t159).size:Int) + 1)) > 255 then ((aQ.f 3).bind fun kF=>(some (kF.1,kF.2.1,kF.2.2))) else (aR.l0 k1 a0 (wrap64 ((wrap64 (dO + t143)) + 1)) (eF ++ t159) jc ou)) else (none)) else ((aQ.f 2).bind fun kG=>(some (kG.1,kG.2.1,kG.2.2)))) = some (r1,r2,r3):=H
       have VX:=aj.mk Ng
       clear Ng
       by_cases c19:t160 = true
       ·subst c19
        have H1:(if eF.size + t159.size ≤ 9223372036854775807 then (if (wrap64 (((eF ++ t159).size:Int) + 1)) > 255 then ((aQ.f 3).bind fun kF=>(some (kF.1,kF.2.1,kF.2.2))) else (aR.l0 k1 a0 (wrap64 ((wrap64 (dO + t143)) + 1)) (eF ++ t159) jc ou)) else (none)) = some (r1,r2,r3):=by rw [if_pos rfl] at H;exact H
        clear H
        have H:=H1
        clear H1
        by_cases c20:eF.size + t159.size ≤ 9223372036854775807
        ·rw [if_pos c20] at H
         have Ti:=eq_true c20
         have agR:decide (eF.size + t159.size ≤ 9223372036854775807) = true:=decide_eq_true c20
         try have agS:(9223372036854775807 < eF.size + t159.size) = False:=eq_false (Nat.not_lt.2 c20)
         by_cases c21:(wrap64 (((eF ++ t159).size:Int) + 1)) > 255
         ·rw [if_pos c21] at H
          have aay:decide (255 < (wrap64 (((eF ++ t159).size:Int) + 1))) = true:=decide_eq_true c21
          (try (have aaz:decide (255 < (wrap64 (((eF.size:Int) + (t159.size:Int)) + 1))) = true:=by have h_:decide (255 < (wrap64 (((eF ++ t159).size:Int) + 1))) = true:=decide_eq_true c21;rw [show ((eF ++ t159).size:Int) = ((eF.size:Int) + (t159.size:Int)) from by (simp only [ByteArray.size_append,Int.natCast_add];first | done | rfl)] at h_;(first | exact h_ | (simp only [Int.add_sub_cancel] at h_;exact h_))))
          (try (have aaA:decide (255 < ((((eF ++ t159).size:Int) + 1))) = true:=by have h_:decide (255 < (wrap64 (((eF ++ t159).size:Int) + 1))) = true:=decide_eq_true c21;rw [B.dW (by omega) (by omega)] at h_;exact h_))
          (try (have aaB:decide (255 < ((((eF.size:Int) + (t159.size:Int)) + 1))) = true:=by have h_:decide (255 < (wrap64 (((eF.size:Int) + (t159.size:Int)) + 1))) = true:=by have h_:decide (255 < (wrap64 (((eF ++ t159).size:Int) + 1))) = true:=decide_eq_true c21;rw [show ((eF ++ t159).size:Int) = ((eF.size:Int) + (t159.size:Int)) from by (simp only [ByteArray.size_append,Int.natCast_add];first | done | rfl)] at h_;(first | exact h_ | (simp only [Int.add_sub_cancel] at h_;exact h_));rw [B.dW (by omega) (by omega)] at h_;exact h_))
          clear c21
          replace H:=zbm H
          obtain ⟨⟨aaC,t162,aaD⟩,aaE,H⟩:=H
          replace H:(some (aaC,t162,aaD)) = some (r1,r2,r3):=H
          have A22:=aj.mk aaE
          clear aaE
          simp only [Option.some.injEq,Prod.mk.injEq] at H
          obtain ⟨rfl,rfl,rfl⟩:=H
          go_wp2_with (first | ((with_reducible refine aU (f:=77) rfl ?_);refine bP (some 20) rfl rfl Try.func77 (by kernel_rfl) rfl #[.string a0,.int .i64 dO,.int .i64 1] rfl (by (try simp only [List.map_toArray,List.map_cons,List.map_nil]);first | done | rfl | (simp only [List.length_drop,List.length_take];rfl) | (simp only [ByteArray.size_append,Int.natCast_add];rfl) | (rw [B.dW] <;> first | rfl | omega | (simp only [decide_eq_false_iff_not,decide_eq_true_eq,Int.not_lt,Nat.not_lt,gt_iff_lt] at * <;> omega))) ?_;(with_reducible refine (av.calls k1 a0 dO 1 t143 true _ A3.out).mono ?_);rintro e w' ⟨rfl,⟨nd,rfl⟩⟩;refine ⟨_,rfl,?_⟩) | ((with_reducible refine aU (f:=79) rfl ?_);refine bP (some 78) rfl rfl Try.func79 (by kernel_rfl) rfl #[.string a0,.int .i64 dO,.int .i64 (wrap64 (t143 + 1))] rfl (by (try simp only [List.map_toArray,List.map_cons,List.map_nil]);first | done | rfl | (simp only [List.length_drop,List.length_take];rfl) | (simp only [ByteArray.size_append,Int.natCast_add];rfl) | (rw [B.dW] <;> first | rfl | omega | (simp only [decide_eq_false_iff_not,decide_eq_true_eq,Int.not_lt,Nat.not_lt,gt_iff_lt] at * <;> omega))) ?_;(with_reducible refine (bB.calls a0 dO (wrap64 (t143 + 1)) t159 true _ VX.out).mono ?_);rintro e w' ⟨rfl,⟨nd,rfl⟩⟩;refine ⟨_,rfl,?_⟩) | ((with_reducible refine aU (f:=78) rfl ?_);refine bP (some 94) rfl rfl Try.func78 (by kernel_rfl) rfl #[.int .i64 3] rfl (by (try simp only [List.map_toArray,List.map_cons,List.map_nil]);first | done | rfl | (simp only [List.length_drop,List.length_take];rfl) | (simp only [ByteArray.size_append,Int.natCast_add];rfl) | (rw [B.dW] <;> first | rfl | omega | (simp only [decide_eq_false_iff_not,decide_eq_true_eq,Int.not_lt,Nat.not_lt,gt_iff_lt] at * <;> omega))) ?_;(with_reducible refine (aQ.calls 3 aaC t162 aaD _ A22.out).mono ?_);rintro e w' ⟨rfl,⟨nd,rfl⟩⟩;refine ⟨_,rfl,?_⟩))
          go_ret3
          exact ⟨by first | rfl | (simp;done) | (simp [*];done),by repeat (first | exact aW.refl _ | apply aW.step)⟩
         ·rw [if_neg c21] at H
          have aay:decide (255 < (wrap64 (((eF ++ t159).size:Int) + 1))) = false:=decide_eq_false c21
          (try (have aaz:decide (255 < (wrap64 (((eF.size:Int) + (t159.size:Int)) + 1))) = false:=by have h_:decide (255 < (wrap64 (((eF ++ t159).size:Int) + 1))) = false:=decide_eq_false c21;rw [show ((eF ++ t159).size:Int) = ((eF.size:Int) + (t159.size:Int)) from by (simp only [ByteArray.size_append,Int.natCast_add];first | done | rfl)] at h_;(first | exact h_ | (simp only [Int.add_sub_cancel] at h_;exact h_))))
          (try (have aaA:decide (255 < ((((eF ++ t159).size:Int) + 1))) = false:=by have h_:decide (255 < (wrap64 (((eF ++ t159).size:Int) + 1))) = false:=decide_eq_false c21;rw [B.dW (by omega) (by omega)] at h_;exact h_))
          (try (have aaB:decide (255 < ((((eF.size:Int) + (t159.size:Int)) + 1))) = false:=by have h_:decide (255 < (wrap64 (((eF.size:Int) + (t159.size:Int)) + 1))) = false:=by have h_:decide (255 < (wrap64 (((eF ++ t159).size:Int) + 1))) = false:=decide_eq_false c21;rw [show ((eF ++ t159).size:Int) = ((eF.size:Int) + (t159.size:Int)) from by (simp only [ByteArray.size_append,Int.natCast_add];first | done | rfl)] at h_;(first | exact h_ | (simp only [Int.add_sub_cancel] at h_;exact h_));rw [B.dW (by omega) (by omega)] at h_;exact h_))
          clear c21
          have H':=aj.mk H
          clear H
          go_wp2_with (first | ((with_reducible refine aU (f:=77) rfl ?_);refine bP (some 20) rfl rfl Try.func77 (by kernel_rfl) rfl #[.string a0,.int .i64 dO,.int .i64 1] rfl (by (try simp only [List.map_toArray,List.map_cons,List.map_nil]);first | done | rfl | (simp only [List.length_drop,List.length_take];rfl) | (simp only [ByteArray.size_append,Int.natCast_add];rfl) | (rw [B.dW] <;> first | rfl | omega | (simp only [decide_eq_false_iff_not,decide_eq_true_eq,Int.not_lt,Nat.not_lt,gt_iff_lt] at * <;> omega))) ?_;(with_reducible refine (av.calls k1 a0 dO 1 t143 true _ A3.out).mono ?_);rintro e w' ⟨rfl,⟨nd,rfl⟩⟩;refine ⟨_,rfl,?_⟩) | ((with_reducible refine aU (f:=79) rfl ?_);refine bP (some 78) rfl rfl Try.func79 (by kernel_rfl) rfl #[.string a0,.int .i64 dO,.int .i64 (wrap64 (t143 + 1))] rfl (by (try simp only [List.map_toArray,List.map_cons,List.map_nil]);first | done | rfl | (simp only [List.length_drop,List.length_take];rfl) | (simp only [ByteArray.size_append,Int.natCast_add];rfl) | (rw [B.dW] <;> first | rfl | omega | (simp only [decide_eq_false_iff_not,decide_eq_true_eq,Int.not_lt,Nat.not_lt,gt_iff_lt] at * <;> omega))) ?_;(with_reducible refine (bB.calls a0 dO (wrap64 (t143 + 1)) t159 true _ VX.out).mono ?_);rintro e w' ⟨rfl,⟨nd,rfl⟩⟩;refine ⟨_,rfl,?_⟩))
          go_roundg k1
          case measure=>have:=vO.out;omega
          case rel=>exact ⟨(wrap64 ((wrap64 (dO + t143)) + 1)),(eF ++ t159),(jc),(ou),(by first | rfl | (simp;done) | (simp [*];done) | (simp [B.aX];done) | (simp [B.aY];done)),(by first | rfl | (simp;done) | (simp [*];done) | (simp [B.aX];done) | (simp [B.aY];done)),(by first | rfl | (simp;done) | (simp [*];done) | (simp [B.aX];done) | (simp [B.aY];done)),(by first | rfl | (simp;done) | (simp [*];done) | (simp [B.aX];done) | (simp [B.aY];done)),H',⟨by have:=vO.out;omega⟩,by repeat (first | exact aW.refl _ | apply aW.step)⟩
        ·rw [if_neg c20] at H
         exact absurd H (by simp)
       ·replace c19:=Bool.eq_false_iff.mpr c19
        subst c19
        have H1:((aQ.f 2).bind fun kG=>(some (kG.1,kG.2.1,kG.2.2))) = some (r1,r2,r3):=by rw [if_neg (show ¬ (false = true) by decide)] at H;exact H
        clear H
        have H:=H1
        clear H1
        replace H:=zbm H
        obtain ⟨⟨t164,aaF,aaG⟩,aaH,H⟩:=H
        replace H:(some (t164,aaF,aaG)) = some (r1,r2,r3):=H
        have A23:=aj.mk aaH
        clear aaH
        simp only [Option.some.injEq,Prod.mk.injEq] at H
        obtain ⟨rfl,rfl,rfl⟩:=H
        go_wp2_with (first | ((with_reducible refine aU (f:=77) rfl ?_);refine bP (some 20) rfl rfl Try.func77 (by kernel_rfl) rfl #[.string a0,.int .i64 dO,.int .i64 1] rfl (by (try simp only [List.map_toArray,List.map_cons,List.map_nil]);first | done | rfl | (simp only [List.length_drop,List.length_take];rfl) | (simp only [ByteArray.size_append,Int.natCast_add];rfl) | (rw [B.dW] <;> first | rfl | omega | (simp only [decide_eq_false_iff_not,decide_eq_true_eq,Int.not_lt,Nat.not_lt,gt_iff_lt] at * <;> omega))) ?_;(with_reducible refine (av.calls k1 a0 dO 1 t143 true _ A3.out).mono ?_);rintro e w' ⟨rfl,⟨nd,rfl⟩⟩;refine ⟨_,rfl,?_⟩) | ((with_reducible refine aU (f:=79) rfl ?_);refine bP (some 78) rfl rfl Try.func79 (by kernel_rfl) rfl #[.string a0,.int .i64 dO,.int .i64 (wrap64 (t143 + 1))] rfl (by (try simp only [List.map_toArray,List.map_cons,List.map_nil]);first | done | rfl | (simp only [List.length_drop,List.length_take];rfl) | (simp only [ByteArray.size_append,Int.natCast_add];rfl) | (rw [B.dW] <;> first | rfl | omega | (simp only [decide_eq_false_iff_not,decide_eq_true_eq,Int.not_lt,Nat.not_lt,gt_iff_lt] at * <;> omega))) ?_;(with_reducible refine (bB.calls a0 dO (wrap64 (t143 + 1)) t159 false _ VX.out).mono ?_);rintro e w' ⟨rfl,⟨nd,rfl⟩⟩;refine ⟨_,rfl,?_⟩) | ((with_reducible refine aU (f:=78) rfl ?_);refine bP (some 83) rfl rfl Try.func78 (by kernel_rfl) rfl #[.int .i64 2] rfl (by (try simp only [List.map_toArray,List.map_cons,List.map_nil]);first | done | rfl | (simp only [List.length_drop,List.length_take];rfl) | (simp only [ByteArray.size_append,Int.natCast_add];rfl) | (rw [B.dW] <;> first | rfl | omega | (simp only [decide_eq_false_iff_not,decide_eq_true_eq,Int.not_lt,Nat.not_lt,gt_iff_lt] at * <;> omega))) ?_;(with_reducible refine (aQ.calls 2 t164 aaF aaG _ A23.out).mono ?_);rintro e w' ⟨rfl,⟨nd,rfl⟩⟩;refine ⟨_,rfl,?_⟩))
        go_ret3
        exact ⟨by first | rfl | (simp;done) | (simp [*];done),by repeat (first | exact aW.refl _ | apply aW.step)⟩
   ·replace c4:=Bool.eq_false_iff.mpr c4
    subst c4
    have H1:((aQ.f 2).bind fun pQ=>(some (pQ.1,pQ.2.1,pQ.2.2))) = some (r1,r2,r3):=by rw [if_neg (show ¬ (false = true) by decide)] at H;exact H
    clear H
    have H:=H1
    clear H1
    replace H:=zbm H
    obtain ⟨⟨t145,t146,aaI⟩,aaJ,H⟩:=H
    replace H:(some (t145,t146,aaI)) = some (r1,r2,r3):=H
    have A24:=aj.mk aaJ
    clear aaJ
    simp only [Option.some.injEq,Prod.mk.injEq] at H
    obtain ⟨rfl,rfl,rfl⟩:=H
    go_wp2_with (first | ((with_reducible refine aU (f:=77) rfl ?_);refine bP (some 20) rfl rfl Try.func77 (by kernel_rfl) rfl #[.string a0,.int .i64 dO,.int .i64 1] rfl (by (try simp only [List.map_toArray,List.map_cons,List.map_nil]);first | done | rfl | (simp only [List.length_drop,List.length_take];rfl) | (simp only [ByteArray.size_append,Int.natCast_add];rfl) | (rw [B.dW] <;> first | rfl | omega | (simp only [decide_eq_false_iff_not,decide_eq_true_eq,Int.not_lt,Nat.not_lt,gt_iff_lt] at * <;> omega))) ?_;(with_reducible refine (av.calls k1 a0 dO 1 t143 false _ A3.out).mono ?_);rintro e w' ⟨rfl,⟨nd,rfl⟩⟩;refine ⟨_,rfl,?_⟩) | ((with_reducible refine aU (f:=78) rfl ?_);refine bP (some 25) rfl rfl Try.func78 (by kernel_rfl) rfl #[.int .i64 2] rfl (by (try simp only [List.map_toArray,List.map_cons,List.map_nil]);first | done | rfl | (simp only [List.length_drop,List.length_take];rfl) | (simp only [ByteArray.size_append,Int.natCast_add];rfl) | (rw [B.dW] <;> first | rfl | omega | (simp only [decide_eq_false_iff_not,decide_eq_true_eq,Int.not_lt,Nat.not_lt,gt_iff_lt] at * <;> omega))) ?_;(with_reducible refine (aQ.calls 2 t145 t146 aaI _ A24.out).mono ?_);rintro e w' ⟨rfl,⟨nd,rfl⟩⟩;refine ⟨_,rfl,?_⟩))
    go_ret3
    exact ⟨by first | rfl | (simp;done) | (simp [*];done),by repeat (first | exact aW.refl _ | apply aW.step)⟩
end Go.Proofs.Ytfokaoeinpnagaa.ZQ
namespace Go.Proofs.Ytfokaoeinpnagaa.ZQ
open Go.RowKit Go.Proofs.YtfokaoeinpnagaaW.bD Go.Proofs.YtfokaoeinpnagaaW.dI Go.Proofs.YtfokaoeinpnagaaW.eO Go.Proofs.Ytfokaoeinpnagaa.B
theorem Ie {msg:ByteArray} {i:Int} (h:192 ≤ bt msg i):49152 ≤ gZ 2 msg i ∧ gZ 2 msg i ≤ 65535:=by
 have h1:=gy msg i
 have h2:=gy msg (i + 1)
 simp [gZ]
 omega
theorem afu (a b:Nat) (c:Int) (h:(b:Int) = 1 + c) (ha:a ≤ 254) (hb:c ≤ 63) (h0:0 ≤ c):wrap64 (((a + b:Nat):Int) + 1) = a + (1 + c) + 1:=by
 rw [dW (by omega) (by omega)];omega
set_option maxHeartbeats 4000000 in
theorem JL (d:Nat):∀ (k:Nat) (msg:ByteArray) (i l n:Int) (t:ByteArray),l.toNat + (255 - t.size) < d → d + 10 ≤ k → msg.size ≤ 100000 → t.size ≤ 254 → (n = -1 ∨ 0 ≤ n) →
  ∃ R,bE.l k msg i l n t = some R ∧ aR.l0 k msg i t n l = some R:=by
 induction d with
 | zero=>intro k msg i l n t h;omega
 | succ d ih =>
  intro k msg i l n t hd hk hm ht hn
  obtain ⟨k,rfl⟩:∃ m,k = m + 1:=⟨k - 1,by omega⟩
  rw [bE.l,aR.l0,rM k (by omega) msg i 1 (by omega),rM k (by omega) msg i 2 (by omega)]
  simp only [Option.bind_some]
  by_cases g1:jX msg i 1
  ·have hr:=gy msg i
   have e1:gZ (1:Int).toNat msg i = bt msg i:=En msg i
   have hi0:=g1.1
   have hi1:=g1.2.2.2
   simp only [if_pos g1,e1,if_true]
   by_cases c0:bt msg i = 0
   ·simp only [if_pos c0]
    have z:t.size + 1 ≤ 9223372036854775807:=by omega
    simp only [if_pos z]
    rw [dW (n:=i + 1) (by omega) (by omega)]
    rcases hn with rfl | hn
    ·rw [if_pos (show (-1:Int) < 0 by omega),if_pos rfl];exact ⟨_,rfl,rfl⟩
    ·rw [if_neg (show ¬ n < 0 by omega),if_neg (show ¬ n = -1 by omega)];exact ⟨_,rfl,rfl⟩
   ·simp only [if_neg c0]
    by_cases c1:192 ≤ bt msg i
    ·have hg:=Ie c1
     simp only [if_pos c1,if_pos (show bt msg i ≥ 192 from c1)]
     by_cases g2:jX msg i 2
     ·have e2:gZ (2:Int).toNat msg i = gZ 2 msg i:=rfl
      have hi2:=g2.2.2.2
      simp only [if_pos g2,e2,if_true]
      rw [dW (n:=gZ 2 msg i - 49152) (by omega) (by omega),dW (n:=i + 2) (by omega) (by omega)]
      by_cases c2:gZ 2 msg i - 49152 ≥ l
      ·rw [if_pos c2,if_pos c2]
       exact ⟨_,rfl,rfl⟩
      ·rw [if_neg c2,if_neg c2]
       rcases hn with rfl | hn
       ·rw [if_pos (show (-1:Int) < 0 by omega),if_pos rfl]
        exact ih k msg _ _ _ t (by omega) (by omega) hm ht (.inr (by omega))
       ·rw [if_neg (show ¬ n < 0 by omega),if_neg (show ¬ n = -1 by omega)]
        exact ih k msg _ _ _ t (by omega) (by omega) hm ht (.inr hn)
     ·simp only [if_neg g2,Bool.false_eq_true,if_false]
      exact ⟨_,rfl,rfl⟩
    ·simp only [if_neg c1,if_neg (show ¬ bt msg i ≥ 192 from c1)]
     by_cases c2:63 < bt msg i
     ·rw [if_pos c2,if_pos (show bt msg i > 63 from c2)]
      exact ⟨_,rfl,rfl⟩
     ·rw [if_neg c2,if_neg (show ¬ bt msg i > 63 from c2),dW (n:=bt msg i + 1) (by omega) (by omega),pK msg i _ (by omega),show bt msg i + 1 = 1 + bt msg i from by omega]
      simp only [Option.bind_some]
      by_cases g3:gV msg i (1 + bt msg i)
      ·have hz:=size_ext g3.1 g3.2.1 g3.2.2
       simp only [if_pos g3,if_true]
       have hsz:t.size + (msg.extract i.toNat (i + (1 + bt msg i)).toNat).size ≤ 9223372036854775807:=by omega
       rw [if_pos hsz,ByteArray.size_append,afu _ _ _ hz ht (by omega) (by omega)]
       clear hsz
       by_cases c3:(t.size:Int) + (1 + bt msg i) ≥ 255
       ·rw [if_pos c3,if_pos (show (t.size:Int) + (1 + bt msg i) + 1 > 255 by omega)]
        exact ⟨_,rfl,rfl⟩
       ·have hb:=g3.2.2
        rw [if_neg c3,if_neg (show ¬ (t.size:Int) + (1 + bt msg i) + 1 > 255 by omega),dW (n:=i + bt msg i) (by omega) (by omega),dW (n:=i + bt msg i + 1) (by omega) (by omega),show i + bt msg i + 1 = i + (1 + bt msg i) from by omega]
        exact ih k msg _ _ _ _ (by rw [ByteArray.size_append];omega) (by omega) hm (by rw [ByteArray.size_append];omega) hn
      ·simp only [if_neg g3,Bool.false_eq_true,if_false]
       exact ⟨_,rfl,rfl⟩
  ·simp only [if_neg g1,Bool.false_eq_true,if_false]
   exact ⟨_,rfl,rfl⟩
theorem Eo {k k':Nat} (hk:k ≤ k') {msg:ByteArray} {i:Int} {R:ByteArray × Int × Int} (h:bE.f k msg i = some R):bE.f k' msg i = some R:=uT (fun k=>bE.mono msg i k) hk h
def rounds (i:Int):Nat:=i.toNat + 300
theorem AA (k:Nat) (msg:ByteArray) (i:Int) (hm:msg.size ≤ 100000) (hk:rounds i ≤ k):∃ R,bE.f k msg i = some R ∧ aR.f k msg i = some R:=by
 unfold rounds at hk
 obtain ⟨R,h1,h2⟩:=JL (i.toNat + 256) k msg i i (-1) ⟨#[]⟩ (by rw [ML];omega) (by omega) hm (by decide) (.inl rfl)
 refine ⟨R,?_,h2⟩
 unfold bE.f
 rw [if_pos (by omega)]
 exact h1
def pre (t:ByteArray):Prop:=∃ ls,t = zL ls ∧ ∀ x ∈ ls,Jz x
theorem pre_nil : pre ⟨#[]⟩:=⟨[],rfl,by simp⟩
theorem Nh {t x:ByteArray} (h:pre t) (hx:Jz x):pre (t ++ (sg x.size ++ x)):=by
 obtain ⟨ls,rfl,hok⟩:=h
 refine ⟨ls ++ [x],?_,?_⟩
 ·rw [Ec];simp only [zL];rw [append_empty]
 ·intro y hy
  rcases List.mem_append.mp hy with hy | hy
  ·exact hok y hy
  ·rw [List.mem_singleton] at hy;subst hy;exact hx
theorem JM {msg:ByteArray} {i:Int} (h:gV msg i (1 + bt msg i)) (h1:1 ≤ bt msg i) (h2:bt msg i ≤ 63):∃ x,Jz x ∧ msg.extract i.toNat (i + (1 + bt msg i)).toNat = sg x.size ++ x:=by
 obtain ⟨g0,g1,g2⟩:=h
 have hz:=size_ext g0 g1 g2
 refine ⟨msg.extract (i.toNat + 1) (i + (1 + bt msg i)).toNat,?_,?_⟩
 ·unfold Jz;rw [ByteArray.size_extract];omega
 ·have e:(msg.extract (i.toNat + 1) (i + (1 + bt msg i)).toNat).size = (bt msg i).toNat:=by rw [ByteArray.size_extract];omega
  rw [e]
  have h3:msg.extract i.toNat (i.toNat + 1) = sg ((bt msg i).toNat:Nat):=by
   refine F6 (by rw [qj,ByteArray.size_extract];omega) fun j j0 j1=>?_
   rw [ByteArray.size_extract] at j1
   have:j = 0:=by omega
   subst this
   rw [mH (by omega) (by rw [ByteArray.size_extract];omega),MQ _ (by omega)]
   rw [show ((i.toNat:Nat):Int) + 0 = i from by omega]
   omega
  rw [← h3,ByteArray.extract_append_extract]
  congr 1 <;> omega
theorem JN (k:Nat):∀ (msg:ByteArray) (a i l n:Int) (t:ByteArray) (R:ByteArray × Int × Int),0 ≤ a → pre t → t.size ≤ 254 → ((n = -1 ∧ a ≤ i) ∨ (a < n ∧ n ≤ (msg.size:Int))) → bE.l k msg i l n t = some R →
  (R.2.2 = 0 ∧ jP R.1 = true ∧ a < R.2.1 ∧ R.2.1 ≤ (msg.size:Int)) ∨ ((R.2.2 = 2 ∨ R.2.2 = 3) ∧ R.1 = ⟨#[]⟩ ∧ R.2.1 = 0):=by
 induction k with
 | zero=>intro msg a i l n t R _ _ _ _ h;simp [bE.l] at h
 | succ k ih =>
  intro msg a i l n t R ha hp ht hn h
  rw [bE.l] at h
  by_cases g1:jX msg i 1
  ·have hr:=gy msg i
   have hi0:=g1.1
   have hi1:=g1.2.2.2
   rw [if_pos g1] at h
   by_cases c0:bt msg i = 0
   ·rw [if_pos c0] at h
    cases h
    left
    refine ⟨rfl,?_,?_⟩
    ·obtain ⟨ls,rfl,hok⟩:=hp
     exact Hw.mpr ⟨ls,rfl,hok,by rw [ByteArray.size_append];show _ + root.size ≤ 255;rw [kS];omega⟩
    ·rcases hn with ⟨rfl,hn⟩ | hn
     ·rw [if_pos rfl];exact ⟨(by show a < i + 1;omega),(by show i + 1 ≤ (msg.size:Int);omega)⟩
     ·rw [if_neg (by omega)];exact hn
   ·rw [if_neg c0] at h
    by_cases c1:192 ≤ bt msg i
    ·rw [if_pos c1] at h
     have hg:=Ie c1
     by_cases g2:jX msg i 2
     ·rw [if_pos g2] at h
      have hi2:=g2.2.2.2
      by_cases c2:gZ 2 msg i - 49152 ≥ l
      ·rw [if_pos c2] at h
       cases h;right;exact ⟨.inr rfl,rfl,rfl⟩
      ·rw [if_neg c2] at h
       rcases hn with ⟨rfl,hn⟩ | hn
       ·rw [if_pos rfl] at h
        exact ih msg a _ _ _ t R ha hp ht (.inr ⟨by omega,by omega⟩) h
       ·rw [if_neg (by omega)] at h
        exact ih msg a _ _ _ t R ha hp ht (.inr hn) h
     ·rw [if_neg g2] at h
      cases h;right;exact ⟨.inl rfl,rfl,rfl⟩
    ·rw [if_neg c1] at h
     by_cases c2:63 < bt msg i
     ·rw [if_pos c2] at h
      cases h;right;exact ⟨.inr rfl,rfl,rfl⟩
     ·rw [if_neg c2] at h
      by_cases g3:gV msg i (1 + bt msg i)
      ·rw [if_pos g3] at h
       by_cases c3:(t.size:Int) + (1 + bt msg i) ≥ 255
       ·rw [if_pos c3] at h
        cases h;right;exact ⟨.inr rfl,rfl,rfl⟩
       ·rw [if_neg c3] at h
        have hz:=size_ext g3.1 g3.2.1 g3.2.2
        obtain ⟨x,hx,hxe⟩:=JM g3 (by omega) (by omega)
        refine ih msg a _ _ _ _ R ha ?_ (by rw [ByteArray.size_append];omega) ?_ h
        ·rw [hxe];exact Nh hp hx
        ·rcases hn with ⟨rfl,hn⟩ | hn
         ·exact .inl ⟨rfl,by omega⟩
         ·exact .inr hn
      ·rw [if_neg g3] at h
       cases h;right;exact ⟨.inl rfl,rfl,rfl⟩
  ·rw [if_neg g1] at h
   cases h;right;exact ⟨.inl rfl,rfl,rfl⟩
theorem VY {k:Nat} {msg:ByteArray} {i:Int} {R:ByteArray × Int × Int} (hm:msg.size ≤ 100000):bE.f k msg i = some R ↔ bE.l k msg i i (-1) ⟨#[]⟩ = some R:=by
 unfold bE.f;rw [if_pos (by omega)]
theorem Gf {k:Nat} {msg:ByteArray} {i:Int} {R:ByteArray × Int × Int} (hm:msg.size ≤ 100000) (h:bE.f k msg i = some R) :
  (R.2.2 = 0 ∧ jP R.1 = true ∧ 0 ≤ i ∧ i < R.2.1 ∧ R.2.1 ≤ (msg.size:Int)) ∨ ((R.2.2 = 2 ∨ R.2.2 = 3) ∧ R.1 = ⟨#[]⟩ ∧ R.2.1 = 0):=by
 rw [VY hm] at h
 by_cases h0:0 ≤ i
 ·rcases JN k msg i i i (-1) ⟨#[]⟩ R h0 pre_nil (by decide) (.inl ⟨rfl,Int.le_refl _⟩) h with ⟨h1,h2,h3,h4⟩ | h1
  ·exact .inl ⟨h1,h2,h0,h3,h4⟩
  ·exact .inr h1
 ·cases k with
  | zero=>simp [bE.l] at h
  | succ k =>
   rw [bE.l,if_neg (fun g=>h0 g.1)] at h
   cases h;right;exact ⟨.inl rfl,rfl,rfl⟩
end Go.Proofs.Ytfokaoeinpnagaa.ZQ
namespace Go.Proofs.Ytfokaoeinpnagaa.ZQ
open Go.RowKit Go.Proofs.YtfokaoeinpnagaaW.bD Go.Proofs.YtfokaoeinpnagaaW.dI Go.Proofs.YtfokaoeinpnagaaW.eO Go.Proofs.Ytfokaoeinpnagaa.B
def plL : List ByteArray → Int → ByteArray → Int
 | [],_,_=>-1
 | x :: m,o,r=>if same (enc (x :: m)) r then o else plL m (o + 1 + x.size) r
def wrL (m:List ByteArray) (a:Int):List ByteArray → ByteArray → ByteArray
 | [],p=>p ++ root
 | x :: l,p=>if 0 ≤ plL m 0 (enc (x :: l)) then p ++ afq (49152 + a + plL m 0 (enc (x :: l))) 2 else wrL m a l (p ++ (sg x.size ++ x))
def wr (base:ByteArray) (a:Int) (n:ByteArray):ByteArray:=match tO base,tO n with
 | some m,some ls=>if 0 ≤ a ∧ a ≤ 16000 then wrL m a ls ⟨#[]⟩ else ⟨#[]⟩
 | _,_=>⟨#[]⟩
theorem JO (a:ByteArray):(qD a).size = a.size:=by unfold qD;rw [strOfNums_size,List.length_map,numsOf_length]
end Go.Proofs.Ytfokaoeinpnagaa.ZQ
namespace Go.Proofs.Ytfokaoeinpnagaa.Mi
open Go Go.Proofs.YtfokaoeinpnagaaW.bD
def ents : Nat → List (Int × Value) → List MapEntry
 | _,[]=>[]
 | i,(k,v) :: l=>{ key:=.int .i64 k,val:=v,born:=i } :: ents (i + 1) l
def su (k:Int):List (Int × Value) → Option Value
 | []=>none
 | (k',v) :: l=>if k = k' then some v else su k l
theorem oz (k:Int):∀ (l:List (Int × Value)) (i j:Nat),∃ r,Instr.findNow (.int .i64) (.int .i64 k) (ents i l) j = some r ∧ r.map (·.2) = su k l
 | [],i,j=>⟨none,rfl,rfl⟩
 | (k',v) :: l,i,j=>by
  obtain ⟨r,h1,h2⟩:=oz k l (i + 1) (j + 1)
  unfold ents su Instr.findNow
  by_cases h:k = k'
  ·subst h
   exact ⟨some (j,v),by simp [Instr.sameNow],by simp⟩
  ·have hb:(k == k') = false:=by simpa using h
   exact ⟨r,by simp [Instr.sameNow,hb,h1],by simp [h,h2]⟩
theorem AB (k:Int) (v:Value):∀ (l:List (Int × Value)) (i:Nat),ents i (l ++ [(k,v)]) = ents i l ++ [{ key:=.int .i64 k,val:=v,born:=i + l.length }]
 | [],i=>rfl
 | (k',v') :: l,i=>by
  simp only [List.cons_append,ents,AB k v l (i + 1),List.length_cons]
  rw [show i + 1 + l.length = i + (l.length + 1) from by omega]
def At (w:World) (b:Nat) (l:List (Int × Value)):Prop:=w.heap[b]? = some (.map (ents 0 l).toArray l.length)
variable {P : Program}
theorem Gg {w:World} {b:Nat} {l:List (Int × Value)} (h:At w b l) (t kt et:TypeId) (hm:P.underlying t = some (.map kt et)) (hk:P.underlying kt = some (.int .i64)) (k:Int) (v:Value) (hn:su k l = none) :
  ∃ w',(Instr.mapUpdate t (.map (some b)) (.int .i64 k) v).run P w = .ok () w' ∧ At w' b (l ++ [(k,v)]) ∧ w.grownBy w' (some b):=by
 obtain ⟨r,h1,h2⟩:=oz k l 0 0
 rw [hn] at h2
 obtain rfl:r = none:=by cases r with | none=>rfl | some x=>cases h2
 have hc:(Instr.checkKey false 10000 kt (.int .i64 k)).run P w = .ok () w:=MapKept.run_checkKey (k:=.int .i64 k) hk (by simp [MapKept.IsKey]) false 9999
 refine ⟨{ w with heap:=w.heap.setIfInBounds b (.map (ents 0 (l ++ [(k,v)])).toArray (l ++ [(k,v)]).length) },?_,(MapKept.heap_set h).1,⟨rfl,rfl,rfl,by simp,fun i _ hi=>(MapKept.heap_set h).2 i (fun e=>hi (by rw [e]))⟩⟩
 unfold At at h
 simp [Instr.mapUpdate,run_underlying hm,MapKept.run_getObj_map h,hc,MapKept.run_findKey hk h1,MapKept.run_setObj_map _ h,Result.andThen]
 rw [AB]
 simp
theorem look {w:World} {b:Nat} {l:List (Int × Value)} (h:At w b l) (t kt et:TypeId) (hm:P.underlying t = some (.map kt et)) (hk:P.underlying kt = some (.int .i64)) (z:Value) (hz:(zeroValue et).run P w = .ok z w) (k:Int) :
  (Instr.lookup t (.map (some b)) (.int .i64 k) true).run P w = .ok (.tuple #[(su k l).getD z,.bool (su k l).isSome]) w:=by
 obtain ⟨r,h1,h2⟩:=oz k l 0 0
 unfold At at h
 have hc:∀ e,(Instr.checkKey e 10000 kt (.int .i64 k)).run P w = .ok () w:=fun e=>MapKept.run_checkKey (k:=.int .i64 k) hk (by simp [MapKept.IsKey]) e 9999
 rw [← h2]
 cases r with
 | none=>simp [Instr.lookup,run_underlying hm,MapKept.run_getObj_map h,hc,MapKept.run_findKey hk h1,Result.andThen,hz]
 | some x=>obtain ⟨i,v⟩:=x;simp [Instr.lookup,run_underlying hm,MapKept.run_getObj_map h,hc,MapKept.run_findKey hk h1,Result.andThen]
theorem JQ (w:World) {ops:Array Oper} {rest:List Oper} {o:Oper} {a:Act} {Q:Exit → Act → World → Prop}
  (hg:o.guard = none) (m x v:Operand) (t:TypeId) (hop:o.op = Op.insert t m x v)
  (kt et:TypeId) (ht:P.underlying t = some (.map kt et)) (hk:P.underlying kt = some (.int .i64)) (b:Nat) (l:List (Int × Value)) (hm:a.eval m = .map (some b)) (hat:At w b l) (k:Int) (val:Value) (hx:a.eval x = .int .i64 k) (hv:a.eval v = val) (hn:su k l = none)
  (hK:∀ w',At w' b (l ++ [(k,val)]) → w.grownBy w' (some b) → wpList P ops Q rest (a.put o.dst undef) w') :
  wpList P ops Q (o :: rest) a w:=by
 refine wpList_plain hg fun K' hK'=>?_
 obtain ⟨w',hrun,r1,r2⟩:=Gg hat t kt et ht hk k val hn
 unfold Oper.wp
 simp [execOp,hop,hm,hx,hv,hrun,Result.andThen]
 exact hK' _ _ (hK w' r1 r2)
theorem Qi (w:World):At (w.alloc (.map #[] 0)) w.heap.size []:=by
 unfold At ents
 exact heap_alloc_new w _
structure In (B0:Nat) (w0 w:World) (b:Nat) (l:List (Int × Value)):Prop where
 at_:At w b l
 ge:B0 ≤ b
 Ni:RowKit.Below B0 w0 w
theorem In.made {w:World}:In w.heap.size w (w.alloc (.map #[] 0)) w.heap.size []:=⟨Qi w,Nat.le_refl _,(RowKit.Below.refl _ _).alloc (Nat.le_refl _) _⟩
theorem In.grown {B0 b:Nat} {w0 w w':World} {l l':List (Int × Value)} (h:In B0 w0 w b l) (h':At w' b l') (hg:w.grownBy w' (some b)):In B0 w0 w' b l':=by
 refine ⟨h',h.ge,h.Ni.grown hg ?_ (fun k e=>by cases e;exact h.ge)⟩
 have:=(Array.getElem?_eq_some_iff.1 h.at_).1
 have:=h.ge
 omega
theorem Ep {w:World} {ops:Array Oper} {rest:List Oper} {o:Oper} {a:Act} {Q:Exit → Act → World → Prop} (t:TypeId) (m x v:Operand) (hop:o.op = Op.insert t m x v) (h:wpList P ops Q (o :: rest) a w):wpList P ops Q (o :: rest) a w:=h
theorem aaK (w:World) {ops:Array Oper} {rest:List Oper} {o:Oper} {a:Act} {Q:Exit → Act → World → Prop}
  (hg:o.guard = none) (m x v:Operand) (t:TypeId) (hop:o.op = Op.insert t m x v)
  (kt et:TypeId) (ht:P.underlying t = some (.map kt et)) (hk:P.underlying kt = some (.int .i64)) (b:Nat) (l:List (Int × Value)) (hm:a.eval m = .map (some b)) {B0:Nat} {w0:World} (hin:In B0 w0 w b l) (k:Int) (val:Value) (hx:a.eval x = .int .i64 k) (hv:a.eval v = val) (hn:su k l = none)
  (hK:∀ w',aj (In B0 w0 w' b (l ++ [(k,val)])) → wpList P ops Q rest (a.put o.dst undef) w') :
  wpList P ops Q (o :: rest) a w :=
 JQ w hg m x v t hop kt et ht hk b l hm hin.at_ k val hx hv hn fun w' h1 h2=>hK w' ⟨hin.grown h1 h2⟩
end Go.Proofs.Ytfokaoeinpnagaa.Mi
namespace Go.Proofs.Ytfokaoeinpnagaa.ZQ
open Go.RowKit Go.Proofs.YtfokaoeinpnagaaW.bD Go.Proofs.YtfokaoeinpnagaaW.dI Go.Proofs.YtfokaoeinpnagaaW.eO
attribute [local go_sem] jr jv ku kC iF iG jw jy
def bV.agg (a b c:Int):Value:=.agg #[.int .i64 a,.int .i64 b,.int .i64 c]
def bV.tab : List (Int × Value):=[(1,bV.agg 4 0 0),(28,bV.agg 16 0 0),(2,bV.agg 0 1 0),(5,bV.agg 0 1 0),(12,bV.agg 0 1 0),(6,bV.agg 0 2 20),(15,bV.agg 2 1 0),(33,bV.agg 6 1 0)]
set_option maxHeartbeats 8000000 in
set_option maxRecDepth 100000 in
theorem bV.calls (w:World):Calls Try.prog 74 #[] w fun e w'=>∃ g,e = .returned (.map (some g)) ∧ Mi.In w.heap.size w w' g bV.tab:=by
 have hmm:=@run_makeMap Try.prog
 have hi:=aj.mk (Mi.In.made (w:=w))
 generalize hg:w.heap.size = g at hi
 have hg':=aj.mk hg
 go_enter Try.func74,Try.ntmps74
 go_wp2_with (first | (refine Mi.Ep 143 _ _ _ rfl ?_;refine Mi.aaK _ rfl _ _ _ 143 rfl 3 141 Try.underlying143 Try.underlying3 _ _ rfl (aj.out (by assumption)) _ _ rfl rfl rfl ?_;clear hi;intro w1 hi))
 go_ret
 exact ⟨g,rfl,hi.out⟩
def bS.l0 : Nat → ByteArray → Int → Int → Int → Int → Int → Int → Int → ByteArray → ByteArray → List ByteArray → Option (ByteArray × ByteArray × List ByteArray × Bool)
 | 0,_,_,_,_,_,_,_,_,_,_,_=>none
 | k + 1,x0,x1,x2,x37,x38,Qj,Qk,Ig,Ih,Ql,Cr=>if x38 < x37 then ((bE.f k x0 x1).bind fun Ii=>(if Ii.2.2 = 0 then (if Ii.2.1 > x2 then (some ((⟨#[]⟩:ByteArray),(⟨#[]⟩:ByteArray),([]:List ByteArray),false)) else (if Cr.length < 8796093022208 then (bS.l0 k x0 Ii.2.1 x2 x37 (wrap64 (x38 + 1)) Qj Qk Ig Ih Ql (Cr ++ [Ii.1])) else (none))) else (some ((⟨#[]⟩:ByteArray),(⟨#[]⟩:ByteArray),([]:List ByteArray),false)))) else (if 0 ≤ x1 then (if x1 ≤ x2 then (if x2 ≤ (x0.size:Int) then (some (Ih,x0.extract (x1:Int).toNat (x2:Int).toNat,Cr,(((x0.extract (x1:Int).toNat (x2:Int).toNat).size:Int) == Ig))) else (none)) else (none)) else (none))
def bS.f (k:Nat) (a0:ByteArray) (a1:Int) (a2:Int) (eP:Int) (iP:Int) (jU:Int):Option (ByteArray × ByteArray × List ByteArray × Bool):=if (eP ≤ (wrap64 (a2 - a1))) then (if 0 ≤ a1 then (if a1 ≤ (wrap64 (a1 + eP)) then (if (wrap64 (a1 + eP)) ≤ (a0.size:Int) then (bS.l0 k a0 (wrap64 (a1 + eP)) a2 iP 0 eP iP jU (a0.extract (a1:Int).toNat ((wrap64 (a1 + eP)):Int).toNat) (⟨#[]⟩:ByteArray) ([]:List ByteArray)) else (none)) else (none)) else (none)) else (some ((⟨#[]⟩:ByteArray),(⟨#[]⟩:ByteArray),([]:List ByteArray),false))
def bS.T15 : Bool × List (List Nat × List Nat):=(true,[([],[]),([],[]),([1],[1]),([2],[2]),([],[]),([4],[4]),([3,5],[3,5]),([0,0],[0]),([6,7,0,1,2,3,4,5,6,7],[6])])
def bS.B15 : List Nat:=[0,0,2,6,0,16,62,1,255]
theorem bS.aaL : mQ .any (opsOf Try.f75 15) = bS.T15:=by kernel_rfl
theorem bS.VZ : qw bS.T15.2 bS.B15 = true:=by kernel_rfl
set_option maxHeartbeats 8000000 in
set_option maxRecDepth 100000 in
theorem bS.calls (k:Nat) (a0:ByteArray) (a1:Int) (a2:Int) (eP:Int) (iP:Int) (jU:Int) (r1:ByteArray) (r2:ByteArray) (r3:List ByteArray) (r4:Bool) (w:World) (h:bS.f k a0 a1 a2 eP iP jU = some (r1,r2,r3,r4)) :
  Calls Try.prog 75 #[.string a0,.int .i64 a1,.int .i64 a2,.agg #[.int .i64 eP,.int .i64 iP,.int .i64 jU]] w fun e w'=>∃ v2_:Value,e = .returned (.tuple #[.agg #[.string r1,.string r2,v2_],.bool r4]) ∧ Kd.R Kd.string 9 w' w.heap.size (fun _=>True) v2_ r3 ∧ Below w.heap.size w w':=by
 have agT:=Try.underlying141
 have aaM:=Try.underlying115
 have HB:=aj.mk (Below.refl w.heap.size w)
 have H:(if (eP ≤ (wrap64 (a2 - a1))) then (if 0 ≤ a1 then (if a1 ≤ (wrap64 (a1 + eP)) then (if (wrap64 (a1 + eP)) ≤ (a0.size:Int) then (bS.l0 k a0 (wrap64 (a1 + eP)) a2 iP 0 eP iP jU (a0.extract (a1:Int).toNat ((wrap64 (a1 + eP)):Int).toNat) (⟨#[]⟩:ByteArray) ([]:List ByteArray)) else (none)) else (none)) else (none)) else (some ((⟨#[]⟩:ByteArray),(⟨#[]⟩:ByteArray),([]:List ByteArray),false))) = some (r1,r2,r3,r4):=h
 clear h
 by_cases c5:(eP ≤ (wrap64 (a2 - a1)))
 ·rw [if_pos c5] at H
  have pJ:decide (eP ≤ (wrap64 (a2 - a1))) = true:=decide_eq_true c5
  (try (have uZ:decide (eP ≤ ((a2 - a1))) = true:=by have h_:decide (eP ≤ (wrap64 (a2 - a1))) = true:=decide_eq_true c5;rw [B.dW (by omega) (by omega)] at h_;exact h_))
  clear c5
  by_cases c6:0 ≤ a1
  ·rw [if_pos c6] at H
   have zM:=eq_true c6
   have MX:decide (0 ≤ a1) = true:=decide_eq_true c6
   clear c6
   by_cases c7:a1 ≤ (wrap64 (a1 + eP))
   ·rw [if_pos c7] at H
    have wF:=eq_true c7
    have Qf:decide (a1 ≤ (wrap64 (a1 + eP))) = true:=decide_eq_true c7
    by_cases c8:(wrap64 (a1 + eP)) ≤ (a0.size:Int)
    ·rw [if_pos c8] at H
     have uW:=eq_true c8
     have uX:decide ((wrap64 (a1 + eP)) ≤ (a0.size:Int)) = true:=decide_eq_true c8
     have H':=aj.mk H
     clear H
     go_enter Try.func75,Try.ntmps75
     go_wp2_with (first | ((with_reducible refine gJ (N:=7) rfl ?_);refine fQ ?hg (N:=7) ?hd (cs:=#[.int .i64 eP,.int .i64 iP,.int .i64 jU]) (t:=141) ?hr ?_;(case hd=>rfl);(case hg=>rfl);(case hr=>first | (go_simp;done) | (go_simp;rfl));intro fM hg w9 gW hb;have eH:=aj.mk (bI (by repeat (first | (with_reducible first | exact HB.out | apply ak | apply ah | apply au) | exact HB.out)) hb);have iB:=aj.mk (gW);have jE:=aj.mk ((by rw [hg];exact (bK (by repeat (first | (with_reducible first | exact HB.out | apply ak | apply ah | apply au) | exact HB.out))):w.heap.size ≤ fM));have jJ:=aj.mk ((by rw [hg];exact (bK (by repeat (first | (with_reducible first | exact HB.out | apply ak | apply ah | apply au) | exact HB.out))):w.heap.size ≤ fM));clear HB;have HB:=eH;have dG:=iB;have aaN:=jE;have iV:=jJ;clear eH iB jE jJ;clear hb gW hg) | ((with_reducible refine gJ (N:=8) rfl ?_);refine fQ ?hg (N:=8) ?hd (cs:=#[.string (⟨#[]⟩:ByteArray),.string (⟨#[]⟩:ByteArray),.slice none 0 0]) (t:=115) ?hr ?_;(case hd=>rfl);(case hg=>rfl);(case hr=>first | (go_simp;done) | (go_simp;rfl));intro dB hg w10 gW hb;have eH:=aj.mk (dS (g:=fM) (o:=.cells #[.int .i64 eP,.int .i64 iP,.int .i64 jU] 141 (0,0)) (by (with_reducible repeat (first | refine aG ?_ _ | refine aH ?_ | refine aD ?_ _));exact dG.out) hb);have iB:=aj.mk (bI (by repeat (first | (with_reducible first | exact HB.out | apply ak | apply ah | apply au | refine aT ?_ iV.out) | exact HB.out)) hb);have jE:=aj.mk (gW);have jJ:=aj.mk ((by rw [hg];exact (bK (by repeat (first | (with_reducible first | exact HB.out | apply ak | apply ah | apply au | refine aT ?_ iV.out) | exact HB.out))):w.heap.size ≤ dB));have qJ:=aj.mk ((by rw [hg];exact (bK (by repeat (first | (with_reducible first | exact HB.out | apply ak | apply ah | apply au | refine aT ?_ iV.out) | exact HB.out))):w.heap.size ≤ dB));have Nj:=aj.mk ((by rw [hg];exact Nat.ne_of_lt (jH (g:=fM) (o:=.cells #[.int .i64 eP,.int .i64 iP,.int .i64 jU] 141 (0,0)) (by (with_reducible repeat (first | refine aG ?_ _ | refine aH ?_ | refine aD ?_ _));exact dG.out)):fM ≠ dB));have Nk:=aj.mk ((by rw [hg];exact Nat.ne_of_gt (jH (g:=fM) (o:=.cells #[.int .i64 eP,.int .i64 iP,.int .i64 jU] 141 (0,0)) (by (with_reducible repeat (first | refine aG ?_ _ | refine aH ?_ | refine aD ?_ _));exact dG.out)):dB ≠ fM));clear dG;clear HB;have dG:=eH;have HB:=iB;have dx:=jE;have aaO:=jJ;have kH:=qJ;have fD:=Nj;have jZ:=Nk;clear eH iB jE jJ qJ Nj Nk;clear hb gW hg) | ((with_reducible refine gJ (N:=10) rfl ?_);refine fQ ?hg (N:=10) ?hd (cs:=#[.string (⟨#[]⟩:ByteArray),.string (⟨#[]⟩:ByteArray),.slice none 0 0]) (t:=115) ?hr ?_;(case hd=>rfl);(case hg=>rfl);(case hr=>first | (go_simp;done) | (go_simp;rfl));intro fC hg XH gW hb;have eH:=aj.mk (dS (g:=fM) (o:=.cells #[.int .i64 eP,.int .i64 iP,.int .i64 jU] 141 (0,0)) (by (with_reducible repeat (first | refine aG ?_ _ | refine aH ?_ | refine aD ?_ _));exact dG.out) hb);have iB:=aj.mk (dS (g:=dB) (o:=.cells #[.string (⟨#[]⟩:ByteArray),.string (⟨#[]⟩:ByteArray),.slice none 0 0] 115 (0,0)) (by (with_reducible repeat (first | refine aG ?_ _ | refine aH ?_ | refine aD ?_ _));exact dx.out) hb);have jE:=aj.mk (bI (by repeat (first | (with_reducible first | exact HB.out | apply ak | apply ah | apply au | refine aT ?_ iV.out | refine aT ?_ kH.out) | exact HB.out)) hb);have jJ:=aj.mk (gW);have qJ:=aj.mk ((by rw [hg];exact (bK (by repeat (first | (with_reducible first | exact HB.out | apply ak | apply ah | apply au | refine aT ?_ iV.out | refine aT ?_ kH.out) | exact HB.out))):w.heap.size ≤ fC));have Nj:=aj.mk ((by rw [hg];exact (bK (by repeat (first | (with_reducible first | exact HB.out | apply ak | apply ah | apply au | refine aT ?_ iV.out | refine aT ?_ kH.out) | exact HB.out))):w.heap.size ≤ fC));have Nk:=aj.mk ((by rw [hg];exact Nat.ne_of_lt (jH (g:=fM) (o:=.cells #[.int .i64 eP,.int .i64 iP,.int .i64 jU] 141 (0,0)) (by (with_reducible repeat (first | refine aG ?_ _ | refine aH ?_ | refine aD ?_ _));exact dG.out)):fM ≠ fC));have n7_:=aj.mk ((by rw [hg];exact Nat.ne_of_gt (jH (g:=fM) (o:=.cells #[.int .i64 eP,.int .i64 iP,.int .i64 jU] 141 (0,0)) (by (with_reducible repeat (first | refine aG ?_ _ | refine aH ?_ | refine aD ?_ _));exact dG.out)):fC ≠ fM));have n8_:=aj.mk ((by rw [hg];exact Nat.ne_of_lt (jH (g:=dB) (o:=.cells #[.string (⟨#[]⟩:ByteArray),.string (⟨#[]⟩:ByteArray),.slice none 0 0] 115 (0,0)) (by (with_reducible repeat (first | refine aG ?_ _ | refine aH ?_ | refine aD ?_ _));exact dx.out)):dB ≠ fC));have n9_:=aj.mk ((by rw [hg];exact Nat.ne_of_gt (jH (g:=dB) (o:=.cells #[.string (⟨#[]⟩:ByteArray),.string (⟨#[]⟩:ByteArray),.slice none 0 0] 115 (0,0)) (by (with_reducible repeat (first | refine aG ?_ _ | refine aH ?_ | refine aD ?_ _));exact dx.out)):fC ≠ dB));clear dG;clear dx;clear HB;have dG:=eH;have dx:=iB;have HB:=jE;have dQ:=jJ;have aaP:=qJ;have nO:=Nj;have j3:=Nk;have nP:=n7_;have gU:=n8_;have eZ:=n9_;clear eH iB jE jJ qJ Nj Nk n7_ n8_ n9_;clear hb gW hg;have agU:=fD.out;have agV:=jZ.out;have agW:=j3.out;have agX:=nP.out;have Qm:XH.cell? ⟨fM,0,none⟩ = some (.int .i64 eP):=(aK dG.out 0).trans rfl;have Qo:XH.cell? ⟨fM,1,none⟩ = some (.int .i64 iP):=(aK dG.out 1).trans rfl;have Qp:XH.cell? ⟨fM,2,none⟩ = some (.int .i64 jU):=(aK dG.out 2).trans rfl;have Qq:=ay dG.out 0;have Qr:=ay dG.out 1;have Qs:=ay dG.out 2;have agY:=eZ.out;have agZ:=gU.out;have Qt:XH.cell? ⟨fC,0,none⟩ = some (.string (⟨#[]⟩:ByteArray)):=(aK dQ.out 0).trans rfl;have Qu:XH.cell? ⟨fC,1,none⟩ = some (.string (⟨#[]⟩:ByteArray)):=(aK dQ.out 1).trans rfl;have Qv:XH.cell? ⟨fC,2,none⟩ = some (.slice none 0 0):=(aK dQ.out 2).trans rfl;have Qw:=ay dQ.out 0;have Qx:=ay dQ.out 1;have Qy:=ay dQ.out 2))
     go_loopg [1,38] k (fun kq v1 v38 w'=>∃ (dO:Int) (ug:Int) (gG:ByteArray) (fE:ByteArray) (iq:List ByteArray) (iQ:Value),v1 = .int .i64 dO ∧ v38 = .int .i64 ug ∧ aj (bS.l0 kq a0 dO a2 iP ug eP iP jU (a0.extract (a1:Int).toNat ((wrap64 (a1 + eP)):Int).toNat) (⟨#[]⟩:ByteArray) iq = some (r1,r2,r3,r4)) ∧ aj (kq ≤ k) ∧ aj (Kd.R Kd.string 9 w' w.heap.size (fun _=>True) iQ iq) ∧ aj (w'.heap[fM]? = some (.cells #[.int .i64 eP,.int .i64 iP,.int .i64 jU] 141 (0,0))) ∧ aj (w'.heap[dB]? = some (.cells #[.string gG,.string fE,(.slice none 0 0)] 115 (0,0))) ∧ aj (w'.heap[fC]? = some (.cells #[.string (a0.extract (a1:Int).toNat ((wrap64 (a1 + eP)):Int).toNat),.string (⟨#[]⟩:ByteArray),iQ] 115 (0,0))) ∧ aj (Below w.heap.size w w'))
     case atStart=>exact ⟨(wrap64 (a1 + eP)),(0),((⟨#[]⟩:ByteArray)),((⟨#[]⟩:ByteArray)),(([]:List ByteArray)),(.slice none 0 0),(by first | rfl | (simp;done) | (simp [*];done) | (simp [B.aX];done) | (simp [B.aY];done)),(by first | rfl | (simp;done) | (simp [*];done) | (simp [B.aX];done) | (simp [B.aY];done)),H',⟨Nat.le_refl _⟩,⟨by first | exact Kd.jG _ _ _ _ _ | exact Kd.kY _ _ _ _ _ | exact Kd.kZ _ _ _ _ _ | exact Kd.kW _ _ _ _ _ | exact Kd.kX _ _ _ _ _⟩,⟨by (with_reducible repeat (first | refine aG ?_ _ | refine aH ?_ | refine aD ?_ _));refine nY ?_ j3.out _;(with_reducible repeat (first | refine aG ?_ _ | refine aH ?_ | refine aD ?_ _));exact dG.out⟩,⟨by (with_reducible repeat (first | refine aG ?_ _ | refine aH ?_ | refine aD ?_ _));refine nY ?_ gU.out _;(with_reducible repeat (first | refine aG ?_ _ | refine aH ?_ | refine aD ?_ _));exact dx.out⟩,⟨by (with_reducible repeat (first | refine aG ?_ _ | refine aH ?_ | refine aD ?_ _));refine bU (cs:=#[.string (⟨#[]⟩:ByteArray),.string (⟨#[]⟩:ByteArray),.slice none 0 0]) ?_ 0 _ rfl;(with_reducible repeat (first | refine aG ?_ _ | refine aH ?_ | refine aD ?_ _));exact dQ.out⟩,⟨by repeat (first | (with_reducible first | exact HB.out | apply ak | apply ah | apply au | refine aT ?_ iV.out | refine aT ?_ kH.out | refine aT ?_ nO.out) | exact HB.out)⟩⟩
     case round =>
      clear H'
      try clear c1
      try clear p2
      try clear c5
      try clear pJ
      try clear uZ
      try clear c6
      try clear zM
      try clear MX
      try clear p6
      try clear c7
      try clear wF
      try clear Qf
      try clear c8
      try clear uW
      try clear uX
      try clear c12
      try clear c13
      try clear c15
      try clear Qm
      try clear Qo
      try clear Qp
      try clear Qt
      try clear Qu
      try clear Qv
      try clear Qq
      try clear Qr
      try clear Qs
      try clear Qw
      try clear Qx
      try clear Qy
      obtain ⟨dO,ug,gG,fE,iq,iQ,rfl,rfl,HA,vO,dL,dG,dx,dQ,HB⟩:=hrel
      cases gk with
      | zero=>exact absurd HA.out (by simp [bS.l0])
      | succ k1 =>
       have H:=HA.out
       clear HA
       simp only [bS.l0] at H
       by_cases c17:ug < iP
       ·rw [if_pos c17] at H
        have aaQ:decide (ug < iP) = true:=decide_eq_true c17
        clear c17
        replace H:=zbm H
        obtain ⟨⟨Gh,zO,t127⟩,Ng,H⟩:=H
        replace H:(if t127 = 0 then (if zO > a2 then (some ((⟨#[]⟩:ByteArray),(⟨#[]⟩:ByteArray),([]:List ByteArray),false)) else (if iq.length < 8796093022208 then (bS.l0 k1 a0 zO a2 iP (wrap64 (ug + 1)) eP iP jU (a0.extract (a1:Int).toNat ((wrap64 (a1 + eP)):Int).toNat) (⟨#[]⟩:ByteArray) (iq ++ [Gh])) else (none))) else (some ((⟨#[]⟩:ByteArray),(⟨#[]⟩:ByteArray),([]:List ByteArray),false))) = some (r1,r2,r3,r4):=H
        have VX:=aj.mk Ng
        clear Ng
        by_cases c19:t127 = 0
        ·rw [if_pos c19] at H
         have aaR:(t127 == 0) = true:=beq_iff_eq.mpr c19
         have aaS:(t127 != 0) = false:=bne_eq_false_iff_eq.mpr c19
         clear c19
         by_cases c20:zO > a2
         ·rw [if_pos c20] at H
          have Ti:decide (a2 < zO) = true:=decide_eq_true c20
          clear c20
          simp only [Option.some.injEq,Prod.mk.injEq] at H
          obtain ⟨rfl,rfl,rfl,rfl⟩:=H
          go_wp2_with (first | ((with_reducible refine aU (f:=92) rfl ?_);refine bP (some 43) rfl rfl Try.func92 (by kernel_rfl) rfl #[.string a0,.int .i64 dO] rfl (by (try simp only [List.map_toArray,List.map_cons,List.map_nil]);first | done | rfl | (simp only [List.length_drop,List.length_take];rfl) | (simp only [ByteArray.size_append,Int.natCast_add];rfl) | (rw [B.dW] <;> first | rfl | omega | (simp only [decide_eq_false_iff_not,decide_eq_true_eq,Int.not_lt,Nat.not_lt,gt_iff_lt] at * <;> omega))) ?_;(with_reducible refine (bE.calls k1 a0 dO Gh zO t127 _ VX.out).mono ?_);rintro e w21 ⟨rfl,hb⟩;refine ⟨_,rfl,?_⟩;have eH:=aj.mk (Kd.lZ (by (with_reducible repeat (first | apply Kd.fH | apply Kd.gu | apply Kd.gH));exact dL.out) hb);have iB:=aj.mk (dS (g:=fM) (o:=.cells #[.int .i64 eP,.int .i64 iP,.int .i64 jU] 141 (0,0)) (by (with_reducible repeat (first | refine aG ?_ _ | refine aH ?_ | refine aD ?_ _));exact dG.out) hb);have jE:=aj.mk (dS (g:=dB) (o:=.cells #[.string gG,.string fE,.slice none 0 0] 115 (0,0)) (by (with_reducible repeat (first | refine aG ?_ _ | refine aH ?_ | refine aD ?_ _));exact dx.out) hb);have jJ:=aj.mk (dS (g:=fC) (o:=.cells #[.string (a0.extract (a1:Int).toNat ((wrap64 (a1 + eP)):Int).toNat),.string (⟨#[]⟩:ByteArray),iQ] 115 (0,0)) (by (with_reducible repeat (first | refine aG ?_ _ | refine aH ?_ | refine aD ?_ _));exact dQ.out) hb);have qJ:=aj.mk (bI (by repeat (first | (with_reducible first | exact HB.out | apply ak | apply ah | apply au | refine aT ?_ iV.out | refine aT ?_ kH.out | refine aT ?_ nO.out) | exact HB.out)) hb);clear dL;clear dG;clear dx;clear dQ;clear HB;have dL:=eH;have dG:=iB;have dx:=jE;have dQ:=jJ;have HB:=qJ;clear eH iB jE jJ qJ;(try clear hb);(try clear hb2);(try clear hk);(try clear hi);have ag0:=jZ.out;have ag1:=fD.out;have ag2:=gU.out;have ag3:=eZ.out;have acP:w21.cell? ⟨dB,0,none⟩ = some (.string gG):=(aK dx.out 0).trans rfl;have acQ:w21.cell? ⟨dB,1,none⟩ = some (.string fE):=(aK dx.out 1).trans rfl;have acR:w21.cell? ⟨dB,2,none⟩ = some (.slice none 0 0):=(aK dx.out 2).trans rfl;have acS:=ay dx.out 0;have acT:=ay dx.out 1;have acU:=ay dx.out 2))
          refine bodyPost_ret (jT rfl _ _ dB 115 #[.string (⟨#[]⟩:ByteArray),.string (⟨#[]⟩:ByteArray),.slice none 0 0] (0,0) _ rfl (by (with_reducible repeat (first | refine aG ?_ _ | refine aH ?_ | refine aD ?_ _));refine bU (cs:=#[.string (⟨#[]⟩:ByteArray),.string (⟨#[]⟩:ByteArray),.slice none 0 0]) ?_ 2 _ rfl;(with_reducible repeat (first | refine aG ?_ _ | refine aH ?_ | refine aD ?_ _));refine bU (cs:=#[.string (⟨#[]⟩:ByteArray),.string fE,.slice none 0 0]) ?_ 1 _ rfl;(with_reducible repeat (first | refine aG ?_ _ | refine aH ?_ | refine aD ?_ _));refine bU (cs:=#[.string gG,.string fE,.slice none 0 0]) ?_ 0 _ rfl;(with_reducible repeat (first | refine aG ?_ _ | refine aH ?_ | refine aD ?_ _));exact dx.out) Try.underlying115 rfl (by kernel_rfl)) rfl ?_
          exact ⟨_,by first | rfl | (simp [aI,aJ] <;> rfl) | (simp [*,aI,aJ] <;> rfl),by first | exact Kd.jG _ _ _ _ _ | exact Kd.kY _ _ _ _ _ | exact Kd.kZ _ _ _ _ _ | exact Kd.kW _ _ _ _ _ | exact Kd.kX _ _ _ _ _,by repeat (first | (with_reducible first | exact HB.out | apply ak | apply ah | apply au | refine aT ?_ iV.out | refine aT ?_ kH.out | refine aT ?_ nO.out) | exact HB.out)⟩
         ·rw [if_neg c20] at H
          have Ti:decide (a2 < zO) = false:=decide_eq_false c20
          clear c20
          by_cases c25:iq.length < 8796093022208
          ·rw [if_pos c25] at H
           have aaT:=aj.mk c25
           clear c25
           obtain ⟨Qz,hy128⟩:∃ y_:List ByteArray,y_ = (iq ++ [Gh]):=⟨_,rfl⟩
           replace H:(bS.l0 k1 a0 zO a2 iP (wrap64 (ug + 1)) eP iP jU (a0.extract (a1:Int).toNat ((wrap64 (a1 + eP)):Int).toNat) (⟨#[]⟩:ByteArray) Qz) = some (r1,r2,r3,r4):=by first | (rw [hy128];with_reducible exact H) | (have Ga:=(Option.bind_some _ _).symm.trans H;rw [hy128];with_reducible exact Ga) | (have Ga:=(Option.bind_some _ _).symm.trans H;with_reducible exact Ga) | with_reducible exact H | (rw [hy128];exact H) | exact H
           have aaU:=aj.mk hy128
           clear hy128
           have H':=aj.mk H
           clear H
           go_wp2_with (first | ((with_reducible refine aU (f:=92) rfl ?_);refine bP (some 43) rfl rfl Try.func92 (by kernel_rfl) rfl #[.string a0,.int .i64 dO] rfl (by (try simp only [List.map_toArray,List.map_cons,List.map_nil]);first | done | rfl | (simp only [List.length_drop,List.length_take];rfl) | (simp only [ByteArray.size_append,Int.natCast_add];rfl) | (rw [B.dW] <;> first | rfl | omega | (simp only [decide_eq_false_iff_not,decide_eq_true_eq,Int.not_lt,Nat.not_lt,gt_iff_lt] at * <;> omega))) ?_;(with_reducible refine (bE.calls k1 a0 dO Gh zO t127 _ VX.out).mono ?_);rintro e w26 ⟨rfl,hb⟩;refine ⟨_,rfl,?_⟩;have eH:=aj.mk (Kd.lZ (by (with_reducible repeat (first | apply Kd.fH | apply Kd.gu | apply Kd.gH));exact dL.out) hb);have iB:=aj.mk (dS (g:=fM) (o:=.cells #[.int .i64 eP,.int .i64 iP,.int .i64 jU] 141 (0,0)) (by (with_reducible repeat (first | refine aG ?_ _ | refine aH ?_ | refine aD ?_ _));exact dG.out) hb);have jE:=aj.mk (dS (g:=dB) (o:=.cells #[.string gG,.string fE,.slice none 0 0] 115 (0,0)) (by (with_reducible repeat (first | refine aG ?_ _ | refine aH ?_ | refine aD ?_ _));exact dx.out) hb);have jJ:=aj.mk (dS (g:=fC) (o:=.cells #[.string (a0.extract (a1:Int).toNat ((wrap64 (a1 + eP)):Int).toNat),.string (⟨#[]⟩:ByteArray),iQ] 115 (0,0)) (by (with_reducible repeat (first | refine aG ?_ _ | refine aH ?_ | refine aD ?_ _));exact dQ.out) hb);have qJ:=aj.mk (bI (by repeat (first | (with_reducible first | exact HB.out | apply ak | apply ah | apply au | refine aT ?_ iV.out | refine aT ?_ kH.out | refine aT ?_ nO.out) | exact HB.out)) hb);clear dL;clear dG;clear dx;clear dQ;clear HB;have dL:=eH;have dG:=iB;have dx:=jE;have dQ:=jJ;have HB:=qJ;clear eH iB jE jJ qJ;(try clear hb);(try clear hb2);(try clear hk);(try clear hi);have ag4:=nP.out;have ag5:=j3.out;have ag6:=eZ.out;have ag7:=gU.out;have acV:w26.cell? ⟨fC,0,none⟩ = some (.string (a0.extract (a1:Int).toNat ((wrap64 (a1 + eP)):Int).toNat)):=(aK dQ.out 0).trans rfl;have acW:w26.cell? ⟨fC,1,none⟩ = some (.string (⟨#[]⟩:ByteArray)):=(aK dQ.out 1).trans rfl;have acX:w26.cell? ⟨fC,2,none⟩ = some (iQ):=(aK dQ.out 2).trans rfl;have acY:=ay dQ.out 0;have acZ:=ay dQ.out 1;have ac0:=ay dQ.out 2) | ((with_reducible refine nZ (b:=.append) (xs:=#[.tmp 56,.tmp 58]) rfl ?_);at_builtin;refine Kd.yC Kd.string (w0:=w) w.heap.size rfl (.tmp 56) (.tmp 58) 25 9 (.string ⟨#[]⟩) 16 rfl Try.underlying25 HV rfl (by decide) (by omega) iQ iq Gh [.string Gh] (fun _=>True) (fun _=>False) rfl rfl ?aP (fun _ hk=>hk.elim) ?aF ?aO ?aB ?aS ?aL ?_;(case aP=>exact rfl);(case aB=>exact (by repeat (first | (with_reducible first | exact HB.out | apply ak | apply ah | apply au | refine aT ?_ iV.out | refine aT ?_ kH.out | refine aT ?_ nO.out) | exact HB.out)));(case aF=>exact (fun _ _=>trivial));(case aO=>exact (by (with_reducible repeat (first | apply Kd.fH | apply Kd.gu | apply Kd.gH));exact dL.out));(case aS=>exact (bK (by repeat (first | (with_reducible first | exact HB.out | apply ak | apply ah | apply au | refine aT ?_ iV.out | refine aT ?_ kH.out | refine aT ?_ nO.out) | exact HB.out))));(case aL=>have:=aaT.out;omega);intro ahW w30 ho hb hg hat;rw [← aaU.out] at ho;have eH:=aj.mk (qh (g:=fM) (o:=.cells #[.int .i64 eP,.int .i64 iP,.int .i64 jU] 141 (0,0)) (by (with_reducible repeat (first | refine aG ?_ _ | refine aH ?_ | refine aD ?_ _));exact dG.out) hg (Kd.P6 dL.out dG.out (by decide)));have iB:=aj.mk (qh (g:=dB) (o:=.cells #[.string gG,.string fE,.slice none 0 0] 115 (0,0)) (by (with_reducible repeat (first | refine aG ?_ _ | refine aH ?_ | refine aD ?_ _));exact dx.out) hg (Kd.P6 dL.out dx.out (by decide)));have jE:=aj.mk (qh (g:=fC) (o:=.cells #[.string (a0.extract (a1:Int).toNat ((wrap64 (a1 + eP)):Int).toNat),.string (⟨#[]⟩:ByteArray),iQ] 115 (0,0)) (by (with_reducible repeat (first | refine aG ?_ _ | refine aH ?_ | refine aD ?_ _));exact dQ.out) hg (Kd.P6 dL.out dQ.out (by decide)));have jJ:=aj.mk (hb);have qJ:=aj.mk (ho);clear dG;clear dx;clear dQ;clear HB;clear dL;have dG:=eH;have dx:=iB;have dQ:=jE;have HB:=jJ;have Tj:=qJ;clear eH iB jE jJ qJ;clear ho hb hg hat;obtain ⟨aaV,aaW,afv⟩:=Kd.Cc Tj.out;subst afv;have Ij:w30.cell? ⟨fC,0,none⟩ = some (.string (a0.extract (a1:Int).toNat ((wrap64 (a1 + eP)):Int).toNat)):=(aK dQ.out 0).trans rfl;have Ik:w30.cell? ⟨fC,1,none⟩ = some (.string (⟨#[]⟩:ByteArray)):=(aK dQ.out 1).trans rfl;have Il:w30.cell? ⟨fC,2,none⟩ = some (iQ):=(aK dQ.out 2).trans rfl;have Im:=ay dQ.out 0;have Io:=ay dQ.out 1;have Ip:=ay dQ.out 2))
           go_roundg k1
           case measure=>have:=vO.out;omega
           case rel=>exact ⟨(zO),(wrap64 (ug + 1)),(gG),(fE),(Qz),(.slice aaV Qz.length aaW),(by first | rfl | (simp;done) | (simp [*];done) | (simp [B.aX];done) | (simp [B.aY];done)),(by first | rfl | (simp;done) | (simp [*];done) | (simp [B.aX];done) | (simp [B.aY];done)),H',⟨by have:=vO.out;omega⟩,⟨by (with_reducible repeat (first | apply Kd.fH | apply Kd.gu | apply Kd.gH));exact Kd.pF (Kd.tF (p:=⟨fC,2,none⟩) (Kd.tH Tj.out dQ.out (by decide)) (fun _ hk=>hk.2) (.slice aaV Qz.length aaW)) (fun _ hk=>trivial)⟩,⟨by (with_reducible repeat (first | refine aG ?_ _ | refine aH ?_ | refine aD ?_ _));refine nY ?_ j3.out _;(with_reducible repeat (first | refine aG ?_ _ | refine aH ?_ | refine aD ?_ _));exact dG.out⟩,⟨by (with_reducible repeat (first | refine aG ?_ _ | refine aH ?_ | refine aD ?_ _));refine nY ?_ gU.out _;(with_reducible repeat (first | refine aG ?_ _ | refine aH ?_ | refine aD ?_ _));exact dx.out⟩,⟨by (with_reducible repeat (first | refine aG ?_ _ | refine aH ?_ | refine aD ?_ _));refine bU (cs:=#[.string (a0.extract (a1:Int).toNat ((wrap64 (a1 + eP)):Int).toNat),.string (⟨#[]⟩:ByteArray),iQ]) ?_ 2 _ rfl;(with_reducible repeat (first | refine aG ?_ _ | refine aH ?_ | refine aD ?_ _));exact dQ.out⟩,⟨by repeat (first | (with_reducible first | exact HB.out | apply ak | apply ah | apply au | refine aT ?_ iV.out | refine aT ?_ kH.out | refine aT ?_ nO.out) | exact HB.out)⟩⟩
          ·rw [if_neg c25] at H
           exact absurd H (by simp)
        ·rw [if_neg c19] at H
         have aaR:(t127 == 0) = false:=beq_eq_false_iff_ne.mpr c19
         have aaS:(t127 != 0) = true:=bne_iff_ne.mpr c19
         simp only [Option.some.injEq,Prod.mk.injEq] at H
         obtain ⟨rfl,rfl,rfl,rfl⟩:=H
         go_wp2_with (first | ((with_reducible refine aU (f:=92) rfl ?_);refine bP (some 43) rfl rfl Try.func92 (by kernel_rfl) rfl #[.string a0,.int .i64 dO] rfl (by (try simp only [List.map_toArray,List.map_cons,List.map_nil]);first | done | rfl | (simp only [List.length_drop,List.length_take];rfl) | (simp only [ByteArray.size_append,Int.natCast_add];rfl) | (rw [B.dW] <;> first | rfl | omega | (simp only [decide_eq_false_iff_not,decide_eq_true_eq,Int.not_lt,Nat.not_lt,gt_iff_lt] at * <;> omega))) ?_;(with_reducible refine (bE.calls k1 a0 dO Gh zO t127 _ VX.out).mono ?_);rintro e w33 ⟨rfl,hb⟩;refine ⟨_,rfl,?_⟩;have eH:=aj.mk (Kd.lZ (by (with_reducible repeat (first | apply Kd.fH | apply Kd.gu | apply Kd.gH));exact dL.out) hb);have iB:=aj.mk (dS (g:=fM) (o:=.cells #[.int .i64 eP,.int .i64 iP,.int .i64 jU] 141 (0,0)) (by (with_reducible repeat (first | refine aG ?_ _ | refine aH ?_ | refine aD ?_ _));exact dG.out) hb);have jE:=aj.mk (dS (g:=dB) (o:=.cells #[.string gG,.string fE,.slice none 0 0] 115 (0,0)) (by (with_reducible repeat (first | refine aG ?_ _ | refine aH ?_ | refine aD ?_ _));exact dx.out) hb);have jJ:=aj.mk (dS (g:=fC) (o:=.cells #[.string (a0.extract (a1:Int).toNat ((wrap64 (a1 + eP)):Int).toNat),.string (⟨#[]⟩:ByteArray),iQ] 115 (0,0)) (by (with_reducible repeat (first | refine aG ?_ _ | refine aH ?_ | refine aD ?_ _));exact dQ.out) hb);have qJ:=aj.mk (bI (by repeat (first | (with_reducible first | exact HB.out | apply ak | apply ah | apply au | refine aT ?_ iV.out | refine aT ?_ kH.out | refine aT ?_ nO.out) | exact HB.out)) hb);clear dL;clear dG;clear dx;clear dQ;clear HB;have dL:=eH;have dG:=iB;have dx:=jE;have dQ:=jJ;have HB:=qJ;clear eH iB jE jJ qJ;(try clear hb);(try clear hb2);(try clear hk);(try clear hi);have ag8:=jZ.out;have ag9:=fD.out;have aha:=gU.out;have ahb:=eZ.out;have ac1:w33.cell? ⟨dB,0,none⟩ = some (.string gG):=(aK dx.out 0).trans rfl;have ac2:w33.cell? ⟨dB,1,none⟩ = some (.string fE):=(aK dx.out 1).trans rfl;have ac3:w33.cell? ⟨dB,2,none⟩ = some (.slice none 0 0):=(aK dx.out 2).trans rfl;have ac4:=ay dx.out 0;have ac5:=ay dx.out 1;have ac6:=ay dx.out 2))
         refine bodyPost_ret (jT rfl _ _ dB 115 #[.string (⟨#[]⟩:ByteArray),.string (⟨#[]⟩:ByteArray),.slice none 0 0] (0,0) _ rfl (by (with_reducible repeat (first | refine aG ?_ _ | refine aH ?_ | refine aD ?_ _));refine bU (cs:=#[.string (⟨#[]⟩:ByteArray),.string (⟨#[]⟩:ByteArray),.slice none 0 0]) ?_ 2 _ rfl;(with_reducible repeat (first | refine aG ?_ _ | refine aH ?_ | refine aD ?_ _));refine bU (cs:=#[.string (⟨#[]⟩:ByteArray),.string fE,.slice none 0 0]) ?_ 1 _ rfl;(with_reducible repeat (first | refine aG ?_ _ | refine aH ?_ | refine aD ?_ _));refine bU (cs:=#[.string gG,.string fE,.slice none 0 0]) ?_ 0 _ rfl;(with_reducible repeat (first | refine aG ?_ _ | refine aH ?_ | refine aD ?_ _));exact dx.out) Try.underlying115 rfl (by kernel_rfl)) rfl ?_
         exact ⟨_,by first | rfl | (simp [aI,aJ] <;> rfl) | (simp [*,aI,aJ] <;> rfl),by first | exact Kd.jG _ _ _ _ _ | exact Kd.kY _ _ _ _ _ | exact Kd.kZ _ _ _ _ _ | exact Kd.kW _ _ _ _ _ | exact Kd.kX _ _ _ _ _,by repeat (first | (with_reducible first | exact HB.out | apply ak | apply ah | apply au | refine aT ?_ iV.out | refine aT ?_ kH.out | refine aT ?_ nO.out) | exact HB.out)⟩
       ·rw [if_neg c17] at H
        have aaQ:decide (ug < iP) = false:=decide_eq_false c17
        clear c17
        by_cases c37:0 ≤ dO
        ·rw [if_pos c37] at H
         have ahc:=eq_true c37
         have ahd:decide (0 ≤ dO) = true:=decide_eq_true c37
         clear c37
         by_cases Fv:dO ≤ a2
         ·rw [if_pos Fv] at H
          have Tk:=eq_true Fv
          have ahe:decide (dO ≤ a2) = true:=decide_eq_true Fv
          clear Fv
          by_cases NM:a2 ≤ (a0.size:Int)
          ·rw [if_pos NM] at H
           have ahf:=eq_true NM
           have ahg:decide (a2 ≤ (a0.size:Int)) = true:=decide_eq_true NM
           clear NM
           simp only [Option.some.injEq,Prod.mk.injEq] at H
           obtain ⟨rfl,rfl,rfl,rfl⟩:=H
           have ahh:=nP.out
           have ahi:=j3.out
           have ahj:=eZ.out
           have ahk:=gU.out
           have QA:wr.cell? ⟨fC,0,none⟩ = some (.string (a0.extract (a1:Int).toNat ((wrap64 (a1 + eP)):Int).toNat)):=(aK dQ.out 0).trans rfl
           have QB:wr.cell? ⟨fC,1,none⟩ = some (.string (⟨#[]⟩:ByteArray)):=(aK dQ.out 1).trans rfl
           have QC:wr.cell? ⟨fC,2,none⟩ = some (iQ):=(aK dQ.out 2).trans rfl
           have QD:=ay dQ.out 0
           have QE:=ay dQ.out 1
           have QF:=ay dQ.out 2
           try go_wp2
           have eH:aj (Kd.R Kd.string 9 (wr.setCell ⟨fC,1,none⟩ (.string (a0.extract (dO:Int).toNat (a2:Int).toNat))) w.heap.size (fun _=>True) iQ iq):=⟨by (with_reducible repeat (first | apply Kd.fH | apply Kd.gu | apply Kd.gH));exact Kd.pF (Kd.tF (p:=⟨fC,1,none⟩) (Kd.tH dL.out dQ.out (by decide)) (fun _ hk=>hk.2) (.string (a0.extract (dO:Int).toNat (a2:Int).toNat))) (fun _ hk=>trivial)⟩
           have iB:aj ((wr.setCell ⟨fC,1,none⟩ (.string (a0.extract (dO:Int).toNat (a2:Int).toNat))).heap[fM]? = some (.cells #[.int .i64 eP,.int .i64 iP,.int .i64 jU] 141 (0,0))):=⟨by (with_reducible repeat (first | refine aG ?_ _ | refine aH ?_ | refine aD ?_ _));refine nY ?_ j3.out _;(with_reducible repeat (first | refine aG ?_ _ | refine aH ?_ | refine aD ?_ _));exact dG.out⟩
           have jE:aj ((wr.setCell ⟨fC,1,none⟩ (.string (a0.extract (dO:Int).toNat (a2:Int).toNat))).heap[dB]? = some (.cells #[.string gG,.string fE,.slice none 0 0] 115 (0,0))):=⟨by (with_reducible repeat (first | refine aG ?_ _ | refine aH ?_ | refine aD ?_ _));refine nY ?_ gU.out _;(with_reducible repeat (first | refine aG ?_ _ | refine aH ?_ | refine aD ?_ _));exact dx.out⟩
           have jJ:aj ((wr.setCell ⟨fC,1,none⟩ (.string (a0.extract (dO:Int).toNat (a2:Int).toNat))).heap[fC]? = some (.cells #[.string (a0.extract (a1:Int).toNat ((wrap64 (a1 + eP)):Int).toNat),.string (a0.extract (dO:Int).toNat (a2:Int).toNat),iQ] 115 (0,0))):=⟨by (with_reducible repeat (first | refine aG ?_ _ | refine aH ?_ | refine aD ?_ _));refine bU (cs:=#[.string (a0.extract (a1:Int).toNat ((wrap64 (a1 + eP)):Int).toNat),.string (⟨#[]⟩:ByteArray),iQ]) ?_ 1 _ rfl;(with_reducible repeat (first | refine aG ?_ _ | refine aH ?_ | refine aD ?_ _));exact dQ.out⟩
           have qJ:aj (Below w.heap.size w (wr.setCell ⟨fC,1,none⟩ (.string (a0.extract (dO:Int).toNat (a2:Int).toNat)))):=⟨by repeat (first | (with_reducible first | exact HB.out | apply ak | apply ah | apply au | refine aT ?_ iV.out | refine aT ?_ kH.out | refine aT ?_ nO.out) | exact HB.out)⟩
           (try clear dL)
           (try clear dG)
           (try clear dx)
           (try clear dQ)
           (try clear HB)
           generalize (wr.setCell ⟨fC,1,none⟩ (.string (a0.extract (dO:Int).toNat (a2:Int).toNat))) = w43 at eH iB jE jJ qJ ⊢
           have dL:=eH
           have dG:=iB
           have dx:=jE
           have dQ:=jJ
           have HB:=qJ
           clear eH iB jE jJ qJ
           have eH:=aj.mk (Kd.gH dL.out)
           have iB:=aj.mk (aH dG.out)
           have jE:=aj.mk (aH dx.out)
           have jJ:=aj.mk (aH dQ.out)
           have qJ:=aj.mk (au HB.out)
           clear dL
           clear dG
           clear dx
           clear dQ
           clear HB
           have dL:=eH
           have dG:=iB
           have dx:=jE
           have dQ:=jJ
           have HB:=qJ
           clear eH iB jE jJ qJ
           obtain ⟨V3,V4,aaX⟩:=Kd.Cc dL.out
           (first | subst aaX | (injection aaX with f1_ f2_ f3_;have f4_:=f1_.symm;have f5_:=f3_.symm;clear f1_ f2_ f3_;subst f4_;subst f5_))
           refine MJ (n:=9) (S:=fun w'=>w'.cell? ⟨fC,0,none⟩ = some (.string (a0.extract (a1:Int).toNat ((wrap64 (a1 + eP)):Int).toNat)) ∧ w'.cell? ⟨fC,1,none⟩ = some (.string (a0.extract (dO:Int).toNat (a2:Int).toNat)) ∧ w'.cell? ⟨fC,2,none⟩ = some (.slice V3 iq.length V4) ∧ w'.cell? ⟨fM,0,none⟩ = some (.int .i64 eP) ∧ w'.cell? ⟨fM,1,none⟩ = some (.int .i64 iP) ∧ w'.cell? ⟨fM,2,none⟩ = some (.int .i64 jU)) (ds:=[]) #[false,false,false,false,false,false,false,false,false] (by kernel_rfl) rfl rfl ⟨(aK dQ.out 0).trans rfl,(aK dQ.out 1).trans rfl,(aK dQ.out 2).trans rfl,(aK dG.out 0).trans rfl,(aK dG.out 1).trans rfl,(aK dG.out 2).trans rfl⟩ (fun hHeld=>?_);refine Aw bS.aaL bS.VZ (fun wE HW_=>?_)
           generalize w43.drew = w44 at dL dG dx dQ HB hHeld ⊢
           refine lM (i:=1) (N:=some 69) (v:=?_) (a':=?_) #[false,true,false,false,false,false,false,false,false] rfl rfl (jI wE.out (by kernel_rfl)) (fun _ _ _ h=>h) (Or.inl ⟨by rfl,?_⟩) ?_ ?_
           rotate_left
           ·intro w'
            go_simp
            with_reducible rfl
           rotate_left
           ·simp only [Act.put,List.setIfInBounds_toArray,List.set_cons_zero,List.set_cons_succ,gT,iA]
            rfl
           refine lM (i:=4) (N:=some 72) (v:=?_) (a':=?_) #[false,true,false,false,true,false,false,false,false] rfl rfl (jI wE.out (by kernel_rfl)) (fun _ _ _ h=>h) (Or.inl ⟨by rfl,?_⟩) ?_ ?_
           rotate_left
           ·intro w'
            go_simp
            with_reducible rfl
           rotate_left
           ·simp only [Act.put,List.setIfInBounds_toArray,List.set_cons_zero,List.set_cons_succ,gT,iA]
            rfl
           refine D8 (i:=0) (N:=some 68) (v:=?_) (a':=?_) #[true,true,false,false,true,false,false,false,false] rfl rfl (yQ wE.out HW_.out (by kernel_rfl)) (fun _ _ _ h=>h) (Or.inl ⟨by rfl,?_⟩) hHeld ?_ ?_
           rotate_left
           ·rintro w' ⟨s0,s1,s2,s3,s4,s5⟩
            go_simp
            with_reducible rfl
           rotate_left
           ·simp only [Act.put,List.setIfInBounds_toArray,List.set_cons_zero,List.set_cons_succ,gT,iA]
            rfl
           refine D8 (i:=2) (N:=some 70) (v:=?_) (a':=?_) #[true,true,true,false,true,false,false,false,false] rfl rfl (yQ wE.out HW_.out (by kernel_rfl)) (fun _ _ _ h=>h) (Or.inl ⟨by rfl,?_⟩) hHeld ?_ ?_
           rotate_left
           ·rintro w' ⟨s0,s1,s2,s3,s4,s5⟩
            go_simp
            with_reducible rfl
           rotate_left
           ·simp only [Act.put,List.setIfInBounds_toArray,List.set_cons_zero,List.set_cons_succ,gT,iA]
            rfl
           refine lM (i:=3) (N:=some 71) (v:=?_) (a':=?_) #[true,true,true,true,true,false,false,false,false] rfl rfl (jI wE.out (by kernel_rfl)) (fun _ _ _ h=>h) (Or.inl ⟨by rfl,?_⟩) ?_ ?_
           rotate_left
           ·intro w'
            go_simp
            with_reducible rfl
           rotate_left
           ·simp only [Act.put,List.setIfInBounds_toArray,List.set_cons_zero,List.set_cons_succ,gT,iA]
            rfl
           refine D8 (i:=5) (N:=some 73) (v:=?_) (a':=?_) #[true,true,true,true,true,true,false,false,false] rfl rfl (yQ wE.out HW_.out (by kernel_rfl)) (fun _ _ _ h=>h) (Or.inl ⟨by rfl,?_⟩) hHeld ?_ ?_
           rotate_left
           ·rintro w' ⟨s0,s1,s2,s3,s4,s5⟩
            go_simp
            with_reducible rfl
           rotate_left
           ·simp only [Act.put,List.setIfInBounds_toArray,List.set_cons_zero,List.set_cons_succ,gT,iA]
            rfl
           refine lM (i:=6) (N:=some 74) (v:=?_) (a':=?_) #[true,true,true,true,true,true,true,false,false] rfl rfl (jI wE.out (by kernel_rfl)) (fun _ _ _ h=>h) (Or.inl ⟨by rfl,?_⟩) ?_ ?_
           rotate_left
           ·intro w'
            go_simp
            with_reducible rfl
           rotate_left
           ·simp only [Act.put,List.setIfInBounds_toArray,List.set_cons_zero,List.set_cons_succ,gT,iA]
            rfl
           refine VI (i:=7) (N:=none) #[true,true,true,true,true,true,true,true,false] rfl rfl (F9 wE.out (by kernel_rfl)) (by decide) (fun K hK=>?_)
           have ahX:w44.cell? ⟨dB,0,none⟩ = some (.string gG):=(aK dx.out 0).trans rfl
           have ahl:=ay dx.out 0
           have ac7:=fD.out
           have ac8:=eZ.out
           have ac9:=jZ.out
           have ada:=gU.out
           have ahY:w44.cell? ⟨dB,1,none⟩ = some (.string fE):=(aK dx.out 1).trans rfl
           have ahm:=ay dx.out 1
           have adb:=fD.out
           have ade:=eZ.out
           have adf:=jZ.out
           have adg:=gU.out
           have ahZ:w44.cell? ⟨dB,2,none⟩ = some (.slice none 0 0):=(aK dx.out 2).trans rfl
           have ahn:=ay dx.out 2
           have adh:=fD.out
           have adi:=eZ.out
           have adj:=jZ.out
           have adk:=gU.out
           refine Z4 (w1:=?_) (by rfl) rfl ?_ ?_
           rotate_left
           ·go_simp
            rfl
           refine hK.out _ _ ⟨((cell_far (p:=⟨dB,_,none⟩) eZ.out _).trans (((cell_far (p:=⟨dB,_,none⟩) eZ.out _).trans (((cell_far (p:=⟨dB,_,none⟩) eZ.out _).trans (hHeld.1)))))),((cell_far (p:=⟨dB,_,none⟩) eZ.out _).trans (((cell_far (p:=⟨dB,_,none⟩) eZ.out _).trans (((cell_far (p:=⟨dB,_,none⟩) eZ.out _).trans (hHeld.2.1)))))),((cell_far (p:=⟨dB,_,none⟩) eZ.out _).trans (((cell_far (p:=⟨dB,_,none⟩) eZ.out _).trans (((cell_far (p:=⟨dB,_,none⟩) eZ.out _).trans (hHeld.2.2.1)))))),((cell_far (p:=⟨dB,_,none⟩) fD.out _).trans (((cell_far (p:=⟨dB,_,none⟩) fD.out _).trans (((cell_far (p:=⟨dB,_,none⟩) fD.out _).trans (hHeld.2.2.2.1)))))),((cell_far (p:=⟨dB,_,none⟩) fD.out _).trans (((cell_far (p:=⟨dB,_,none⟩) fD.out _).trans (((cell_far (p:=⟨dB,_,none⟩) fD.out _).trans (hHeld.2.2.2.2.1)))))),((cell_far (p:=⟨dB,_,none⟩) fD.out _).trans (((cell_far (p:=⟨dB,_,none⟩) fD.out _).trans (((cell_far (p:=⟨dB,_,none⟩) fD.out _).trans (hHeld.2.2.2.2.2))))))⟩ (fun hHeld=>?_)
           clear hK K
           refine lM (i:=8) (N:=some 9) (v:=?_) (a':=?_) #[true,true,true,true,true,true,true,true,true] rfl rfl (jI wE.out (by kernel_rfl)) (fun _ _ _ h=>h) (Or.inl ⟨by rfl,?_⟩) ?_ ?_
           rotate_left
           ·intro w'
            go_simp
            with_reducible rfl
           rotate_left
           ·simp only [Act.put,List.setIfInBounds_toArray,List.set_cons_zero,List.set_cons_succ,gT,iA]
            rfl
           refine SX (Hy wE.out (by kernel_rfl)) ?_
           try go_wp2
           refine bodyPost_ret (jT rfl _ _ dB 115 #[.string (a0.extract (a1:Int).toNat ((wrap64 (a1 + eP)):Int).toNat),.string (a0.extract (dO:Int).toNat (a2:Int).toNat),.slice V3 iq.length V4] (0,0) _ rfl (by (with_reducible repeat (first | refine aG ?_ _ | refine aH ?_ | refine aD ?_ _));refine bU (cs:=#[.string (a0.extract (a1:Int).toNat ((wrap64 (a1 + eP)):Int).toNat),.string (a0.extract (dO:Int).toNat (a2:Int).toNat),.slice none 0 0]) ?_ 2 _ rfl;(with_reducible repeat (first | refine aG ?_ _ | refine aH ?_ | refine aD ?_ _));refine bU (cs:=#[.string (a0.extract (a1:Int).toNat ((wrap64 (a1 + eP)):Int).toNat),.string fE,.slice none 0 0]) ?_ 1 _ rfl;(with_reducible repeat (first | refine aG ?_ _ | refine aH ?_ | refine aD ?_ _));refine bU (cs:=#[.string gG,.string fE,.slice none 0 0]) ?_ 0 _ rfl;(with_reducible repeat (first | refine aG ?_ _ | refine aH ?_ | refine aD ?_ _));exact dx.out) Try.underlying115 rfl (by kernel_rfl)) rfl ?_
           exact ⟨_,by first | rfl | (simp [aI,aJ] <;> rfl) | (simp [*,aI,aJ] <;> rfl),by (with_reducible repeat (first | apply Kd.fH | apply Kd.gu | apply Kd.gH));exact Kd.pF (Kd.tF (p:=⟨dB,2,none⟩) (Kd.tF (p:=⟨dB,1,none⟩) (Kd.tF (p:=⟨dB,0,none⟩) (Kd.tH dL.out dx.out (by decide)) (fun _ hk=>hk.2) (.string (a0.extract (a1:Int).toNat ((wrap64 (a1 + eP)):Int).toNat))) (fun _ hk=>hk.2) (.string (a0.extract (dO:Int).toNat (a2:Int).toNat))) (fun _ hk=>hk.2) (.slice V3 iq.length V4)) (fun _ hk=>trivial),by repeat (first | (with_reducible first | exact HB.out | apply ak | apply ah | apply au | refine aT ?_ iV.out | refine aT ?_ kH.out | refine aT ?_ nO.out) | exact HB.out)⟩
          ·rw [if_neg NM] at H
           exact absurd H (by simp)
         ·rw [if_neg Fv] at H
          exact absurd H (by simp)
        ·rw [if_neg c37] at H
         exact absurd H (by simp)
    ·rw [if_neg c8] at H
     exact absurd H (by simp)
   ·rw [if_neg c7] at H
    exact absurd H (by simp)
  ·rw [if_neg c6] at H
   exact absurd H (by simp)
 ·rw [if_neg c5] at H
  have pJ:decide (eP ≤ (wrap64 (a2 - a1))) = false:=decide_eq_false c5
  (try (have uZ:decide (eP ≤ ((a2 - a1))) = false:=by have h_:decide (eP ≤ (wrap64 (a2 - a1))) = false:=decide_eq_false c5;rw [B.dW (by omega) (by omega)] at h_;exact h_))
  clear c5
  simp only [Option.some.injEq,Prod.mk.injEq] at H
  obtain ⟨rfl,rfl,rfl,rfl⟩:=H
  go_enter Try.func75,Try.ntmps75
  go_wp2_with (first | ((with_reducible refine gJ (N:=7) rfl ?_);refine fQ ?hg (N:=7) ?hd (cs:=#[.int .i64 eP,.int .i64 iP,.int .i64 jU]) (t:=141) ?hr ?_;(case hd=>rfl);(case hg=>rfl);(case hr=>first | (go_simp;done) | (go_simp;rfl));intro fM hg w49 gW hb;have eH:=aj.mk (bI (by repeat (first | (with_reducible first | exact HB.out | apply ak | apply ah | apply au) | exact HB.out)) hb);have iB:=aj.mk (gW);have jE:=aj.mk ((by rw [hg];exact (bK (by repeat (first | (with_reducible first | exact HB.out | apply ak | apply ah | apply au) | exact HB.out))):w.heap.size ≤ fM));have jJ:=aj.mk ((by rw [hg];exact (bK (by repeat (first | (with_reducible first | exact HB.out | apply ak | apply ah | apply au) | exact HB.out))):w.heap.size ≤ fM));clear HB;have HB:=eH;have dG:=iB;have aaN:=jE;have iV:=jJ;clear eH iB jE jJ;clear hb gW hg) | ((with_reducible refine gJ (N:=8) rfl ?_);refine fQ ?hg (N:=8) ?hd (cs:=#[.string (⟨#[]⟩:ByteArray),.string (⟨#[]⟩:ByteArray),.slice none 0 0]) (t:=115) ?hr ?_;(case hd=>rfl);(case hg=>rfl);(case hr=>first | (go_simp;done) | (go_simp;rfl));intro dB hg w50 gW hb;have eH:=aj.mk (dS (g:=fM) (o:=.cells #[.int .i64 eP,.int .i64 iP,.int .i64 jU] 141 (0,0)) (by (with_reducible repeat (first | refine aG ?_ _ | refine aH ?_ | refine aD ?_ _));exact dG.out) hb);have iB:=aj.mk (bI (by repeat (first | (with_reducible first | exact HB.out | apply ak | apply ah | apply au | refine aT ?_ iV.out) | exact HB.out)) hb);have jE:=aj.mk (gW);have jJ:=aj.mk ((by rw [hg];exact (bK (by repeat (first | (with_reducible first | exact HB.out | apply ak | apply ah | apply au | refine aT ?_ iV.out) | exact HB.out))):w.heap.size ≤ dB));have qJ:=aj.mk ((by rw [hg];exact (bK (by repeat (first | (with_reducible first | exact HB.out | apply ak | apply ah | apply au | refine aT ?_ iV.out) | exact HB.out))):w.heap.size ≤ dB));have Nj:=aj.mk ((by rw [hg];exact Nat.ne_of_lt (jH (g:=fM) (o:=.cells #[.int .i64 eP,.int .i64 iP,.int .i64 jU] 141 (0,0)) (by (with_reducible repeat (first | refine aG ?_ _ | refine aH ?_ | refine aD ?_ _));exact dG.out)):fM ≠ dB));have Nk:=aj.mk ((by rw [hg];exact Nat.ne_of_gt (jH (g:=fM) (o:=.cells #[.int .i64 eP,.int .i64 iP,.int .i64 jU] 141 (0,0)) (by (with_reducible repeat (first | refine aG ?_ _ | refine aH ?_ | refine aD ?_ _));exact dG.out)):dB ≠ fM));clear dG;clear HB;have dG:=eH;have HB:=iB;have dx:=jE;have aaO:=jJ;have kH:=qJ;have fD:=Nj;have jZ:=Nk;clear eH iB jE jJ qJ Nj Nk;clear hb gW hg) | ((with_reducible refine gJ (N:=10) rfl ?_);refine fQ ?hg (N:=10) ?hd (cs:=#[.string (⟨#[]⟩:ByteArray),.string (⟨#[]⟩:ByteArray),.slice none 0 0]) (t:=115) ?hr ?_;(case hd=>rfl);(case hg=>rfl);(case hr=>first | (go_simp;done) | (go_simp;rfl));intro fC hg XI gW hb;have eH:=aj.mk (dS (g:=fM) (o:=.cells #[.int .i64 eP,.int .i64 iP,.int .i64 jU] 141 (0,0)) (by (with_reducible repeat (first | refine aG ?_ _ | refine aH ?_ | refine aD ?_ _));exact dG.out) hb);have iB:=aj.mk (dS (g:=dB) (o:=.cells #[.string (⟨#[]⟩:ByteArray),.string (⟨#[]⟩:ByteArray),.slice none 0 0] 115 (0,0)) (by (with_reducible repeat (first | refine aG ?_ _ | refine aH ?_ | refine aD ?_ _));exact dx.out) hb);have jE:=aj.mk (bI (by repeat (first | (with_reducible first | exact HB.out | apply ak | apply ah | apply au | refine aT ?_ iV.out | refine aT ?_ kH.out) | exact HB.out)) hb);have jJ:=aj.mk (gW);have qJ:=aj.mk ((by rw [hg];exact (bK (by repeat (first | (with_reducible first | exact HB.out | apply ak | apply ah | apply au | refine aT ?_ iV.out | refine aT ?_ kH.out) | exact HB.out))):w.heap.size ≤ fC));have Nj:=aj.mk ((by rw [hg];exact (bK (by repeat (first | (with_reducible first | exact HB.out | apply ak | apply ah | apply au | refine aT ?_ iV.out | refine aT ?_ kH.out) | exact HB.out))):w.heap.size ≤ fC));have Nk:=aj.mk ((by rw [hg];exact Nat.ne_of_lt (jH (g:=fM) (o:=.cells #[.int .i64 eP,.int .i64 iP,.int .i64 jU] 141 (0,0)) (by (with_reducible repeat (first | refine aG ?_ _ | refine aH ?_ | refine aD ?_ _));exact dG.out)):fM ≠ fC));have n7_:=aj.mk ((by rw [hg];exact Nat.ne_of_gt (jH (g:=fM) (o:=.cells #[.int .i64 eP,.int .i64 iP,.int .i64 jU] 141 (0,0)) (by (with_reducible repeat (first | refine aG ?_ _ | refine aH ?_ | refine aD ?_ _));exact dG.out)):fC ≠ fM));have n8_:=aj.mk ((by rw [hg];exact Nat.ne_of_lt (jH (g:=dB) (o:=.cells #[.string (⟨#[]⟩:ByteArray),.string (⟨#[]⟩:ByteArray),.slice none 0 0] 115 (0,0)) (by (with_reducible repeat (first | refine aG ?_ _ | refine aH ?_ | refine aD ?_ _));exact dx.out)):dB ≠ fC));have n9_:=aj.mk ((by rw [hg];exact Nat.ne_of_gt (jH (g:=dB) (o:=.cells #[.string (⟨#[]⟩:ByteArray),.string (⟨#[]⟩:ByteArray),.slice none 0 0] 115 (0,0)) (by (with_reducible repeat (first | refine aG ?_ _ | refine aH ?_ | refine aD ?_ _));exact dx.out)):fC ≠ dB));clear dG;clear dx;clear HB;have dG:=eH;have dx:=iB;have HB:=jE;have dQ:=jJ;have aaP:=qJ;have nO:=Nj;have j3:=Nk;have nP:=n7_;have gU:=n8_;have eZ:=n9_;clear eH iB jE jJ qJ Nj Nk n7_ n8_ n9_;clear hb gW hg;have aho:=fD.out;have ahp:=jZ.out;have ahq:=j3.out;have ahr:=nP.out;have adl:XI.cell? ⟨fM,0,none⟩ = some (.int .i64 eP):=(aK dG.out 0).trans rfl;have adn:XI.cell? ⟨fM,1,none⟩ = some (.int .i64 iP):=(aK dG.out 1).trans rfl;have ado:XI.cell? ⟨fM,2,none⟩ = some (.int .i64 jU):=(aK dG.out 2).trans rfl;have adp:=ay dG.out 0;have adq:=ay dG.out 1;have adr:=ay dG.out 2;have ahs:=gU.out;have aht:=eZ.out;have ads:XI.cell? ⟨dB,0,none⟩ = some (.string (⟨#[]⟩:ByteArray)):=(aK dx.out 0).trans rfl;have adt:XI.cell? ⟨dB,1,none⟩ = some (.string (⟨#[]⟩:ByteArray)):=(aK dx.out 1).trans rfl;have adu:XI.cell? ⟨dB,2,none⟩ = some (.slice none 0 0):=(aK dx.out 2).trans rfl;have adv:=ay dx.out 0;have adw:=ay dx.out 1;have adx:=ay dx.out 2))
  refine bodyPost_ret (jT rfl _ _ dB 115 #[.string (⟨#[]⟩:ByteArray),.string (⟨#[]⟩:ByteArray),.slice none 0 0] (0,0) _ rfl (by (with_reducible repeat (first | refine aG ?_ _ | refine aH ?_ | refine aD ?_ _));refine bU (cs:=#[.string (⟨#[]⟩:ByteArray),.string (⟨#[]⟩:ByteArray),.slice none 0 0]) ?_ 2 _ rfl;(with_reducible repeat (first | refine aG ?_ _ | refine aH ?_ | refine aD ?_ _));refine bU (cs:=#[.string (⟨#[]⟩:ByteArray),.string (⟨#[]⟩:ByteArray),.slice none 0 0]) ?_ 1 _ rfl;(with_reducible repeat (first | refine aG ?_ _ | refine aH ?_ | refine aD ?_ _));refine bU (cs:=#[.string (⟨#[]⟩:ByteArray),.string (⟨#[]⟩:ByteArray),.slice none 0 0]) ?_ 0 _ rfl;(with_reducible repeat (first | refine aG ?_ _ | refine aH ?_ | refine aD ?_ _));exact dx.out) Try.underlying115 rfl (by kernel_rfl)) rfl ?_
  exact ⟨_,by first | rfl | (simp [aI,aJ] <;> rfl) | (simp [*,aI,aJ] <;> rfl),by first | exact Kd.jG _ _ _ _ _ | exact Kd.kY _ _ _ _ _ | exact Kd.kZ _ _ _ _ _ | exact Kd.kW _ _ _ _ _ | exact Kd.kX _ _ _ _ _,by repeat (first | (with_reducible first | exact HB.out | apply ak | apply ah | apply au | refine aT ?_ iV.out | refine aT ?_ kH.out | refine aT ?_ nO.out) | exact HB.out)⟩
theorem iH.keep {a b:ByteArray} {v:Value} {l:List ByteArray} {base g:Nat} {ok:Nat → Prop} {w w1 w2:World}
  (h:(w1.cell? ⟨g,0,none⟩ = some (.string a) ∧ w1.cell? ⟨g,1,none⟩ = some (.string b) ∧ w1.cell? ⟨g,2,none⟩ = some v) ∧ aj (Below g w w1 ∧ g < w1.heap.size ∧ Kd.R Kd.string 9 w1 base ok v l)) (hb:Below w1.heap.size w1 w2) :
  (w2.cell? ⟨g,0,none⟩ = some (.string a) ∧ w2.cell? ⟨g,1,none⟩ = some (.string b) ∧ w2.cell? ⟨g,2,none⟩ = some v) ∧ aj (Below g w w2 ∧ g < w2.heap.size ∧ Kd.R Kd.string 9 w2 base ok v l):=by
 obtain ⟨⟨c0,c1,c2⟩,⟨h1,h2,h3⟩⟩:=h
 have hs:=hb.size
 exact ⟨⟨(hb.cell h2).trans c0,(hb.cell h2).trans c1,(hb.cell h2).trans c2⟩,⟨h1.trans (hb.mono (by omega)),by omega,Kd.lZ h3 hb⟩⟩
set_option maxHeartbeats 4000000 in
set_option maxRecDepth 100000 in
theorem iH.calls (a b:ByteArray) (v:Value) (l:List ByteArray) (base:Nat) (ok:Nat → Prop) (w:World) (hr:Kd.R Kd.string 9 w base ok v l) (hl:l.length ≤ 1000000) (hz:a.size + (strings_Join.cat l).size + b.size ≤ 140737488355328) :
  Calls Try.prog 96 #[.agg #[.string a,.string b,v]] w fun e w'=>e = .returned (.string (a ++ strings_Join.cat l ++ b)) ∧ Below w.heap.size w w':=by
 have HB:=aj.mk (ak (Below.refl w.heap.size w) (.cells #[.string a,.string b,v] 115 (0,0)))
 have HR:=aj.mk (Kd.fH hr (.cells #[.string a,.string b,v] 115 (0,0)))
 have HC:(w.alloc (.cells #[.string a,.string b,v] 115 (0,0))).cell? ⟨w.heap.size,0,none⟩ = some (.string a) ∧ (w.alloc (.cells #[.string a,.string b,v] 115 (0,0))).cell? ⟨w.heap.size,1,none⟩ = some (.string b) ∧ (w.alloc (.cells #[.string a,.string b,v] 115 (0,0))).cell? ⟨w.heap.size,2,none⟩ = some v:=by
  refine ⟨?_,?_,?_⟩ <;> (rw [Lib.cell_of_heap (heap_alloc_new w _)];rfl)
 have HC0:=aj.mk HC
 clear HC
 have HC:=HC0
 clear HC0
 have hs:w.heap.size < (w.alloc (.cells #[.string a,.string b,v] 115 (0,0))).heap.size:=by show _ < (w.heap.push _).size;rw [Array.size_push];omega
 have HS:=aj.mk hs
 have HZ:=aj.mk hz
 have HL:=aj.mk hl
 clear hs hz hr hl
 go_enter Try.func96,Try.ntmps96
 go_wp2
 generalize w.alloc (.cells #[.string a,.string b,v] 115 (0,0)) = w1 at *
 generalize hgg:w.heap.size = g at *
 have hgg:=aj.mk hgg
 have hf1:a.size + (strings_Join.cat l).size ≤ 9223372036854775807:=by have:=HZ.out;omega
 have hf2:a.size + (strings_Join.cat l).size + b.size ≤ 9223372036854775807:=by have:=HZ.out;omega
 have c0:=HC.out.1
 have c1:=HC.out.2.1
 have c2:=HC.out.2.2
 go_region_held (fun w'=>(w'.cell? ⟨g,0,none⟩ = some (.string a) ∧ w'.cell? ⟨g,1,none⟩ = some (.string b) ∧ w'.cell? ⟨g,2,none⟩ = some v) ∧ aj (Below g w w' ∧ g < w'.heap.size ∧ Kd.R Kd.string 9 w' base ok v l)) ((first | assumption | exact iH.keep ⟨⟨c0,c1,c2⟩,⟨HB.out,HS.out,HR.out⟩⟩ (jo (Below.refl _ _)) | exact iH.keep (by assumption) (by assumption))) ((first | (go_at_call 110;refine (strings_Join.calls v l base ok _ (Kd.gH HR.out) HL.out (by have:=HZ.out;omega)).mono ?_;rintro e w' ⟨rfl,hb'⟩)))
 all_goals
  rename_i hx
  go_wp2
  go_ret
  exact ⟨rfl,hgg.out ▸ hx.2.out.1⟩
def dH.l0 : Nat → ByteArray → Option (Bool)
 | 0,_=>none
 | k + 1,x0=>if x0.toList = ([]:List UInt8) then (some true) else (if 0 < (x0.size:Int) then (if (wrap64 (1 + (wrap64 (bt x0 0)))) > (x0.size:Int) then (some false) else (if 0 ≤ (wrap64 (1 + (wrap64 (bt x0 0)))) then (if (wrap64 (1 + (wrap64 (bt x0 0)))) ≤ (x0.size:Int) then (dH.l0 k (x0.extract ((wrap64 (1 + (wrap64 (bt x0 0)))):Int).toNat x0.size)) else (none)) else (none))) else (none))
def dH.f (k:Nat) (a0:ByteArray):Option (Bool):=if a0.toList = ([]:List UInt8) then (some false) else (dH.l0 k a0)
set_option maxHeartbeats 8000000 in
set_option maxRecDepth 100000 in
theorem dH.calls (k:Nat) (a0:ByteArray) (r:Bool) (w:World) (h:dH.f k a0 = some r) :
  Calls Try.prog 106 #[.string a0] w fun e w'=>e = .returned (.bool r) ∧ aW w w':=by
 have H:(if a0.toList = ([]:List UInt8) then (some false) else (dH.l0 k a0)) = some r:=h
 clear h
 by_cases c2:a0.toList = ([]:List UInt8)
 ·rw [if_pos c2] at H
  have wD:(a0.toList == ([]:List UInt8)) = true:=beq_iff_eq.mpr c2
  have JE:(a0.toList != ([]:List UInt8)) = false:=bne_eq_false_iff_eq.mpr c2
  have aaY:a0.toList.isEmpty = true:=List.isEmpty_iff.mpr c2
  clear c2
  obtain rfl:=Option.some.inj H
  go_enter Try.func106,Try.ntmps106
  go_wp2
  go_ret
  exact ⟨by first | rfl | (simp;done) | (simp [*];done),by repeat (first | exact aW.refl _ | apply aW.step)⟩
 ·rw [if_neg c2] at H
  have wD:(a0.toList == ([]:List UInt8)) = false:=beq_eq_false_iff_ne.mpr c2
  have JE:(a0.toList != ([]:List UInt8)) = true:=bne_iff_ne.mpr c2
  have aaY:a0.toList.isEmpty = false:=Bool.eq_false_iff.mpr (fun h_=>c2 (List.isEmpty_iff.mp h_))
  have H':=aj.mk H
  clear H
  go_enter Try.func106,Try.ntmps106
  go_wp2
  go_loopg [0] k (fun kq v0 w'=>∃ (bL:ByteArray),v0 = .string bL ∧ aj (dH.l0 kq bL = some r) ∧ aj (kq ≤ k) ∧ aW w w')
  case atStart=>exact ⟨(a0),(by first | rfl | (simp;done) | (simp [*];done) | (simp [B.aX];done) | (simp [B.aY];done)),H',⟨Nat.le_refl _⟩,by repeat (first | exact aW.refl _ | apply aW.step)⟩
  case round =>
   clear H'
   try clear c1
   try clear c2
   try clear wD
   try clear JE
   try clear aaY
   try clear p2
   obtain ⟨bL,rfl,HA,vO,⟨m1,rfl⟩⟩:=hrel
   cases gk with
   | zero=>exact absurd HA.out (by simp [dH.l0])
   | succ k1 =>
    have H:=HA.out
    clear HA
    simp only [dH.l0] at H
    by_cases c3:bL.toList = ([]:List UInt8)
    ·rw [if_pos c3] at H
     have qH:(bL.toList == ([]:List UInt8)) = true:=beq_iff_eq.mpr c3
     have Cm:(bL.toList != ([]:List UInt8)) = false:=bne_eq_false_iff_eq.mpr c3
     have M5:bL.toList.isEmpty = true:=List.isEmpty_iff.mpr c3
     clear c3
     obtain rfl:=Option.some.inj H
     go_wp2
     go_ret
     exact ⟨by first | rfl | (simp;done) | (simp [*];done),by repeat (first | exact aW.refl _ | apply aW.step)⟩
    ·rw [if_neg c3] at H
     have qH:(bL.toList == ([]:List UInt8)) = false:=beq_eq_false_iff_ne.mpr c3
     have Cm:(bL.toList != ([]:List UInt8)) = true:=bne_iff_ne.mpr c3
     have M5:bL.toList.isEmpty = false:=Bool.eq_false_iff.mpr (fun h_=>c3 (List.isEmpty_iff.mp h_))
     by_cases c4:0 < (bL.size:Int)
     ·rw [if_pos c4] at H
      have qG:decide (0 < (bL.size:Int)) = true:=decide_eq_true c4
      have JF:decide (0 < bL.size) = true:=decide_eq_true (by omega)
      clear c4
      by_cases c6:(wrap64 (1 + (wrap64 (bt bL 0)))) > (bL.size:Int)
      ·rw [if_pos c6] at H
       have zM:decide ((bL.size:Int) < (wrap64 (1 + (wrap64 (bt bL 0))))) = true:=decide_eq_true c6
       (try (have MX:decide ((bL.size:Int) < ((1 + ((bt bL 0))))) = true:=by have h_:decide ((bL.size:Int) < (wrap64 (1 + (wrap64 (bt bL 0))))) = true:=decide_eq_true c6;rw [B.dW (by omega) (by omega)] at h_;rw [B.dW (by omega) (by omega)] at h_;exact h_))
       clear c6
       obtain rfl:=Option.some.inj H
       have p5:0 ≤ (0:Int):=(by omega)
       have q5:0 < bL.size:=(by have:(0:Int) < (bL.size:Int):=of_decide_eq_true (by first | (with_reducible assumption) | assumption);omega)
       have hx5:∀ h:0 < bL.size,((bL[0]'h).toNat:Int) = bt bL 0:=nN bL 0
       clear p5
       have qi5:(0 < (bL.size:Int)) = True:=eq_true (of_decide_eq_true (by first | (with_reducible assumption) | assumption))
       replace q5:=eq_true q5
       go_wp2
       go_ret
       exact ⟨by first | rfl | (simp;done) | (simp [*];done),by repeat (first | exact aW.refl _ | apply aW.step)⟩
      ·rw [if_neg c6] at H
       have zM:decide ((bL.size:Int) < (wrap64 (1 + (wrap64 (bt bL 0))))) = false:=decide_eq_false c6
       (try (have MX:decide ((bL.size:Int) < ((1 + ((bt bL 0))))) = false:=by have h_:decide ((bL.size:Int) < (wrap64 (1 + (wrap64 (bt bL 0))))) = false:=decide_eq_false c6;rw [B.dW (by omega) (by omega)] at h_;rw [B.dW (by omega) (by omega)] at h_;exact h_))
       clear c6
       obtain ⟨QG,JR⟩:∃ j_:Int,(wrap64 (1 + (wrap64 (bt bL 0)))) = j_:=⟨_,rfl⟩
       replace H:(if 0 ≤ (QG) then (if (QG) ≤ (bL.size:Int) then (dH.l0 k1 (bL.extract ((QG):Int).toNat bL.size)) else (none)) else (none)) = some r:=by first | (rw [JR] at H;exact H) | (simp only [JR] at H ⊢;exact H)
       (try rw [JR] at zM)
       (try rw [JR] at MX)
       have ahu:(IntKind.i64.wrap (1 + (wrap64 (bt bL 0)))) = QG:=(gT _).trans JR
       by_cases c8:0 ≤ (QG)
       ·rw [if_pos c8] at H
        have uW:=eq_true c8
        have uX:decide (0 ≤ (QG)) = true:=decide_eq_true c8
        clear c8
        by_cases c9:(QG) ≤ (bL.size:Int)
        ·rw [if_pos c9] at H
         have tQ:=eq_true c9
         have Eh:decide ((QG) ≤ (bL.size:Int)) = true:=decide_eq_true c9
         clear c9
         have H':=aj.mk H
         clear H
         have p5:0 ≤ (0:Int):=(by omega)
         have q5:0 < bL.size:=(by have:(0:Int) < (bL.size:Int):=of_decide_eq_true (by first | (with_reducible assumption) | assumption);omega)
         have hx5:∀ h:0 < bL.size,((bL[0]'h).toNat:Int) = bt bL 0:=nN bL 0
         clear p5
         have qi5:(0 < (bL.size:Int)) = True:=eq_true (of_decide_eq_true (by first | (with_reducible assumption) | assumption))
         replace q5:=eq_true q5
         go_wp2
         go_roundg k1
         case measure=>have:=vO.out;omega
         case rel=>exact ⟨(bL.extract ((QG):Int).toNat bL.size),(by first | rfl | (simp;done) | (simp only [← JR] <;> (first | rfl | simp)) | (simp [*];done)),H',⟨by have:=vO.out;omega⟩,by repeat (first | exact aW.refl _ | apply aW.step)⟩
        ·rw [if_neg c9] at H
         exact absurd H (by simp)
       ·rw [if_neg c8] at H
        exact absurd H (by simp)
     ·rw [if_neg c4] at H
      exact absurd H (by simp)
def aC.zm (k:Int):Option (Int × Int × Int) :=
 if k = 1 then some (4,0,0) else if k = 28 then some (16,0,0) else if k = 2 then some (0,1,0) else if k = 5 then some (0,1,0) else if k = 12 then some (0,1,0) else if k = 6 then some (0,2,20) else if k = 15 then some (2,1,0) else if k = 33 then some (6,1,0) else none
theorem aC.wP (k:Int):Mi.su k bV.tab = (aC.zm k).map fun s=>bV.agg s.1 s.2.1 s.2.2:=by
 unfold aC.zm bV.tab
 simp only [Mi.su]
 repeat' split
 all_goals rfl
def aC.fin (k:Nat) (kind:Int) (d:ByteArray) (is:Bool):Option (ByteArray × Int) :=
 if is = true then (if kind = 16 then ((dH.f k d).bind fun b=>if b = true then (if (d.size:Int) > 65535 then some (⟨#[]⟩,4) else some (d,0)) else some (⟨#[]⟩,4)) else (if (d.size:Int) > 65535 then some (⟨#[]⟩,4) else some (d,0))) else some (⟨#[]⟩,4)
def aC.g (k:Nat) (a0:ByteArray) (a1 a2 a3:Int) (s:Int × Int × Int):Option (ByteArray × Int) :=
 (bS.f k a0 a1 (wrap64 (a1 + a2)) s.1 s.2.1 s.2.2).bind fun p=>if p.1.size + (strings_Join.cat p.2.2.1).size + p.2.1.size ≤ 140737488355328 then (if p.2.2.1.length ≤ 1000000 then aC.fin k a3 (p.1 ++ strings_Join.cat p.2.2.1 ++ p.2.1) p.2.2.2 else none) else none
def aC.f (k:Nat) (a0:ByteArray) (a1 a2 a3:Int):Option (ByteArray × Int) :=
 (eU.f a0 a1 a2).bind fun t=>if t.2 = true then (match aC.zm a3 with | some s=>aC.g k a0 a1 a2 a3 s | none=>aC.fin k a3 t.1 true) else some (⟨#[]⟩,2)
theorem aC.AJ {k:Nat} {kind:Int} {d:ByteArray} {r:ByteArray × Int} (h:aC.fin k kind d true = some r) (hk:kind = 16) :
  ∃ b,dH.f k d = some b ∧ (if b = true then (if (d.size:Int) > 65535 then some ((⟨#[]⟩:ByteArray),(4:Int)) else some (d,0)) else some (⟨#[]⟩,4)) = some r:=by
 unfold aC.fin at h
 rw [if_pos rfl,if_pos hk] at h
 exact zbm h
theorem aC.qx {k:Nat} {kind:Int} {d:ByteArray} {r:ByteArray × Int} (h:aC.fin k kind d true = some r) (hk:¬ kind = 16) :
  (if (d.size:Int) > 65535 then some ((⟨#[]⟩:ByteArray),(4:Int)) else some (d,0)) = some r:=by
 unfold aC.fin at h
 rw [if_pos rfl,if_neg hk] at h
 exact h
theorem aC.V5 {k:Nat} {kind:Int} {d:ByteArray} {r:ByteArray × Int} (h:aC.fin k kind d false = some r):r = (⟨#[]⟩,4):=by
 unfold aC.fin at h
 rw [if_neg Bool.false_ne_true] at h
 exact (Option.some.inj h).symm
theorem aC.slc {v:Value} {l:List ByteArray} {base:Nat} {ok:Nat → Prop} {w:World} (hr:Kd.R Kd.string 9 w base ok v l):∃ A n c,v = .slice A n c:=by
 rcases (Kd.tJ hr).2 with ⟨rfl,_⟩ | ⟨g,cap,cur,rfl,_⟩
 ·exact ⟨_,_,_,rfl⟩
 ·exact ⟨_,_,_,rfl⟩
theorem aC.l7 {b:Bool} {d r1:ByteArray} {r2:Int} (h:(if b = true then (if (d.size:Int) > 65535 then some ((⟨#[]⟩:ByteArray),(4:Int)) else some (d,0)) else some (⟨#[]⟩,4)) = some (r1,r2)) :
  (b = true → 65535 < (d.size:Int) → r1 = ⟨#[]⟩ ∧ r2 = 4) ∧ (b = true → (d.size:Int) ≤ 65535 → r1 = d ∧ r2 = 0) ∧ (b = false → r1 = ⟨#[]⟩ ∧ r2 = 4):=by
 refine ⟨fun h1 h2=>?_,fun h1 h2=>?_,fun h1=>?_⟩
 ·rw [if_pos h1,if_pos h2] at h;cases h;exact ⟨rfl,rfl⟩
 ·rw [if_pos h1,if_neg (by omega)] at h;cases h;exact ⟨rfl,rfl⟩
 ·rw [h1,if_neg Bool.false_ne_true] at h;cases h;exact ⟨rfl,rfl⟩
theorem aC.qy {d r1:ByteArray} {r2:Int} (h:(if (d.size:Int) > 65535 then some ((⟨#[]⟩:ByteArray),(4:Int)) else some (d,0)) = some (r1,r2)) :
  (65535 < (d.size:Int) → r1 = ⟨#[]⟩ ∧ r2 = 4) ∧ ((d.size:Int) ≤ 65535 → r1 = d ∧ r2 = 0):=by
 refine ⟨fun h2=>?_,fun h2=>?_⟩
 ·rw [if_pos h2] at h;cases h;exact ⟨rfl,rfl⟩
 ·rw [if_neg (by omega)] at h;cases h;exact ⟨rfl,rfl⟩
set_option maxHeartbeats 8000000 in
set_option maxRecDepth 100000 in
theorem aC.calls (k:Nat) (a0:ByteArray) (a1 a2 a3:Int) (r1:ByteArray) (r2:Int) (w:World) (h:aC.f k a0 a1 a2 a3 = some (r1,r2)) :
  Calls Try.prog 91 #[.string a0,.int .i64 a1,.int .i64 a2,.int .i64 a3] w fun e w'=>e = .returned (.tuple #[.string r1,.int .i64 r2]) ∧ Below w.heap.size w w':=by
 have HB:=aj.mk (Below.refl w.heap.size w)
 obtain ⟨⟨t1,t2⟩,ht,h'⟩:=zbm h
 clear h
 have HT:=aj.mk ht
 clear ht
 cases t2 with
 | false =>
  rw [if_neg Bool.false_ne_true] at h'
  obtain ⟨rfl,rfl⟩:=Prod.mk.injEq .. ▸ Option.some.inj h'
  go_enter Try.func91,Try.ntmps91
  go_wp2_with (first | (go_at_call 94;refine (eU.calls _ _ _ _ _ _ HT.out).mono ?_;rintro e w1 ⟨rfl,hd1⟩))
  go_ret2
  exact ⟨rfl,hd1.below⟩
 | true =>
  replace h':(match aC.zm a3 with | some s=>aC.g k a0 a1 a2 a3 s | none=>aC.fin k a3 t1 true) = some (r1,r2):=h'
  cases hsh:aC.zm a3 with
  | none =>
   rw [hsh] at h'
   have HH:=aj.mk (show aC.fin k a3 t1 true = some (r1,r2) from h')
   clear h'
   have hfn:Mi.su a3 bV.tab = none:=by rw [aC.wP,hsh];rfl
   go_enter Try.func91,Try.ntmps91
   go_wp2_with (first
    | (go_at_call 94;refine (eU.calls _ _ _ _ _ _ HT.out).mono ?_;rintro e w1 ⟨rfl,hd1⟩)
    | (go_at_call 74;refine (bV.calls _).mono ?_;rintro e w2 ⟨g,rfl,hin⟩;have hl:=Mi.look (P:=Try.prog) hin.at_ 143 3 141 Try.underlying143 Try.underlying3 _ (Try.zeroValue141 w2) a3;rw [hfn] at hl;have hB2:=aj.mk ((HB.out.trans hd1.below).trans (hin.Ni.mono hd1.below.size));clear hin)
    | (go_at_call 106;obtain ⟨b,hb,hx⟩:=aC.AJ HH.out (by assumption);have hx:=aj.mk hx;refine (dH.calls _ _ _ _ hb).mono ?_;rintro e w3 ⟨rfl,hd3⟩))
   all_goals
    go_ret2
    first
     | (have hq:=(aC.l7 hx.out).1 (by assumption) (by assumption);obtain ⟨rfl,rfl⟩:=hq;exact ⟨rfl,(ak hB2.out _).trans (hd3.below.mono (by have:=hB2.out.size;simp only [World.alloc,Array.size_push];omega))⟩)
     | (have hq:=(aC.l7 hx.out).2.1 (by assumption) (by assumption);obtain ⟨rfl,rfl⟩:=hq;exact ⟨rfl,(ak hB2.out _).trans (hd3.below.mono (by have:=hB2.out.size;simp only [World.alloc,Array.size_push];omega))⟩)
     | (have hq:=(aC.l7 hx.out).2.2 (by first | assumption | simpa using ‹¬ b = true›);obtain ⟨rfl,rfl⟩:=hq;exact ⟨rfl,(ak hB2.out _).trans (hd3.below.mono (by have:=hB2.out.size;simp only [World.alloc,Array.size_push];omega))⟩)
     | (have hq:=(aC.qy (aC.qx HH.out (by assumption))).1 (by assumption);obtain ⟨rfl,rfl⟩:=hq;exact ⟨rfl,ak hB2.out _⟩)
     | (have hq:=(aC.qy (aC.qx HH.out (by assumption))).2 (by assumption);obtain ⟨rfl,rfl⟩:=hq;exact ⟨rfl,ak hB2.out _⟩)
  | some s =>
   obtain ⟨s0,s1,s2⟩:=s
   rw [hsh] at h'
   replace h':aC.g k a0 a1 a2 a3 (s0,s1,s2) = some (r1,r2):=h'
   unfold aC.g at h'
   obtain ⟨⟨p1,p2,p3,p4⟩,hp,h'⟩:=zbm h'
   replace h':(if p1.size + (strings_Join.cat p3).size + p2.size ≤ 140737488355328 then (if p3.length ≤ 1000000 then aC.fin k a3 (p1 ++ strings_Join.cat p3 ++ p2) p4 else none) else none) = some (r1,r2):=h'
   have hp:=aj.mk (show bS.f k a0 a1 (wrap64 (a1 + a2)) s0 s1 s2 = some (p1,p2,p3,p4) from hp)
   by_cases z1:p1.size + (strings_Join.cat p3).size + p2.size ≤ 140737488355328
   ·rw [if_pos z1] at h'
    by_cases z2:p3.length ≤ 1000000
    ·rw [if_pos z2] at h'
     have HH:=aj.mk h'
     have z1:=aj.mk z1
     have z2:=aj.mk z2
     clear h'
     have hfn:Mi.su a3 bV.tab = some (bV.agg s0 s1 s2):=by rw [aC.wP,hsh];rfl
     cases p4
     all_goals
      go_enter Try.func91,Try.ntmps91
      go_wp2_with (first
       | (go_at_call 94;refine (eU.calls _ _ _ _ _ _ HT.out).mono ?_;rintro e w1 ⟨rfl,hd1⟩)
       | (go_at_call 74;refine (bV.calls _).mono ?_;rintro e w2 ⟨g,rfl,hin⟩;have hl:=Mi.look (P:=Try.prog) hin.at_ 143 3 141 Try.underlying143 Try.underlying3 _ (Try.zeroValue141 w2) a3;rw [hfn] at hl;replace hl:=show _ = Result.ok (Value.tuple #[.agg #[.int .i64 s0,.int .i64 s1,.int .i64 s2],.bool true]) w2 from hl;have hB2:=aj.mk ((HB.out.trans hd1.below).trans (hin.Ni.mono hd1.below.size));clear hin)
       | (go_at_call 75;refine (bS.calls _ _ _ _ _ _ _ _ _ _ _ _ hp.out).mono ?_;rintro e w3 ⟨v,rfl,hv,hb3⟩;obtain ⟨vA,vn,vc,rfl⟩:=aC.slc hv;have hB3:=aj.mk ((ak hB2.out _).trans (hb3.mono (by have:=hB2.out.size;simp only [World.alloc,Array.size_push];omega)));have hv:=aj.mk hv;clear hb3)
       | (go_at_call 96;refine (iH.calls _ _ _ p3 _ _ _ (Kd.fH hv.out _) z2.out z1.out).mono ?_;rintro e w4 ⟨rfl,hb4⟩;have hB4:=aj.mk ((ak hB3.out _).trans (hb4.mono (by have:=hB3.out.size;simp only [World.alloc,Array.size_push];omega)));clear hb4)
       | (go_at_call 106;obtain ⟨b,hb,hx⟩:=aC.AJ HH.out (by assumption);have hx:=aj.mk hx;refine (dH.calls _ _ _ _ hb).mono ?_;rintro e w5 ⟨rfl,hd3⟩))
      all_goals
       go_ret2
       first
        | (have hq:=aC.V5 HH.out;cases hq;exact ⟨rfl,hB4.out⟩)
        | (have hq:=(aC.l7 hx.out).1 (by first | assumption | (simp only [ByteArray.size_append,Int.natCast_add];assumption)) (by first | assumption | (simp only [ByteArray.size_append,Int.natCast_add];assumption));obtain ⟨rfl,rfl⟩:=hq;exact ⟨rfl,hB4.out.trans (hd3.below.mono hB4.out.size)⟩)
        | (have hq:=(aC.l7 hx.out).2.1 (by first | assumption | (simp only [ByteArray.size_append,Int.natCast_add];assumption)) (by first | assumption | (simp only [ByteArray.size_append,Int.natCast_add];assumption));obtain ⟨rfl,rfl⟩:=hq;exact ⟨rfl,hB4.out.trans (hd3.below.mono hB4.out.size)⟩)
        | (have hq:=(aC.l7 hx.out).2.2 (by first | assumption | simpa using ‹¬ b = true›);obtain ⟨rfl,rfl⟩:=hq;exact ⟨rfl,hB4.out.trans (hd3.below.mono hB4.out.size)⟩)
        | (have hq:=(aC.qy (aC.qx HH.out (by first | assumption | (simp only [ByteArray.size_append,Int.natCast_add];assumption)))).1 (by first | assumption | (simp only [ByteArray.size_append,Int.natCast_add];assumption));obtain ⟨rfl,rfl⟩:=hq;exact ⟨rfl,hB4.out⟩)
        | (have hq:=(aC.qy (aC.qx HH.out (by first | assumption | (simp only [ByteArray.size_append,Int.natCast_add];assumption)))).2 (by first | assumption | (simp only [ByteArray.size_append,Int.natCast_add];assumption));obtain ⟨rfl,rfl⟩:=hq;exact ⟨rfl,hB4.out⟩)
    ·rw [if_neg z2] at h';cases h'
   ·rw [if_neg z1] at h';cases h'
def iR.f (k:Nat) (a0:Int) (a1:ByteArray):Option (Bool):=if (a1.size:Int) > 65535 then (some false) else ((aC.f k a1 0 (a1.size:Int) a0).bind fun Er=>(if Er.2 = 0 then (some (Er.1.toList == a1.toList)) else (some false)))
set_option maxHeartbeats 8000000 in
set_option maxRecDepth 100000 in
theorem iR.calls (k:Nat) (a0:Int) (a1:ByteArray) (r:Bool) (w:World) (h:iR.f k a0 a1 = some r) :
  Calls Try.prog 73 #[.int .i64 a0,.string a1] w fun e w'=>e = .returned (.bool r) ∧ Below w.heap.size w w':=by
 have HB:=aj.mk (Below.refl w.heap.size w)
 have H:(if (a1.size:Int) > 65535 then (some false) else ((aC.f k a1 0 (a1.size:Int) a0).bind fun Er=>(if Er.2 = 0 then (some (Er.1.toList == a1.toList)) else (some false)))) = some r:=h
 clear h
 by_cases c3:(a1.size:Int) > 65535
 ·rw [if_pos c3] at H
  have qH:decide (65535 < (a1.size:Int)) = true:=decide_eq_true c3
  have Cm:decide (65535 < a1.size) = true:=decide_eq_true (by omega)
  clear c3
  obtain rfl:=Option.some.inj H
  go_enter Try.func73,Try.ntmps73
  go_wp2
  go_ret
  exact ⟨by first | rfl | (simp [aI,aJ] <;> rfl) | (simp [*,aI,aJ] <;> rfl),by repeat (first | (with_reducible first | exact HB.out | apply ak | apply ah | apply au) | exact HB.out)⟩
 ·rw [if_neg c3] at H
  have qH:decide (65535 < (a1.size:Int)) = false:=decide_eq_false c3
  have Cm:decide (65535 < a1.size) = false:=decide_eq_false (by omega)
  clear c3
  replace H:=zbm H
  obtain ⟨⟨t131,Es⟩,Ei,H⟩:=H
  replace H:(if Es = 0 then (some (t131.toList == a1.toList)) else (some false)) = some r:=H
  have A4:=aj.mk Ei
  clear Ei
  by_cases c5:Es = 0
  ·rw [if_pos c5] at H
   have pJ:(Es == 0) = true:=beq_iff_eq.mpr c5
   have uZ:(Es != 0) = false:=bne_eq_false_iff_eq.mpr c5
   clear c5
   obtain rfl:=Option.some.inj H
   go_enter Try.func73,Try.ntmps73
   go_wp2_with (first | ((with_reducible refine aU (f:=91) rfl ?_);refine bP (some 15) rfl rfl Try.func91 (by kernel_rfl) rfl #[.string a1,.int .i64 0,.int .i64 (a1.size:Int),.int .i64 a0] rfl (by (try simp only [List.map_toArray,List.map_cons,List.map_nil]);first | done | rfl | (simp only [List.length_drop,List.length_take];rfl) | (simp only [ByteArray.size_append,Int.natCast_add];rfl) | (rw [B.dW] <;> first | rfl | omega | (simp only [decide_eq_false_iff_not,decide_eq_true_eq,Int.not_lt,Nat.not_lt,gt_iff_lt] at * <;> omega))) ?_;(with_reducible refine (aC.calls k a1 0 (a1.size:Int) a0 t131 Es _ A4.out).mono ?_);rintro e w6 ⟨rfl,hb⟩;refine ⟨_,rfl,?_⟩;have eH:=aj.mk (bI (by repeat (first | (with_reducible first | exact HB.out | apply ak | apply ah | apply au) | exact HB.out)) hb);clear HB;have HB:=eH;clear eH;(try clear hb);(try clear hb2);(try clear hk);(try clear hi)))
   go_ret
   exact ⟨by first | rfl | (simp [aI,aJ] <;> rfl) | (simp [*,aI,aJ] <;> rfl),by repeat (first | (with_reducible first | exact HB.out | apply ak | apply ah | apply au) | exact HB.out)⟩
  ·rw [if_neg c5] at H
   have pJ:(Es == 0) = false:=beq_eq_false_iff_ne.mpr c5
   have uZ:(Es != 0) = true:=bne_iff_ne.mpr c5
   obtain rfl:=Option.some.inj H
   go_enter Try.func73,Try.ntmps73
   go_wp2_with (first | ((with_reducible refine aU (f:=91) rfl ?_);refine bP (some 15) rfl rfl Try.func91 (by kernel_rfl) rfl #[.string a1,.int .i64 0,.int .i64 (a1.size:Int),.int .i64 a0] rfl (by (try simp only [List.map_toArray,List.map_cons,List.map_nil]);first | done | rfl | (simp only [List.length_drop,List.length_take];rfl) | (simp only [ByteArray.size_append,Int.natCast_add];rfl) | (rw [B.dW] <;> first | rfl | omega | (simp only [decide_eq_false_iff_not,decide_eq_true_eq,Int.not_lt,Nat.not_lt,gt_iff_lt] at * <;> omega))) ?_;(with_reducible refine (aC.calls k a1 0 (a1.size:Int) a0 t131 Es _ A4.out).mono ?_);rintro e w7 ⟨rfl,hb⟩;refine ⟨_,rfl,?_⟩;have eH:=aj.mk (bI (by repeat (first | (with_reducible first | exact HB.out | apply ak | apply ah | apply au) | exact HB.out)) hb);clear HB;have HB:=eH;clear eH;(try clear hb);(try clear hb2);(try clear hk);(try clear hi)))
   go_ret
   exact ⟨by first | rfl | (simp [aI,aJ] <;> rfl) | (simp [*,aI,aJ] <;> rfl),by repeat (first | (with_reducible first | exact HB.out | apply ak | apply ah | apply au) | exact HB.out)⟩
def bW.f (k:Nat) (a0:Int) (a1:ByteArray):Option (ByteArray × ByteArray × List ByteArray × Bool) :=
 (iR.f k a0 a1).bind fun c=>if c = true then (match aC.zm a0 with | some s=>bS.f k a1 0 (a1.size:Int) s.1 s.2.1 s.2.2 | none=>some (a1,⟨#[]⟩,[],true)) else some (⟨#[]⟩,⟨#[]⟩,[],false)
theorem bW.three {w w1:World} {g B:Nat} {a b c a' b' c':Value} (bk:w1.heap[g]? = some (.cells #[a',b',c'] 115 (0,0))) :
  (((w1.setCell ⟨g,0,none⟩ a).setCell ⟨g,1,none⟩ b).setCell ⟨g,2,none⟩ c).heap[g]? = some (.cells #[a,b,c] 115 (0,0)) ∧
  (Below B w w1 → B ≤ g → Below B w (((w1.setCell ⟨g,0,none⟩ a).setCell ⟨g,1,none⟩ b).setCell ⟨g,2,none⟩ c)) ∧
  (∀ v l base ok,Kd.R Kd.string 9 w1 base ok v l → Kd.R Kd.string 9 (((w1.setCell ⟨g,0,none⟩ a).setCell ⟨g,1,none⟩ b).setCell ⟨g,2,none⟩ c) base ok v l):=by
 have b1:=bU bk 0 a (cs':=#[a,b',c']) rfl
 have b2:=bU b1 1 b (cs':=#[a,b,c']) rfl
 have b3:=bU b2 2 c (cs':=#[a,b,c]) rfl
 refine ⟨b3,fun h hg=>((h.setCell hg _).setCell hg _).setCell hg _,fun v l base ok h=>?_⟩
 exact Kd.ME (Kd.ME (Kd.ME h bk (by decide) 0 a) b1 (by decide) 1 b) b2 (by decide) 2 c
theorem bW.facts {w1:World} {g:Nat} {a b c:Value} (bk:w1.heap[g]? = some (.cells #[a,b,c] 115 (0,0))) :
  (w1.cell? ⟨g,0,none⟩ = some a ∧ w1.cell? ⟨g,1,none⟩ = some b ∧ w1.cell? ⟨g,2,none⟩ = some c) ∧ w1.frozen? ⟨g,0,none⟩ = false ∧ w1.frozen? ⟨g,1,none⟩ = false ∧ w1.frozen? ⟨g,2,none⟩ = false :=
 ⟨⟨aK bk 0,aK bk 1,aK bk 2⟩,ay bk 0,ay bk 1,ay bk 2⟩
set_option maxHeartbeats 8000000 in
set_option maxRecDepth 100000 in
theorem bW.calls (k:Nat) (a0:Int) (a1:ByteArray) (r1 r2:ByteArray) (r3:List ByteArray) (r4:Bool) (w:World) (h:bW.f k a0 a1 = some (r1,r2,r3,r4)) :
  Calls Try.prog 51 #[.int .i64 a0,.string a1] w fun e w'=>∃ v2_:Value,e = .returned (.tuple #[.agg #[.string r1,.string r2,v2_],.bool r4]) ∧ Kd.R Kd.string 9 w' w.heap.size (fun _=>True) v2_ r3 ∧ Below w.heap.size w w':=by
 obtain ⟨c,hc,h'⟩:=zbm h
 clear h
 have HC:=aj.mk hc
 clear hc
 cases c with
 | false =>
  rw [if_neg Bool.false_ne_true] at h'
  cases h'
  go_enter Try.func51,Try.ntmps51
  go_wp2_with (first
   | (go_at_call 73;refine (iR.calls _ _ _ _ _ HC.out).mono ?_;rintro e w1 ⟨rfl,hd1⟩;have bk:=dS (tu w _) hd1;obtain ⟨⟨k0,k1,k2⟩,f0,f1,f2⟩:=bW.facts bk;have bk:=aj.mk bk;have hB1:=aj.mk ((ak (Below.refl w.heap.size w) _).trans (hd1.mono (by simp only [World.alloc,Array.size_push];omega)));clear hd1))
  refine bodyPost_ret (jT rfl _ _ w.heap.size 115 #[.string ⟨#[]⟩,.string ⟨#[]⟩,.slice none 0 0] (0,0) _ rfl (bW.three (w:=w) (B:=0) bk.out).1 Try.underlying115 rfl (by kernel_rfl)) rfl ?_
  exact ⟨_,rfl,Kd.jG _ _ _ _ _,(bW.three bk.out).2.1 hB1.out (Nat.le_refl _)⟩
 | true =>
  replace h':(match aC.zm a0 with | some s=>bS.f k a1 0 (a1.size:Int) s.1 s.2.1 s.2.2 | none=>some (a1,⟨#[]⟩,[],true)) = some (r1,r2,r3,r4):=h'
  cases hsh:aC.zm a0 with
  | none =>
   rw [hsh] at h'
   cases h'
   have hfn:Mi.su a0 bV.tab = none:=by rw [aC.wP,hsh];rfl
   go_enter Try.func51,Try.ntmps51
   go_wp2_with (first
    | (go_at_call 73;refine (iR.calls _ _ _ _ _ HC.out).mono ?_;rintro e w1 ⟨rfl,hd1⟩;have bk:=dS (tu w _) hd1;obtain ⟨⟨k0,k1,k2⟩,f0,f1,f2⟩:=bW.facts bk;have bk:=aj.mk bk;have hB1:=aj.mk ((ak (Below.refl w.heap.size w) _).trans (hd1.mono (by simp only [World.alloc,Array.size_push];omega)));clear hd1)
    | (go_at_call 74;refine (bV.calls _).mono ?_;rintro e w2 ⟨g,rfl,hin⟩;clear k0 k1 k2 f0 f1 f2;have hl:=Mi.look (P:=Try.prog) hin.at_ 143 3 141 Try.underlying143 Try.underlying3 _ (Try.zeroValue141 w2) a0;rw [hfn] at hl;replace hl:=show _ = Result.ok (Value.tuple #[.agg #[.int .i64 0,.int .i64 0,.int .i64 0],.bool false]) w2 from hl;have hB2:=aj.mk (hB1.out.trans (hin.Ni.mono hB1.out.size));have bk:=aj.mk (aD (dS bk.out hin.Ni) (.cells #[.int .i64 0,.int .i64 0,.int .i64 0] 141 (0,0)));obtain ⟨⟨k0,k1,k2⟩,f0,f1,f2⟩:=bW.facts bk.out;clear hin))
   refine bodyPost_ret (jT rfl _ _ w.heap.size 115 #[.string a1,.string ⟨#[]⟩,.slice none 0 0] (0,0) _ rfl (bW.three (w:=w) (B:=0) bk.out).1 Try.underlying115 rfl (by kernel_rfl)) rfl ?_
   exact ⟨_,rfl,Kd.jG _ _ _ _ _,(bW.three bk.out).2.1 (ak hB2.out _) (Nat.le_refl _)⟩
  | some s =>
   obtain ⟨s0,s1,s2⟩:=s
   rw [hsh] at h'
   have hp:=aj.mk (show bS.f k a1 0 (a1.size:Int) s0 s1 s2 = some (r1,r2,r3,r4) from h')
   clear h'
   have hfn:Mi.su a0 bV.tab = some (bV.agg s0 s1 s2):=by rw [aC.wP,hsh];rfl
   go_enter Try.func51,Try.ntmps51
   go_wp2_with (first
    | (go_at_call 73;refine (iR.calls _ _ _ _ _ HC.out).mono ?_;rintro e w1 ⟨rfl,hd1⟩;have bk:=dS (tu w _) hd1;obtain ⟨⟨k0,k1,k2⟩,f0,f1,f2⟩:=bW.facts bk;have bk:=aj.mk bk;have hB1:=aj.mk ((ak (Below.refl w.heap.size w) _).trans (hd1.mono (by simp only [World.alloc,Array.size_push];omega)));clear hd1)
    | (go_at_call 74;refine (bV.calls _).mono ?_;rintro e w2 ⟨g,rfl,hin⟩;clear k0 k1 k2 f0 f1 f2;have hl:=Mi.look (P:=Try.prog) hin.at_ 143 3 141 Try.underlying143 Try.underlying3 _ (Try.zeroValue141 w2) a0;rw [hfn] at hl;replace hl:=show _ = Result.ok (Value.tuple #[.agg #[.int .i64 s0,.int .i64 s1,.int .i64 s2],.bool true]) w2 from hl;have hB2:=aj.mk (hB1.out.trans (hin.Ni.mono hB1.out.size));have bk:=aj.mk (aD (dS bk.out hin.Ni) (.cells #[.int .i64 s0,.int .i64 s1,.int .i64 s2] 141 (0,0)));obtain ⟨⟨k0,k1,k2⟩,f0,f1,f2⟩:=bW.facts bk.out;clear hin)
    | (go_at_call 75;refine (bS.calls _ _ _ _ _ _ _ _ _ _ _ _ hp.out).mono ?_;rintro e w3 ⟨v,rfl,hv,hb3⟩;clear k0 k1 k2 f0 f1 f2;obtain ⟨vA,vn,vc,rfl⟩:=aC.slc hv;have hB3:=aj.mk ((ak hB2.out _).trans (hb3.mono (by have:=hB2.out.size;simp only [World.alloc,Array.size_push];omega)));have hv:=aj.mk (Kd.tC hv (by have:=hB2.out.size;simp only [World.alloc,Array.size_push];omega:w.heap.size ≤ _));have bk:=aj.mk (dS bk.out hb3);obtain ⟨⟨k0,k1,k2⟩,f0,f1,f2⟩:=bW.facts bk.out;clear hb3))
   refine bodyPost_ret (jT rfl _ _ w.heap.size 115 #[.string r1,.string r2,.slice vA vn vc] (0,0) _ rfl (bW.three (w:=w) (B:=0) bk.out).1 Try.underlying115 rfl (by kernel_rfl)) rfl ?_
   exact ⟨_,rfl,(bW.three (w:=w) (B:=0) bk.out).2.2 _ _ _ _ hv.out,(bW.three bk.out).2.1 hB3.out (Nat.le_refl _)⟩
def eG.all (k:Nat):List ByteArray → Option (List ByteArray)
 | []=>some []
 | x :: l=>(mJ.f k x).bind fun y=>(eG.all k l).bind fun m=>some (y :: m)
def eG.fin (p1 p2:ByteArray) (m:List ByteArray):Option ByteArray :=
 if p1.size + (strings_Join.cat m).size + p2.size ≤ 140737488355328 then (if m.length ≤ 1000000 then some (p1 ++ strings_Join.cat m ++ p2) else none) else none
def eG.f (k:Nat) (a0:Int) (a1:ByteArray):Option ByteArray :=
 (bW.f k a0 a1).bind fun p=>(eG.all k p.2.2.1).bind fun m=>eG.fin p.1 p.2.1 m
theorem eG.yY {k:Nat}:∀ {l m:List ByteArray},eG.all k l = some m → m.length = l.length
 | [],m,h=>by cases h;rfl
 | x :: l,m,h=>by
  rw [eG.all] at h
  obtain ⟨y,_,h⟩:=zbm h
  obtain ⟨m',h',h⟩:=zbm h
  cases h
  rw [List.length_cons,List.length_cons,eG.yY h']
set_option maxHeartbeats 8000000 in
set_option maxRecDepth 100000 in
theorem eG.calls (k:Nat) (a0:Int) (a1:ByteArray) (r:ByteArray) (w:World) (h:eG.f k a0 a1 = some r) :
  Calls Try.prog 83 #[.int .i64 a0,.string a1] w fun e w'=>e = .returned (.string r) ∧ Below w.heap.size w w':=by
 obtain ⟨⟨p1,p2,l,p4⟩,hp,h'⟩:=zbm h
 clear h
 obtain ⟨m,hm,h'⟩:=zbm h'
 replace hm:eG.all k l = some m:=hm
 replace h':eG.fin p1 p2 m = some r:=h'
 have hml:=eG.yY hm
 have HP:=aj.mk hp
 have HM:=aj.mk hm
 have HF:=aj.mk h'
 have HL:=aj.mk hml
 clear hp hm h' hml
 go_enter Try.func83,Try.ntmps83
 go_wp2_with (first
  | (go_at_call 51;refine (bW.calls _ _ _ _ _ _ _ _ HP.out).mono ?_;rintro e w1 ⟨v,rfl,hv,hb1⟩;obtain ⟨vA,vn,vc,rfl⟩:=aC.slc hv;obtain ⟨rfl,_,hcc⟩:=Kd.yD hv;have hmx:=aj.mk (Kd.ZX hcc);clear hcc;have hv2:=aj.mk (Kd.fH hv (.cells #[.string p1,.string p2,.slice vA l.length vc] 115 (0,0)));have hb2:=aj.mk (ak hb1 (.cells #[.string p1,.string p2,.slice vA l.length vc] 115 (0,0)));have bk2:=aj.mk (tu w1 (.cells #[.string p1,.string p2,.slice vA l.length vc] 115 (0,0)));have hge:=aj.mk hb1.size;clear hv hb1))
 generalize hw1:w1.alloc (.cells #[.string p1,.string p2,.slice vA l.length vc] 115 (0,0)) = w2 at *
 generalize hg:w1.heap.size = g at *
 clear hw1 hg
 go_loopw [18] (fun v18 wr=>∃ (j:Nat) (cur:List ByteArray),v18 = .int .i64 j ∧ j ≤ l.length ∧ aj (cur.length = l.length ∧ ∃ mm,eG.all k (cur.drop j) = some mm ∧ m = cur.take j ++ mm) ∧ aj (wr.heap[g]? = some (.cells #[.string p1,.string p2,.slice vA l.length vc] 115 (0,0))) ∧ aj (Kd.R Kd.string 9 wr w.heap.size (fun _=>True) (.slice vA l.length vc) cur) ∧ aj (Below w.heap.size w wr)) (fun v18 _=>l.length - (intOf v18).toNat)
 case atStart=>exact ⟨0,l,rfl,Nat.zero_le _,⟨rfl,m,HM.out,rfl⟩,bk2,hv2,hb2⟩
 case round =>
  clear HM hv2 hb2 bk2
  obtain ⟨j,cur,rfl,hj,hc,bk,hR,hB⟩:=hrel
  by_cases hlt:j < l.length
  ·obtain ⟨hcl,mm,hmm,hmt⟩:=hc.out
   have hjc:j < cur.length:=by omega
   rw [List.drop_eq_getElem_cons hjc,eG.all] at hmm
   obtain ⟨y,hy,hmm⟩:=zbm hmm
   obtain ⟨m',hm',hmm⟩:=zbm hmm
   obtain rfl:mm = y :: m':=(Option.some.inj hmm).symm
   have hnew:=aj.mk (show (cur.set j y).length = l.length ∧ ∃ mm,eG.all k ((cur.set j y).drop (j + 1)) = some mm ∧ m = (cur.set j y).take (j + 1) ++ mm from by
    refine ⟨by rw [List.length_set];exact hcl,m',?_,?_⟩
    ·rw [List.drop_set_of_lt (by omega)];exact hm'
    ·have e:(cur.set j y).take (j + 1) = cur.take j ++ [y]:=by
      rw [List.take_succ_eq_append_getElem (by rw [List.length_set];exact hjc),List.getElem_set_self,List.take_set_of_le (Nat.le_refl j)]
     rw [hmt,e,List.append_assoc];rfl)
   obtain ⟨gr,cap,e0,_,_,cells,hcells⟩:=Kd.VF hR.out (by omega)
   injection e0 with e1 e2 e3
   subst e1 e3
   have hne:=aj.mk (show g ≠ gr from VA bk.out hcells (by decide))
   have hxc:=Kd.Ce ByteArray.empty hR.out (j:Int) (by omega) (by omega)
   have hxe:F4 ByteArray.empty cur (j:Int) = cur[j]:=by
    unfold F4
    rw [Int.toNat_natCast,List.getD_eq_getElem?_getD,List.getElem?_eq_getElem hjc]
    rfl
   rw [hxe,Int.toNat_natCast] at hxc
   have HY:=aj.mk hy
   have c0:=hxc.1
   have c1:=(bW.facts bk.out).1.2.2
   have hlt2:=aj.mk hlt
   have p0:(0 ≤ (j:Int)) = True:=eq_true (by omega)
   have q0:((j:Int) < (l.length:Int)) = True:=eq_true (by omega)
   generalize cur[j] = x at *
   clear hmm hm' hmt hy hxe hxc hcells hc e2 hlt hjc hcl
   go_wp2
   go_region_with (first | (go_at_call 48;refine (mJ.calls _ _ _ _ HY.out).mono ?_;rintro e w3 ⟨rfl,hb3⟩;have bk3:=dS (aH bk.out) hb3;have XJ:=Kd.lZ (Kd.gH hR.out) hb3;have hB3:=aj.mk ((jo hB.out).trans (hb3.mono hB.out.size));have d0:=(Kd.Ce ByteArray.empty XJ (j:Int) (by omega) (by have:=hlt2.out;omega)).1;have d1:=(Kd.Ce ByteArray.empty XJ (j:Int) (by omega) (by have:=hlt2.out;omega)).2;rw [Int.toNat_natCast] at d0 d1;have d2:=(bW.facts bk3).1.2.2;have bk3:=aj.mk bk3;have XJ:=aj.mk XJ;clear hb3))
   all_goals
    have hfin:=Kd.VH XJ.out (j:Int) y
    rw [Int.toNat_natCast] at hfin
    have bk4:=aj.mk (nY (p:=⟨gr,j,none⟩) bk3.out hne.out (.string y))
    have hR4:=aj.mk hfin.1
    have hB4:=aj.mk (hB3.out.grown hfin.2 hB3.out.size (fun k e=>by cases e;exact Kd.VE XJ.out gr rfl))
    clear hfin
    generalize w3.setCell ⟨gr,j,none⟩ (.string y) = w4 at *
    clear c0 c1 d0 d1 d2 p0 q0
    have hw:=(show wrap64 ((j:Int) + 1) = ((j + 1:Nat):Int) from by have hlt:=hlt2.out;have hm9:=hmx.out;rw [B.dW (by omega) (by omega)];omega)
    have hw:=aj.mk hw
    go_wp2
    go_roundw
    case rel=>have hlt:=hlt2.out;have hm9:=hmx.out;exact ⟨j + 1,cur.set j y,by rw [hw.out],hlt2.out,hnew,bk4,hR4,hB4⟩
    case measure=>have hlt:=hlt2.out;have hm9:=hmx.out;rw [hw.out];simp only [intOf];omega
  ·obtain rfl:j = l.length:=by omega
   have hcm:m = cur:=by
    obtain ⟨hcl,mm,hmm,hmt⟩:=hc.out
    rw [← hcl,List.drop_length] at hmm
    cases hmm
    rw [hmt,← hcl,List.take_length,List.append_nil]
   subst hcm
   have q0:((l.length:Int) < (l.length:Int)) = False:=eq_false (by omega)
   obtain ⟨⟨k0,k1,k2⟩,_,_,_⟩:=bW.facts bk.out
   have hF:=HF.out
   unfold eG.fin at hF
   by_cases z1:p1.size + (strings_Join.cat m).size + p2.size ≤ 140737488355328
   ·rw [if_pos z1] at hF
    by_cases z2:m.length ≤ 1000000
    ·rw [if_pos z2] at hF
     obtain rfl:=Option.some.inj hF
     have z1:=aj.mk z1
     have z2:=aj.mk z2
     clear hF HF
     go_wp2_with (first
      | (go_at_call 96;refine (iH.calls _ _ _ m _ _ _ hR.out z2.out z1.out).mono ?_;rintro e w4 ⟨rfl,hb4⟩;have hB4:=aj.mk (hB.out.trans (hb4.mono hB.out.size));clear hb4))
     go_ret
     exact ⟨rfl,hB4.out⟩
    ·rw [if_neg z2] at hF;cases hF
   ·rw [if_neg z1] at hF;cases hF
def mO.f (k:Nat) (a0:Int) (a1:ByteArray):Option (List ByteArray):=(bW.f k a0 a1).bind fun Nl=>(some Nl.2.2.1)
set_option maxHeartbeats 8000000 in
set_option maxRecDepth 100000 in
theorem mO.calls (k:Nat) (a0:Int) (a1:ByteArray) (r:List ByteArray) (w:World) (h:mO.f k a0 a1 = some r) :
  Calls Try.prog 29 #[.int .i64 a0,.string a1] w fun e w'=>∃ MV:Value,e = .returned (MV) ∧ Kd.R Kd.string 9 w' w.heap.size (fun _=>True) MV r ∧ Below w.heap.size w w':=by
 have aaM:=Try.underlying115
 have HB:=aj.mk (Below.refl w.heap.size w)
 have H:((bW.f k a0 a1).bind fun Nl=>(some Nl.2.2.1)) = some r:=h
 clear h
 replace H:=zbm H
 obtain ⟨⟨aaZ,aa0,V6,t138⟩,Tf,H⟩:=H
 replace H:(some V6) = some r:=H
 have A3:=aj.mk Tf
 clear Tf
 obtain rfl:=Option.some.inj H
 go_enter Try.func29,Try.ntmps29
 go_wp2_with (first | ((with_reducible refine aU (f:=51) rfl ?_);refine bP (some 10) rfl rfl Try.func51 (by kernel_rfl) rfl #[.int .i64 a0,.string a1] rfl (by (try simp only [List.map_toArray,List.map_cons,List.map_nil]);first | done | rfl | (simp only [List.length_drop,List.length_take];rfl) | (simp only [ByteArray.size_append,Int.natCast_add];rfl) | (rw [B.dW] <;> first | rfl | omega | (simp only [decide_eq_false_iff_not,decide_eq_true_eq,Int.not_lt,Nat.not_lt,gt_iff_lt] at * <;> omega))) ?_;(with_reducible refine (bW.calls k a0 a1 aaZ aa0 V6 t138 _ A3.out).mono ?_);rintro e w4 ⟨ah0,rfl,ho0,hb⟩;refine ⟨_,rfl,?_⟩;have eH:=aj.mk (Kd.tC ho0 (bK (by repeat (first | (with_reducible first | exact HB.out | apply ak | apply ah | apply au) | exact HB.out))));have iB:=aj.mk (bI (by repeat (first | (with_reducible first | exact HB.out | apply ak | apply ah | apply au) | exact HB.out)) hb);clear HB;have Et:=eH;have HB:=iB;clear eH iB;(try clear hb);(try clear hb2);(try clear hk);(try clear hi);(try clear ho0)) | ((with_reducible refine gJ (N:=5) rfl ?_);refine fQ ?hg (N:=5) ?hd (cs:=#[.string (⟨#[]⟩:ByteArray),.string (⟨#[]⟩:ByteArray),.slice none 0 0]) (t:=115) ?hr ?_;(case hd=>rfl);(case hg=>rfl);(case hr=>first | (go_simp;done) | (go_simp;rfl));intro vR hg w5 gW hb;have eH:=aj.mk (Kd.lZ (by (with_reducible repeat (first | apply Kd.fH | apply Kd.gu | apply Kd.gH));exact Et.out) hb);have iB:=aj.mk (bI (by repeat (first | (with_reducible first | exact HB.out | apply ak | apply ah | apply au) | exact HB.out)) hb);have jE:=aj.mk (gW);have jJ:=aj.mk ((by rw [hg];exact (bK (by repeat (first | (with_reducible first | exact HB.out | apply ak | apply ah | apply au) | exact HB.out))):w.heap.size ≤ vR));have qJ:=aj.mk ((by rw [hg];exact (bK (by repeat (first | (with_reducible first | exact HB.out | apply ak | apply ah | apply au) | exact HB.out))):w.heap.size ≤ vR));clear Et;clear HB;have Et:=eH;have HB:=iB;have yZ:=jE;have ahv:=jJ;have aa1:=qJ;clear eH iB jE jJ qJ;clear hb gW hg;have afw:w5.cell? ⟨vR,0,none⟩ = some (.string (⟨#[]⟩:ByteArray)):=(aK yZ.out 0).trans rfl;have afx:w5.cell? ⟨vR,1,none⟩ = some (.string (⟨#[]⟩:ByteArray)):=(aK yZ.out 1).trans rfl;have afy:w5.cell? ⟨vR,2,none⟩ = some (.slice none 0 0):=(aK yZ.out 2).trans rfl;have afz:=ay yZ.out 0;have afA:=ay yZ.out 1;have afB:=ay yZ.out 2;obtain ⟨Ao7,co7,eo7⟩:=Kd.Cc Et.out;subst eo7))
 go_ret
 exact ⟨_,by first | rfl | (simp [aI,aJ] <;> rfl) | (simp [*,aI,aJ] <;> rfl),by (with_reducible repeat (first | apply Kd.fH | apply Kd.gu | apply Kd.gH));exact Kd.pF (Kd.tF (p:=⟨vR,2,none⟩) (Kd.tF (p:=⟨vR,1,none⟩) (Kd.tF (p:=⟨vR,0,none⟩) (Kd.tH Et.out yZ.out (by decide)) (fun _ hk=>hk.2) (.string aaZ)) (fun _ hk=>hk.2) (.string aa0)) (fun _ hk=>hk.2) (.slice Ao7 V6.length co7)) (fun _ hk=>trivial),by repeat (first | (with_reducible first | exact HB.out | apply ak | apply ah | apply au | refine aT ?_ aa1.out) | exact HB.out)⟩
end Go.Proofs.Ytfokaoeinpnagaa.ZQ
namespace Go.Proofs.Ytfokaoeinpnagaa.ZQ
open Go.RowKit Go.Proofs.YtfokaoeinpnagaaW.bD Go.Proofs.YtfokaoeinpnagaaW.dI Go.Proofs.YtfokaoeinpnagaaW.eO
attribute [local go_sem] jr jv ku kC iF iG jw jy
theorem V7 (d:Nat) (w:World) (x0 y0:Int) (x1 y1:Int) (x2 y2:Int) :
  (Op.equalIn (d + 2) 119 (.agg #[.int .i64 x0,.int .i64 x1,.int .i64 x2]) (.agg #[.int .i64 y0,.int .i64 y1,.int .i64 y2])).run Try.prog w = .ok (x0 == y0 && (x1 == y1 && (x2 == y2))) w:=by
 refine B.MP Try.underlying119 (by kernel_rfl) (by kernel_rfl) ?_
 show (Op.eqItems _ 3 1 _ _ [0,1,2]).run _ _ = _
 refine B.Ea (by go_simp;rfl) (by go_simp;rfl) (by go_simp) ?_
 refine B.Ea (by go_simp;rfl) (by go_simp;rfl) (by go_simp) ?_
 exact B.MO (by go_simp;rfl) (by go_simp;rfl) (by go_simp)
end Go.Proofs.Ytfokaoeinpnagaa.ZQ

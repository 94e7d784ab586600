/- A part of the proof of NegScripts: cut, joined and given short names by a program of this session (wip/tools/pack.py); Lean checks it. No condition. -/
import Derived.Test.YtdkkgecdhapfhaaPNStsi
import Derived.Test.YtdkkgecdhapfhaaPNStsj
import Derived.Test.YtdkkgecdhapfhaaProg
import Derived.WideMake
import Derived.WalkKit
import Derived.Below
import Derived.Deep.RegionHeld3
import Derived.Test.YtdkkgecdhapfhaaPNStsd
set_option linter.unusedSectionVars false
set_option linter.unusedSimpArgs false
set_option linter.unusedVariables false
namespace Go.Proofs.Ytdkkgecdhapfhaa.ZQ
open Go.RowKit Go.Proofs.YtdkkgecdhapfhaaW.bD Go.Proofs.YtdkkgecdhapfhaaW.dM Go.Proofs.YtdkkgecdhapfhaaW.eP
attribute [local go_sem] jv jw kG kH iH iI jy jA
def aT.f (a0:Int):Option (ByteArray × Int × Int):=some ((⟨#[]⟩:ByteArray),0,a0)
set_option maxHeartbeats 8000000 in
set_option maxRecDepth 100000 in
theorem aT.calls (a0:Int) (r1:ByteArray) (r2:Int) (r3:Int) (w:World) (h:aT.f a0 = some (r1,r2,r3)) :
  Calls Try.prog 124 #[.int .i64 a0] w fun e w'=>e = .returned (.tuple #[.string r1,.int .i64 r2,.int .i64 r3]) ∧ aY w w':=by
 have H:(some ((⟨#[]⟩:ByteArray),0,a0)) = some (r1,r2,r3):=h
 clear h
 simp only [Option.some.injEq,Prod.mk.injEq] at H
 obtain ⟨rfl,rfl,rfl⟩:=H
 go_enter Try.func124,Try.ntmps124
 go_wp2
 go_ret3
 exact ⟨by first | rfl | (simp;done) | (simp [*];done),by repeat (first | exact aY.refl _ | apply aY.step)⟩
def aU.l0 : Nat → ByteArray → Int → ByteArray → Int → Int → Option (ByteArray × Int × Int)
 | 0,_,_,_,_,_=>none
 | k + 1,x0,x1,x7,x8,x9=>(av.f k x0 x1 1).bind fun BD=>(if BD.2 = true then (if BD.1 = 0 then (if x8 < 0 then (if x7.size + 1 ≤ 9223372036854775807 then (some (x7 ++ (⟨#[0]⟩:ByteArray),wrap64 (x1 + 1),0)) else (none)) else (if x7.size + 1 ≤ 9223372036854775807 then (some (x7 ++ (⟨#[0]⟩:ByteArray),x8,0)) else (none))) else (if BD.1 ≥ 192 then ((av.f k x0 x1 2).bind fun j4=>(if j4.2 = true then (if (wrap64 (j4.1 - 49152)) ≥ x9 then ((aT.f 3).bind fun kI=>(some (kI.1,kI.2.1,kI.2.2))) else (if x8 < 0 then (aU.l0 k x0 (wrap64 (j4.1 - 49152)) x7 (wrap64 (x1 + 2)) (wrap64 (j4.1 - 49152))) else (aU.l0 k x0 (wrap64 (j4.1 - 49152)) x7 x8 (wrap64 (j4.1 - 49152))))) else ((aT.f 2).bind fun kJ=>(some (kJ.1,kJ.2.1,kJ.2.2))))) else (if BD.1 > 63 then ((aT.f 3).bind fun qg=>(some (qg.1,qg.2.1,qg.2.2))) else ((bC.f x0 x1 (wrap64 (BD.1 + 1))).bind fun nH=>(if nH.2 = true then (if x7.size + nH.1.size ≤ 9223372036854775807 then (if (wrap64 (((x7 ++ nH.1).size:Int) + 1)) > 255 then ((aT.f 3).bind fun kK=>(some (kK.1,kK.2.1,kK.2.2))) else (aU.l0 k x0 (wrap64 ((wrap64 (x1 + BD.1)) + 1)) (x7 ++ nH.1) x8 x9)) else (none)) else ((aT.f 2).bind fun kL=>(some (kL.1,kL.2.1,kL.2.2)))))))) else ((aT.f 2).bind fun qh=>(some (qh.1,qh.2.1,qh.2.2))))
def aU.f (k:Nat) (a0:ByteArray) (a1:Int):Option (ByteArray × Int × Int):=aU.l0 k a0 a1 (⟨#[]⟩:ByteArray) (-1) a1
set_option maxHeartbeats 8000000 in
set_option maxRecDepth 100000 in
theorem aU.calls (k:Nat) (a0:ByteArray) (a1:Int) (r1:ByteArray) (r2:Int) (r3:Int) (w:World) (h:aU.f k a0 a1 = some (r1,r2,r3)) :
  Calls Try.prog 118 #[.string a0,.int .i64 a1] w fun e w'=>e = .returned (.tuple #[.string r1,.int .i64 r2,.int .i64 r3]) ∧ aY w w':=by
 have H:(aU.l0 k a0 a1 (⟨#[]⟩:ByteArray) (-1) a1) = some (r1,r2,r3):=h
 clear h
 have H':=aj.mk H
 clear H
 go_enter Try.func118,Try.ntmps118
 go_wp2
 go_loopg [1,7,8,9] k (fun kq v1 v7 v8 v9 w'=>∃ (dU:Int) (dK:ByteArray) (gL:Int) (iL:Int),v1 = .int .i64 dU ∧ v7 = .string dK ∧ v8 = .int .i64 gL ∧ v9 = .int .i64 iL ∧ aj (aU.l0 kq a0 dU dK gL iL = some (r1,r2,r3)) ∧ aj (kq ≤ k) ∧ aY w w')
 case atStart=>exact ⟨(a1),((⟨#[]⟩:ByteArray)),((-1)),(a1),(by first | rfl | (simp;done) | (simp [*];done) | (simp [B.aV];done) | (simp [B.aW];done)),(by first | rfl | (simp;done) | (simp [*];done) | (simp [B.aV];done) | (simp [B.aW];done)),(by first | rfl | (simp;done) | (simp [*];done) | (simp [B.aV];done) | (simp [B.aW];done)),(by first | rfl | (simp;done) | (simp [*];done) | (simp [B.aV];done) | (simp [B.aW];done)),H',⟨Nat.le_refl _⟩,by repeat (first | exact aY.refl _ | apply aY.step)⟩
 case round =>
  clear H'
  try clear c1
  try clear p2
  obtain ⟨dU,dK,gL,iL,rfl,rfl,rfl,rfl,HA,uM,⟨m1,rfl⟩⟩:=hrel
  cases gk with
  | zero=>exact absurd HA.out (by simp [aU.l0])
  | succ k1 =>
   have H:=HA.out
   clear HA
   simp only [aU.l0] at H
   replace H:=zbm H
   obtain ⟨⟨iJ,aaR⟩,Uh,H⟩:=H
   replace H:(if aaR = true then (if iJ = 0 then (if gL < 0 then (if dK.size + 1 ≤ 9223372036854775807 then (some (dK ++ (⟨#[0]⟩:ByteArray),wrap64 (dU + 1),0)) else (none)) else (if dK.size + 1 ≤ 9223372036854775807 then (some (dK ++ (⟨#[0]⟩:ByteArray),gL,0)) else (none))) else (if iJ ≥ 192 then ((av.f k1 a0 dU 2).bind fun j4=>(if j4.2 = true then (if (wrap64 (j4.1 - 49152)) ≥ iL then ((aT.f 3).bind fun kI=>(some (kI.1,kI.2.1,kI.2.2))) else (if gL < 0 then (aU.l0 k1 a0 (wrap64 (j4.1 - 49152)) dK (wrap64 (dU + 2)) (wrap64 (j4.1 - 49152))) else (aU.l0 k1 a0 (wrap64 (j4.1 - 49152)) dK gL (wrap64 (j4.1 - 49152))))) else ((aT.f 2).bind fun kJ=>(some (kJ.1,kJ.2.1,kJ.2.2))))) else (if iJ > 63 then ((aT.f 3).bind fun qg=>(some (qg.1,qg.2.1,qg.2.2))) else ((bC.f a0 dU (wrap64 (iJ + 1))).bind fun nH=>(if nH.2 = true then (if dK.size + nH.1.size ≤ 9223372036854775807 then (if (wrap64 (((dK ++ nH.1).size:Int) + 1)) > 255 then ((aT.f 3).bind fun kK=>(some (kK.1,kK.2.1,kK.2.2))) else (aU.l0 k1 a0 (wrap64 ((wrap64 (dU + iJ)) + 1)) (dK ++ nH.1) gL iL)) else (none)) else ((aT.f 2).bind fun kL=>(some (kL.1,kL.2.1,kL.2.2)))))))) else ((aT.f 2).bind fun qh=>(some (qh.1,qh.2.1,qh.2.2)))) = some (r1,r2,r3):=H
   have A3:=aj.mk Uh
   clear Uh
   by_cases c4:aaR = true
   ·subst c4
    have H1:(if iJ = 0 then (if gL < 0 then (if dK.size + 1 ≤ 9223372036854775807 then (some (dK ++ (⟨#[0]⟩:ByteArray),wrap64 (dU + 1),0)) else (none)) else (if dK.size + 1 ≤ 9223372036854775807 then (some (dK ++ (⟨#[0]⟩:ByteArray),gL,0)) else (none))) else (if iJ ≥ 192 then ((av.f k1 a0 dU 2).bind fun j4=>(if j4.2 = true then (if (wrap64 (j4.1 - 49152)) ≥ iL then ((aT.f 3).bind fun kI=>(some (kI.1,kI.2.1,kI.2.2))) else (if gL < 0 then (aU.l0 k1 a0 (wrap64 (j4.1 - 49152)) dK (wrap64 (dU + 2)) (wrap64 (j4.1 - 49152))) else (aU.l0 k1 a0 (wrap64 (j4.1 - 49152)) dK gL (wrap64 (j4.1 - 49152))))) else ((aT.f 2).bind fun kJ=>(some (kJ.1,kJ.2.1,kJ.2.2))))) else (if iJ > 63 then ((aT.f 3).bind fun qg=>(some (qg.1,qg.2.1,qg.2.2))) else ((bC.f a0 dU (wrap64 (iJ + 1))).bind fun nH=>(if nH.2 = true then (if dK.size + nH.1.size ≤ 9223372036854775807 then (if (wrap64 (((dK ++ nH.1).size:Int) + 1)) > 255 then ((aT.f 3).bind fun kK=>(some (kK.1,kK.2.1,kK.2.2))) else (aU.l0 k1 a0 (wrap64 ((wrap64 (dU + iJ)) + 1)) (dK ++ nH.1) gL iL)) else (none)) else ((aT.f 2).bind fun kL=>(some (kL.1,kL.2.1,kL.2.2)))))))) = some (r1,r2,r3):=by rw [if_pos rfl] at H;exact H
    clear H
    have H:=H1
    clear H1
    by_cases c5:iJ = 0
    ·rw [if_pos c5] at H
     have qc:(iJ == 0) = true:=beq_iff_eq.mpr c5
     have vT:(iJ != 0) = false:=bne_eq_false_iff_eq.mpr c5
     clear c5
     by_cases c6:gL < 0
     ·rw [if_pos c6] at H
      have Ah:decide (gL < 0) = true:=decide_eq_true c6
      clear c6
      by_cases c7:dK.size + 1 ≤ 9223372036854775807
      ·rw [if_pos c7] at H
       have uT:=eq_true c7
       have KO:decide (dK.size + 1 ≤ 9223372036854775807) = true:=decide_eq_true c7
       try have Ri:(9223372036854775807 < dK.size + 1) = False:=eq_false (Nat.not_lt.2 c7)
       simp only [Option.some.injEq,Prod.mk.injEq] at H
       obtain ⟨rfl,rfl,rfl⟩:=H
       go_wp2_with (first | ((with_reducible refine aQ (f:=75) rfl ?_);refine bQ (some 20) rfl rfl Try.func75 (by kernel_rfl) rfl #[.string a0,.int .i64 dU,.int .i64 1] rfl (by (try simp only [List.map_toArray,List.map_cons,List.map_nil]);first | done | rfl | (simp only [List.length_drop,List.length_take];rfl) | (simp only [ByteArray.size_append,Int.natCast_add];rfl) | (rw [B.dQ] <;> first | rfl | omega | (simp only [decide_eq_false_iff_not,decide_eq_true_eq,Int.not_lt,Nat.not_lt,gt_iff_lt] at * <;> omega))) ?_;(with_reducible refine (av.calls k1 a0 dU 1 iJ true _ A3.out).mono ?_);rintro e w' ⟨rfl,⟨nd,rfl⟩⟩;refine ⟨_,rfl,?_⟩))
       go_ret3
       exact ⟨by first | rfl | (simp;done) | (simp [*];done),by repeat (first | exact aY.refl _ | apply aY.step)⟩
      ·rw [if_neg c7] at H
       exact absurd H (by simp)
     ·rw [if_neg c6] at H
      have Ah:decide (gL < 0) = false:=decide_eq_false c6
      clear c6
      by_cases c8:dK.size + 1 ≤ 9223372036854775807
      ·rw [if_pos c8] at H
       have su:=eq_true c8
       have sw:decide (dK.size + 1 ≤ 9223372036854775807) = true:=decide_eq_true c8
       try have Oj:(9223372036854775807 < dK.size + 1) = False:=eq_false (Nat.not_lt.2 c8)
       simp only [Option.some.injEq,Prod.mk.injEq] at H
       obtain ⟨rfl,rfl,rfl⟩:=H
       go_wp2_with (first | ((with_reducible refine aQ (f:=75) rfl ?_);refine bQ (some 20) rfl rfl Try.func75 (by kernel_rfl) rfl #[.string a0,.int .i64 dU,.int .i64 1] rfl (by (try simp only [List.map_toArray,List.map_cons,List.map_nil]);first | done | rfl | (simp only [List.length_drop,List.length_take];rfl) | (simp only [ByteArray.size_append,Int.natCast_add];rfl) | (rw [B.dQ] <;> first | rfl | omega | (simp only [decide_eq_false_iff_not,decide_eq_true_eq,Int.not_lt,Nat.not_lt,gt_iff_lt] at * <;> omega))) ?_;(with_reducible refine (av.calls k1 a0 dU 1 iJ true _ A3.out).mono ?_);rintro e w' ⟨rfl,⟨nd,rfl⟩⟩;refine ⟨_,rfl,?_⟩))
       go_ret3
       exact ⟨by first | rfl | (simp;done) | (simp [*];done),by repeat (first | exact aY.refl _ | apply aY.step)⟩
      ·rw [if_neg c8] at H
       exact absurd H (by simp)
    ·rw [if_neg c5] at H
     have qc:(iJ == 0) = false:=beq_eq_false_iff_ne.mpr c5
     have vT:(iJ != 0) = true:=bne_iff_ne.mpr c5
     by_cases c9:iJ ≥ 192
     ·rw [if_pos c9] at H
      have uN:decide (192 ≤ iJ) = true:=decide_eq_true c9
      clear c9
      replace H:=zbm H
      obtain ⟨⟨t141,aaS⟩,Ov,H⟩:=H
      replace H:(if aaS = true then (if (wrap64 (t141 - 49152)) ≥ iL then ((aT.f 3).bind fun kI=>(some (kI.1,kI.2.1,kI.2.2))) else (if gL < 0 then (aU.l0 k1 a0 (wrap64 (t141 - 49152)) dK (wrap64 (dU + 2)) (wrap64 (t141 - 49152))) else (aU.l0 k1 a0 (wrap64 (t141 - 49152)) dK gL (wrap64 (t141 - 49152))))) else ((aT.f 2).bind fun kJ=>(some (kJ.1,kJ.2.1,kJ.2.2)))) = some (r1,r2,r3):=H
      have Ui:=aj.mk Ov
      clear Ov
      by_cases c11:aaS = true
      ·subst c11
       have H1:(if (wrap64 (t141 - 49152)) ≥ iL then ((aT.f 3).bind fun kI=>(some (kI.1,kI.2.1,kI.2.2))) else (if gL < 0 then (aU.l0 k1 a0 (wrap64 (t141 - 49152)) dK (wrap64 (dU + 2)) (wrap64 (t141 - 49152))) else (aU.l0 k1 a0 (wrap64 (t141 - 49152)) dK gL (wrap64 (t141 - 49152))))) = some (r1,r2,r3):=by rw [if_pos rfl] at H;exact H
       clear H
       have H:=H1
       clear H1
       by_cases c12:(wrap64 (t141 - 49152)) ≥ iL
       ·rw [if_pos c12] at H
        have uO:decide (iL ≤ (wrap64 (t141 - 49152))) = true:=decide_eq_true c12
        (try (have uP:decide (iL ≤ ((t141 - 49152))) = true:=by have h_:decide (iL ≤ (wrap64 (t141 - 49152))) = true:=decide_eq_true c12;rw [B.dQ (by omega) (by omega)] at h_;exact h_))
        clear c12
        replace H:=zbm H
        obtain ⟨⟨t146,aaT,t148⟩,aaU,H⟩:=H
        replace H:(some (t146,aaT,t148)) = some (r1,r2,r3):=H
        have A13:=aj.mk aaU
        clear aaU
        simp only [Option.some.injEq,Prod.mk.injEq] at H
        obtain ⟨rfl,rfl,rfl⟩:=H
        go_wp2_with (first | ((with_reducible refine aQ (f:=75) rfl ?_);refine bQ (some 20) rfl rfl Try.func75 (by kernel_rfl) rfl #[.string a0,.int .i64 dU,.int .i64 1] rfl (by (try simp only [List.map_toArray,List.map_cons,List.map_nil]);first | done | rfl | (simp only [List.length_drop,List.length_take];rfl) | (simp only [ByteArray.size_append,Int.natCast_add];rfl) | (rw [B.dQ] <;> first | rfl | omega | (simp only [decide_eq_false_iff_not,decide_eq_true_eq,Int.not_lt,Nat.not_lt,gt_iff_lt] at * <;> omega))) ?_;(with_reducible refine (av.calls k1 a0 dU 1 iJ true _ A3.out).mono ?_);rintro e w' ⟨rfl,⟨nd,rfl⟩⟩;refine ⟨_,rfl,?_⟩) | ((with_reducible refine aQ (f:=75) rfl ?_);refine bQ (some 43) rfl rfl Try.func75 (by kernel_rfl) rfl #[.string a0,.int .i64 dU,.int .i64 2] rfl (by (try simp only [List.map_toArray,List.map_cons,List.map_nil]);first | done | rfl | (simp only [List.length_drop,List.length_take];rfl) | (simp only [ByteArray.size_append,Int.natCast_add];rfl) | (rw [B.dQ] <;> first | rfl | omega | (simp only [decide_eq_false_iff_not,decide_eq_true_eq,Int.not_lt,Nat.not_lt,gt_iff_lt] at * <;> omega))) ?_;(with_reducible refine (av.calls k1 a0 dU 2 t141 true _ Ui.out).mono ?_);rintro e w' ⟨rfl,⟨nd,rfl⟩⟩;refine ⟨_,rfl,?_⟩) | ((with_reducible refine aQ (f:=124) rfl ?_);refine bQ (some 56) rfl rfl Try.func124 (by kernel_rfl) rfl #[.int .i64 3] rfl (by (try simp only [List.map_toArray,List.map_cons,List.map_nil]);first | done | rfl | (simp only [List.length_drop,List.length_take];rfl) | (simp only [ByteArray.size_append,Int.natCast_add];rfl) | (rw [B.dQ] <;> first | rfl | omega | (simp only [decide_eq_false_iff_not,decide_eq_true_eq,Int.not_lt,Nat.not_lt,gt_iff_lt] at * <;> omega))) ?_;(with_reducible refine (aT.calls 3 t146 aaT t148 _ A13.out).mono ?_);rintro e w' ⟨rfl,⟨nd,rfl⟩⟩;refine ⟨_,rfl,?_⟩))
        go_ret3
        exact ⟨by first | rfl | (simp;done) | (simp [*];done),by repeat (first | exact aY.refl _ | apply aY.step)⟩
       ·rw [if_neg c12] at H
        have uO:decide (iL ≤ (wrap64 (t141 - 49152))) = false:=decide_eq_false c12
        (try (have uP:decide (iL ≤ ((t141 - 49152))) = false:=by have h_:decide (iL ≤ (wrap64 (t141 - 49152))) = false:=decide_eq_false c12;rw [B.dQ (by omega) (by omega)] at h_;exact h_))
        clear c12
        by_cases c14:gL < 0
        ·rw [if_pos c14] at H
         have BA:decide (gL < 0) = true:=decide_eq_true c14
         clear c14
         have H':=aj.mk H
         clear H
         go_wp2_with (first | ((with_reducible refine aQ (f:=75) rfl ?_);refine bQ (some 20) rfl rfl Try.func75 (by kernel_rfl) rfl #[.string a0,.int .i64 dU,.int .i64 1] rfl (by (try simp only [List.map_toArray,List.map_cons,List.map_nil]);first | done | rfl | (simp only [List.length_drop,List.length_take];rfl) | (simp only [ByteArray.size_append,Int.natCast_add];rfl) | (rw [B.dQ] <;> first | rfl | omega | (simp only [decide_eq_false_iff_not,decide_eq_true_eq,Int.not_lt,Nat.not_lt,gt_iff_lt] at * <;> omega))) ?_;(with_reducible refine (av.calls k1 a0 dU 1 iJ true _ A3.out).mono ?_);rintro e w' ⟨rfl,⟨nd,rfl⟩⟩;refine ⟨_,rfl,?_⟩) | ((with_reducible refine aQ (f:=75) rfl ?_);refine bQ (some 43) rfl rfl Try.func75 (by kernel_rfl) rfl #[.string a0,.int .i64 dU,.int .i64 2] rfl (by (try simp only [List.map_toArray,List.map_cons,List.map_nil]);first | done | rfl | (simp only [List.length_drop,List.length_take];rfl) | (simp only [ByteArray.size_append,Int.natCast_add];rfl) | (rw [B.dQ] <;> first | rfl | omega | (simp only [decide_eq_false_iff_not,decide_eq_true_eq,Int.not_lt,Nat.not_lt,gt_iff_lt] at * <;> omega))) ?_;(with_reducible refine (av.calls k1 a0 dU 2 t141 true _ Ui.out).mono ?_);rintro e w' ⟨rfl,⟨nd,rfl⟩⟩;refine ⟨_,rfl,?_⟩))
         go_roundg k1
         case measure=>have:=uM.out;omega
         case rel=>exact ⟨(wrap64 (t141 - 49152)),(dK),(wrap64 (dU + 2)),(wrap64 (t141 - 49152)),(by first | rfl | (simp;done) | (simp [*];done) | (simp [B.aV];done) | (simp [B.aW];done)),(by first | rfl | (simp;done) | (simp [*];done) | (simp [B.aV];done) | (simp [B.aW];done)),(by first | rfl | (simp;done) | (simp [*];done) | (simp [B.aV];done) | (simp [B.aW];done)),(by first | rfl | (simp;done) | (simp [*];done) | (simp [B.aV];done) | (simp [B.aW];done)),H',⟨by have:=uM.out;omega⟩,by repeat (first | exact aY.refl _ | apply aY.step)⟩
        ·rw [if_neg c14] at H
         have BA:decide (gL < 0) = false:=decide_eq_false c14
         clear c14
         have H':=aj.mk H
         clear H
         go_wp2_with (first | ((with_reducible refine aQ (f:=75) rfl ?_);refine bQ (some 20) rfl rfl Try.func75 (by kernel_rfl) rfl #[.string a0,.int .i64 dU,.int .i64 1] rfl (by (try simp only [List.map_toArray,List.map_cons,List.map_nil]);first | done | rfl | (simp only [List.length_drop,List.length_take];rfl) | (simp only [ByteArray.size_append,Int.natCast_add];rfl) | (rw [B.dQ] <;> first | rfl | omega | (simp only [decide_eq_false_iff_not,decide_eq_true_eq,Int.not_lt,Nat.not_lt,gt_iff_lt] at * <;> omega))) ?_;(with_reducible refine (av.calls k1 a0 dU 1 iJ true _ A3.out).mono ?_);rintro e w' ⟨rfl,⟨nd,rfl⟩⟩;refine ⟨_,rfl,?_⟩) | ((with_reducible refine aQ (f:=75) rfl ?_);refine bQ (some 43) rfl rfl Try.func75 (by kernel_rfl) rfl #[.string a0,.int .i64 dU,.int .i64 2] rfl (by (try simp only [List.map_toArray,List.map_cons,List.map_nil]);first | done | rfl | (simp only [List.length_drop,List.length_take];rfl) | (simp only [ByteArray.size_append,Int.natCast_add];rfl) | (rw [B.dQ] <;> first | rfl | omega | (simp only [decide_eq_false_iff_not,decide_eq_true_eq,Int.not_lt,Nat.not_lt,gt_iff_lt] at * <;> omega))) ?_;(with_reducible refine (av.calls k1 a0 dU 2 t141 true _ Ui.out).mono ?_);rintro e w' ⟨rfl,⟨nd,rfl⟩⟩;refine ⟨_,rfl,?_⟩))
         go_roundg k1
         case measure=>have:=uM.out;omega
         case rel=>exact ⟨(wrap64 (t141 - 49152)),(dK),(gL),(wrap64 (t141 - 49152)),(by first | rfl | (simp;done) | (simp [*];done) | (simp [B.aV];done) | (simp [B.aW];done)),(by first | rfl | (simp;done) | (simp [*];done) | (simp [B.aV];done) | (simp [B.aW];done)),(by first | rfl | (simp;done) | (simp [*];done) | (simp [B.aV];done) | (simp [B.aW];done)),(by first | rfl | (simp;done) | (simp [*];done) | (simp [B.aV];done) | (simp [B.aW];done)),H',⟨by have:=uM.out;omega⟩,by repeat (first | exact aY.refl _ | apply aY.step)⟩
      ·replace c11:=Bool.eq_false_iff.mpr c11
       subst c11
       have H1:((aT.f 2).bind fun kJ=>(some (kJ.1,kJ.2.1,kJ.2.2))) = some (r1,r2,r3):=by rw [if_neg (show ¬ (false = true) by decide)] at H;exact H
       clear H
       have H:=H1
       clear H1
       replace H:=zbm H
       obtain ⟨⟨t143,aaV,t145⟩,aaW,H⟩:=H
       replace H:(some (t143,aaV,t145)) = some (r1,r2,r3):=H
       have A15:=aj.mk aaW
       clear aaW
       simp only [Option.some.injEq,Prod.mk.injEq] at H
       obtain ⟨rfl,rfl,rfl⟩:=H
       go_wp2_with (first | ((with_reducible refine aQ (f:=75) rfl ?_);refine bQ (some 20) rfl rfl Try.func75 (by kernel_rfl) rfl #[.string a0,.int .i64 dU,.int .i64 1] rfl (by (try simp only [List.map_toArray,List.map_cons,List.map_nil]);first | done | rfl | (simp only [List.length_drop,List.length_take];rfl) | (simp only [ByteArray.size_append,Int.natCast_add];rfl) | (rw [B.dQ] <;> first | rfl | omega | (simp only [decide_eq_false_iff_not,decide_eq_true_eq,Int.not_lt,Nat.not_lt,gt_iff_lt] at * <;> omega))) ?_;(with_reducible refine (av.calls k1 a0 dU 1 iJ true _ A3.out).mono ?_);rintro e w' ⟨rfl,⟨nd,rfl⟩⟩;refine ⟨_,rfl,?_⟩) | ((with_reducible refine aQ (f:=75) rfl ?_);refine bQ (some 43) rfl rfl Try.func75 (by kernel_rfl) rfl #[.string a0,.int .i64 dU,.int .i64 2] rfl (by (try simp only [List.map_toArray,List.map_cons,List.map_nil]);first | done | rfl | (simp only [List.length_drop,List.length_take];rfl) | (simp only [ByteArray.size_append,Int.natCast_add];rfl) | (rw [B.dQ] <;> first | rfl | omega | (simp only [decide_eq_false_iff_not,decide_eq_true_eq,Int.not_lt,Nat.not_lt,gt_iff_lt] at * <;> omega))) ?_;(with_reducible refine (av.calls k1 a0 dU 2 t141 false _ Ui.out).mono ?_);rintro e w' ⟨rfl,⟨nd,rfl⟩⟩;refine ⟨_,rfl,?_⟩) | ((with_reducible refine aQ (f:=124) rfl ?_);refine bQ (some 48) rfl rfl Try.func124 (by kernel_rfl) rfl #[.int .i64 2] rfl (by (try simp only [List.map_toArray,List.map_cons,List.map_nil]);first | done | rfl | (simp only [List.length_drop,List.length_take];rfl) | (simp only [ByteArray.size_append,Int.natCast_add];rfl) | (rw [B.dQ] <;> first | rfl | omega | (simp only [decide_eq_false_iff_not,decide_eq_true_eq,Int.not_lt,Nat.not_lt,gt_iff_lt] at * <;> omega))) ?_;(with_reducible refine (aT.calls 2 t143 aaV t145 _ A15.out).mono ?_);rintro e w' ⟨rfl,⟨nd,rfl⟩⟩;refine ⟨_,rfl,?_⟩))
       go_ret3
       exact ⟨by first | rfl | (simp;done) | (simp [*];done),by repeat (first | exact aY.refl _ | apply aY.step)⟩
     ·rw [if_neg c9] at H
      have uN:decide (192 ≤ iJ) = false:=decide_eq_false c9
      clear c9
      by_cases c16:iJ > 63
      ·rw [if_pos c16] at H
       have Jf:decide (63 < iJ) = true:=decide_eq_true c16
       clear c16
       replace H:=zbm H
       obtain ⟨⟨aaX,aaY,aaZ⟩,aa0,H⟩:=H
       replace H:(some (aaX,aaY,aaZ)) = some (r1,r2,r3):=H
       have A17:=aj.mk aa0
       clear aa0
       simp only [Option.some.injEq,Prod.mk.injEq] at H
       obtain ⟨rfl,rfl,rfl⟩:=H
       go_wp2_with (first | ((with_reducible refine aQ (f:=75) rfl ?_);refine bQ (some 20) rfl rfl Try.func75 (by kernel_rfl) rfl #[.string a0,.int .i64 dU,.int .i64 1] rfl (by (try simp only [List.map_toArray,List.map_cons,List.map_nil]);first | done | rfl | (simp only [List.length_drop,List.length_take];rfl) | (simp only [ByteArray.size_append,Int.natCast_add];rfl) | (rw [B.dQ] <;> first | rfl | omega | (simp only [decide_eq_false_iff_not,decide_eq_true_eq,Int.not_lt,Nat.not_lt,gt_iff_lt] at * <;> omega))) ?_;(with_reducible refine (av.calls k1 a0 dU 1 iJ true _ A3.out).mono ?_);rintro e w' ⟨rfl,⟨nd,rfl⟩⟩;refine ⟨_,rfl,?_⟩) | ((with_reducible refine aQ (f:=124) rfl ?_);refine bQ (some 69) rfl rfl Try.func124 (by kernel_rfl) rfl #[.int .i64 3] rfl (by (try simp only [List.map_toArray,List.map_cons,List.map_nil]);first | done | rfl | (simp only [List.length_drop,List.length_take];rfl) | (simp only [ByteArray.size_append,Int.natCast_add];rfl) | (rw [B.dQ] <;> first | rfl | omega | (simp only [decide_eq_false_iff_not,decide_eq_true_eq,Int.not_lt,Nat.not_lt,gt_iff_lt] at * <;> omega))) ?_;(with_reducible refine (aT.calls 3 aaX aaY aaZ _ A17.out).mono ?_);rintro e w' ⟨rfl,⟨nd,rfl⟩⟩;refine ⟨_,rfl,?_⟩))
       go_ret3
       exact ⟨by first | rfl | (simp;done) | (simp [*];done),by repeat (first | exact aY.refl _ | apply aY.step)⟩
      ·rw [if_neg c16] at H
       have Jf:decide (63 < iJ) = false:=decide_eq_false c16
       clear c16
       replace H:=zbm H
       obtain ⟨⟨t152,aa1⟩,Ow,H⟩:=H
       replace H:(if aa1 = true then (if dK.size + t152.size ≤ 9223372036854775807 then (if (wrap64 (((dK ++ t152).size:Int) + 1)) > 255 then ((aT.f 3).bind fun kK=>(some (kK.1,kK.2.1,kK.2.2))) else (aU.l0 k1 a0 (wrap64 ((wrap64 (dU + iJ)) + 1)) (dK ++ t152) gL iL)) else (none)) else ((aT.f 2).bind fun kL=>(some (kL.1,kL.2.1,kL.2.2)))) = some (r1,r2,r3):=H
       have WQ:=aj.mk Ow
       clear Ow
       by_cases c19:aa1 = true
       ·subst c19
        have H1:(if dK.size + t152.size ≤ 9223372036854775807 then (if (wrap64 (((dK ++ t152).size:Int) + 1)) > 255 then ((aT.f 3).bind fun kK=>(some (kK.1,kK.2.1,kK.2.2))) else (aU.l0 k1 a0 (wrap64 ((wrap64 (dU + iJ)) + 1)) (dK ++ t152) gL iL)) else (none)) = some (r1,r2,r3):=by rw [if_pos rfl] at H;exact H
        clear H
        have H:=H1
        clear H1
        by_cases c20:dK.size + t152.size ≤ 9223372036854775807
        ·rw [if_pos c20] at H
         have Ox:=eq_true c20
         have aa2:decide (dK.size + t152.size ≤ 9223372036854775807) = true:=decide_eq_true c20
         try have ahi:(9223372036854775807 < dK.size + t152.size) = False:=eq_false (Nat.not_lt.2 c20)
         by_cases c21:(wrap64 (((dK ++ t152).size:Int) + 1)) > 255
         ·rw [if_pos c21] at H
          have Uj:decide (255 < (wrap64 (((dK ++ t152).size:Int) + 1))) = true:=decide_eq_true c21
          (try (have Uk:decide (255 < (wrap64 (((dK.size:Int) + (t152.size:Int)) + 1))) = true:=by have h_:decide (255 < (wrap64 (((dK ++ t152).size:Int) + 1))) = true:=decide_eq_true c21;rw [show ((dK ++ t152).size:Int) = ((dK.size:Int) + (t152.size:Int)) from by (simp only [ByteArray.size_append,Int.natCast_add];first | done | rfl)] at h_;(first | exact h_ | (simp only [Int.add_sub_cancel] at h_;exact h_))))
          (try (have aa3:decide (255 < ((((dK ++ t152).size:Int) + 1))) = true:=by have h_:decide (255 < (wrap64 (((dK ++ t152).size:Int) + 1))) = true:=decide_eq_true c21;rw [B.dQ (by omega) (by omega)] at h_;exact h_))
          (try (have aa4:decide (255 < ((((dK.size:Int) + (t152.size:Int)) + 1))) = true:=by have h_:decide (255 < (wrap64 (((dK.size:Int) + (t152.size:Int)) + 1))) = true:=by have h_:decide (255 < (wrap64 (((dK ++ t152).size:Int) + 1))) = true:=decide_eq_true c21;rw [show ((dK ++ t152).size:Int) = ((dK.size:Int) + (t152.size:Int)) from by (simp only [ByteArray.size_append,Int.natCast_add];first | done | rfl)] at h_;(first | exact h_ | (simp only [Int.add_sub_cancel] at h_;exact h_));rw [B.dQ (by omega) (by omega)] at h_;exact h_))
          clear c21
          replace H:=zbm H
          obtain ⟨⟨t154,aa5,t156⟩,aa6,H⟩:=H
          replace H:(some (t154,aa5,t156)) = some (r1,r2,r3):=H
          have A22:=aj.mk aa6
          clear aa6
          simp only [Option.some.injEq,Prod.mk.injEq] at H
          obtain ⟨rfl,rfl,rfl⟩:=H
          go_wp2_with (first | ((with_reducible refine aQ (f:=75) rfl ?_);refine bQ (some 20) rfl rfl Try.func75 (by kernel_rfl) rfl #[.string a0,.int .i64 dU,.int .i64 1] rfl (by (try simp only [List.map_toArray,List.map_cons,List.map_nil]);first | done | rfl | (simp only [List.length_drop,List.length_take];rfl) | (simp only [ByteArray.size_append,Int.natCast_add];rfl) | (rw [B.dQ] <;> first | rfl | omega | (simp only [decide_eq_false_iff_not,decide_eq_true_eq,Int.not_lt,Nat.not_lt,gt_iff_lt] at * <;> omega))) ?_;(with_reducible refine (av.calls k1 a0 dU 1 iJ true _ A3.out).mono ?_);rintro e w' ⟨rfl,⟨nd,rfl⟩⟩;refine ⟨_,rfl,?_⟩) | ((with_reducible refine aQ (f:=99) rfl ?_);refine bQ (some 78) rfl rfl Try.func99 (by kernel_rfl) rfl #[.string a0,.int .i64 dU,.int .i64 (wrap64 (iJ + 1))] rfl (by (try simp only [List.map_toArray,List.map_cons,List.map_nil]);first | done | rfl | (simp only [List.length_drop,List.length_take];rfl) | (simp only [ByteArray.size_append,Int.natCast_add];rfl) | (rw [B.dQ] <;> first | rfl | omega | (simp only [decide_eq_false_iff_not,decide_eq_true_eq,Int.not_lt,Nat.not_lt,gt_iff_lt] at * <;> omega))) ?_;(with_reducible refine (bC.calls a0 dU (wrap64 (iJ + 1)) t152 true _ WQ.out).mono ?_);rintro e w' ⟨rfl,⟨nd,rfl⟩⟩;refine ⟨_,rfl,?_⟩) | ((with_reducible refine aQ (f:=124) rfl ?_);refine bQ (some 94) rfl rfl Try.func124 (by kernel_rfl) rfl #[.int .i64 3] rfl (by (try simp only [List.map_toArray,List.map_cons,List.map_nil]);first | done | rfl | (simp only [List.length_drop,List.length_take];rfl) | (simp only [ByteArray.size_append,Int.natCast_add];rfl) | (rw [B.dQ] <;> first | rfl | omega | (simp only [decide_eq_false_iff_not,decide_eq_true_eq,Int.not_lt,Nat.not_lt,gt_iff_lt] at * <;> omega))) ?_;(with_reducible refine (aT.calls 3 t154 aa5 t156 _ A22.out).mono ?_);rintro e w' ⟨rfl,⟨nd,rfl⟩⟩;refine ⟨_,rfl,?_⟩))
          go_ret3
          exact ⟨by first | rfl | (simp;done) | (simp [*];done),by repeat (first | exact aY.refl _ | apply aY.step)⟩
         ·rw [if_neg c21] at H
          have Uj:decide (255 < (wrap64 (((dK ++ t152).size:Int) + 1))) = false:=decide_eq_false c21
          (try (have Uk:decide (255 < (wrap64 (((dK.size:Int) + (t152.size:Int)) + 1))) = false:=by have h_:decide (255 < (wrap64 (((dK ++ t152).size:Int) + 1))) = false:=decide_eq_false c21;rw [show ((dK ++ t152).size:Int) = ((dK.size:Int) + (t152.size:Int)) from by (simp only [ByteArray.size_append,Int.natCast_add];first | done | rfl)] at h_;(first | exact h_ | (simp only [Int.add_sub_cancel] at h_;exact h_))))
          (try (have aa3:decide (255 < ((((dK ++ t152).size:Int) + 1))) = false:=by have h_:decide (255 < (wrap64 (((dK ++ t152).size:Int) + 1))) = false:=decide_eq_false c21;rw [B.dQ (by omega) (by omega)] at h_;exact h_))
          (try (have aa4:decide (255 < ((((dK.size:Int) + (t152.size:Int)) + 1))) = false:=by have h_:decide (255 < (wrap64 (((dK.size:Int) + (t152.size:Int)) + 1))) = false:=by have h_:decide (255 < (wrap64 (((dK ++ t152).size:Int) + 1))) = false:=decide_eq_false c21;rw [show ((dK ++ t152).size:Int) = ((dK.size:Int) + (t152.size:Int)) from by (simp only [ByteArray.size_append,Int.natCast_add];first | done | rfl)] at h_;(first | exact h_ | (simp only [Int.add_sub_cancel] at h_;exact h_));rw [B.dQ (by omega) (by omega)] at h_;exact h_))
          clear c21
          have H':=aj.mk H
          clear H
          go_wp2_with (first | ((with_reducible refine aQ (f:=75) rfl ?_);refine bQ (some 20) rfl rfl Try.func75 (by kernel_rfl) rfl #[.string a0,.int .i64 dU,.int .i64 1] rfl (by (try simp only [List.map_toArray,List.map_cons,List.map_nil]);first | done | rfl | (simp only [List.length_drop,List.length_take];rfl) | (simp only [ByteArray.size_append,Int.natCast_add];rfl) | (rw [B.dQ] <;> first | rfl | omega | (simp only [decide_eq_false_iff_not,decide_eq_true_eq,Int.not_lt,Nat.not_lt,gt_iff_lt] at * <;> omega))) ?_;(with_reducible refine (av.calls k1 a0 dU 1 iJ true _ A3.out).mono ?_);rintro e w' ⟨rfl,⟨nd,rfl⟩⟩;refine ⟨_,rfl,?_⟩) | ((with_reducible refine aQ (f:=99) rfl ?_);refine bQ (some 78) rfl rfl Try.func99 (by kernel_rfl) rfl #[.string a0,.int .i64 dU,.int .i64 (wrap64 (iJ + 1))] rfl (by (try simp only [List.map_toArray,List.map_cons,List.map_nil]);first | done | rfl | (simp only [List.length_drop,List.length_take];rfl) | (simp only [ByteArray.size_append,Int.natCast_add];rfl) | (rw [B.dQ] <;> first | rfl | omega | (simp only [decide_eq_false_iff_not,decide_eq_true_eq,Int.not_lt,Nat.not_lt,gt_iff_lt] at * <;> omega))) ?_;(with_reducible refine (bC.calls a0 dU (wrap64 (iJ + 1)) t152 true _ WQ.out).mono ?_);rintro e w' ⟨rfl,⟨nd,rfl⟩⟩;refine ⟨_,rfl,?_⟩))
          go_roundg k1
          case measure=>have:=uM.out;omega
          case rel=>exact ⟨(wrap64 ((wrap64 (dU + iJ)) + 1)),(dK ++ t152),(gL),(iL),(by first | rfl | (simp;done) | (simp [*];done) | (simp [B.aV];done) | (simp [B.aW];done)),(by first | rfl | (simp;done) | (simp [*];done) | (simp [B.aV];done) | (simp [B.aW];done)),(by first | rfl | (simp;done) | (simp [*];done) | (simp [B.aV];done) | (simp [B.aW];done)),(by first | rfl | (simp;done) | (simp [*];done) | (simp [B.aV];done) | (simp [B.aW];done)),H',⟨by have:=uM.out;omega⟩,by repeat (first | exact aY.refl _ | apply aY.step)⟩
        ·rw [if_neg c20] at H
         exact absurd H (by simp)
       ·replace c19:=Bool.eq_false_iff.mpr c19
        subst c19
        have H1:((aT.f 2).bind fun kL=>(some (kL.1,kL.2.1,kL.2.2))) = some (r1,r2,r3):=by rw [if_neg (show ¬ (false = true) by decide)] at H;exact H
        clear H
        have H:=H1
        clear H1
        replace H:=zbm H
        obtain ⟨⟨t157,aa7,t159⟩,aa8,H⟩:=H
        replace H:(some (t157,aa7,t159)) = some (r1,r2,r3):=H
        have A23:=aj.mk aa8
        clear aa8
        simp only [Option.some.injEq,Prod.mk.injEq] at H
        obtain ⟨rfl,rfl,rfl⟩:=H
        go_wp2_with (first | ((with_reducible refine aQ (f:=75) rfl ?_);refine bQ (some 20) rfl rfl Try.func75 (by kernel_rfl) rfl #[.string a0,.int .i64 dU,.int .i64 1] rfl (by (try simp only [List.map_toArray,List.map_cons,List.map_nil]);first | done | rfl | (simp only [List.length_drop,List.length_take];rfl) | (simp only [ByteArray.size_append,Int.natCast_add];rfl) | (rw [B.dQ] <;> first | rfl | omega | (simp only [decide_eq_false_iff_not,decide_eq_true_eq,Int.not_lt,Nat.not_lt,gt_iff_lt] at * <;> omega))) ?_;(with_reducible refine (av.calls k1 a0 dU 1 iJ true _ A3.out).mono ?_);rintro e w' ⟨rfl,⟨nd,rfl⟩⟩;refine ⟨_,rfl,?_⟩) | ((with_reducible refine aQ (f:=99) rfl ?_);refine bQ (some 78) rfl rfl Try.func99 (by kernel_rfl) rfl #[.string a0,.int .i64 dU,.int .i64 (wrap64 (iJ + 1))] rfl (by (try simp only [List.map_toArray,List.map_cons,List.map_nil]);first | done | rfl | (simp only [List.length_drop,List.length_take];rfl) | (simp only [ByteArray.size_append,Int.natCast_add];rfl) | (rw [B.dQ] <;> first | rfl | omega | (simp only [decide_eq_false_iff_not,decide_eq_true_eq,Int.not_lt,Nat.not_lt,gt_iff_lt] at * <;> omega))) ?_;(with_reducible refine (bC.calls a0 dU (wrap64 (iJ + 1)) t152 false _ WQ.out).mono ?_);rintro e w' ⟨rfl,⟨nd,rfl⟩⟩;refine ⟨_,rfl,?_⟩) | ((with_reducible refine aQ (f:=124) rfl ?_);refine bQ (some 83) rfl rfl Try.func124 (by kernel_rfl) rfl #[.int .i64 2] rfl (by (try simp only [List.map_toArray,List.map_cons,List.map_nil]);first | done | rfl | (simp only [List.length_drop,List.length_take];rfl) | (simp only [ByteArray.size_append,Int.natCast_add];rfl) | (rw [B.dQ] <;> first | rfl | omega | (simp only [decide_eq_false_iff_not,decide_eq_true_eq,Int.not_lt,Nat.not_lt,gt_iff_lt] at * <;> omega))) ?_;(with_reducible refine (aT.calls 2 t157 aa7 t159 _ A23.out).mono ?_);rintro e w' ⟨rfl,⟨nd,rfl⟩⟩;refine ⟨_,rfl,?_⟩))
        go_ret3
        exact ⟨by first | rfl | (simp;done) | (simp [*];done),by repeat (first | exact aY.refl _ | apply aY.step)⟩
   ·replace c4:=Bool.eq_false_iff.mpr c4
    subst c4
    have H1:((aT.f 2).bind fun qh=>(some (qh.1,qh.2.1,qh.2.2))) = some (r1,r2,r3):=by rw [if_neg (show ¬ (false = true) by decide)] at H;exact H
    clear H
    have H:=H1
    clear H1
    replace H:=zbm H
    obtain ⟨⟨t138,t139,aa9⟩,abb,H⟩:=H
    replace H:(some (t138,t139,aa9)) = some (r1,r2,r3):=H
    have A24:=aj.mk abb
    clear abb
    simp only [Option.some.injEq,Prod.mk.injEq] at H
    obtain ⟨rfl,rfl,rfl⟩:=H
    go_wp2_with (first | ((with_reducible refine aQ (f:=75) rfl ?_);refine bQ (some 20) rfl rfl Try.func75 (by kernel_rfl) rfl #[.string a0,.int .i64 dU,.int .i64 1] rfl (by (try simp only [List.map_toArray,List.map_cons,List.map_nil]);first | done | rfl | (simp only [List.length_drop,List.length_take];rfl) | (simp only [ByteArray.size_append,Int.natCast_add];rfl) | (rw [B.dQ] <;> first | rfl | omega | (simp only [decide_eq_false_iff_not,decide_eq_true_eq,Int.not_lt,Nat.not_lt,gt_iff_lt] at * <;> omega))) ?_;(with_reducible refine (av.calls k1 a0 dU 1 iJ false _ A3.out).mono ?_);rintro e w' ⟨rfl,⟨nd,rfl⟩⟩;refine ⟨_,rfl,?_⟩) | ((with_reducible refine aQ (f:=124) rfl ?_);refine bQ (some 25) rfl rfl Try.func124 (by kernel_rfl) rfl #[.int .i64 2] rfl (by (try simp only [List.map_toArray,List.map_cons,List.map_nil]);first | done | rfl | (simp only [List.length_drop,List.length_take];rfl) | (simp only [ByteArray.size_append,Int.natCast_add];rfl) | (rw [B.dQ] <;> first | rfl | omega | (simp only [decide_eq_false_iff_not,decide_eq_true_eq,Int.not_lt,Nat.not_lt,gt_iff_lt] at * <;> omega))) ?_;(with_reducible refine (aT.calls 2 t138 t139 aa9 _ A24.out).mono ?_);rintro e w' ⟨rfl,⟨nd,rfl⟩⟩;refine ⟨_,rfl,?_⟩))
    go_ret3
    exact ⟨by first | rfl | (simp;done) | (simp [*];done),by repeat (first | exact aY.refl _ | apply aY.step)⟩
end Go.Proofs.Ytdkkgecdhapfhaa.ZQ
namespace Go.Proofs.Ytdkkgecdhapfhaa.ZQ
open Go.RowKit Go.Proofs.YtdkkgecdhapfhaaW.bD Go.Proofs.YtdkkgecdhapfhaaW.dM Go.Proofs.YtdkkgecdhapfhaaW.eP Go.Proofs.Ytdkkgecdhapfhaa.B
theorem Jk {msg:ByteArray} {i:Int} (h:192 ≤ bt msg i):49152 ≤ iq 2 msg i ∧ iq 2 msg i ≤ 65535:=by
 have h1:=gF msg i
 have h2:=gF msg (i + 1)
 simp [iq]
 omega
theorem af0 (a b:Nat) (c:Int) (h:(b:Int) = 1 + c) (ha:a ≤ 254) (hb:c ≤ 63) (h0:0 ≤ c):wrap64 (((a + b:Nat):Int) + 1) = a + (1 + c) + 1:=by
 rw [dQ (by omega) (by omega)];omega
set_option maxHeartbeats 4000000 in
theorem KR (d:Nat):∀ (k:Nat) (msg:ByteArray) (i l n:Int) (t:ByteArray),l.toNat + (255 - t.size) < d → d + 10 ≤ k → msg.size ≤ 100000 → t.size ≤ 254 → (n = -1 ∨ 0 ≤ n) →
  ∃ R,bF.l k msg i l n t = some R ∧ aU.l0 k msg i t n l = some R:=by
 induction d with
 | zero=>intro k msg i l n t h;omega
 | succ d ih =>
  intro k msg i l n t hd hk hm ht hn
  obtain ⟨k,rfl⟩:∃ m,k = m + 1:=⟨k - 1,by omega⟩
  rw [bF.l,aU.l0,sF k (by omega) msg i 1 (by omega),sF k (by omega) msg i 2 (by omega)]
  simp only [Option.bind_some]
  by_cases g1:j3 msg i 1
  ·have hr:=gF msg i
   have e1:iq (1:Int).toNat msg i = bt msg i:=FP msg i
   have hi0:=g1.1
   have hi1:=g1.2.2.2
   simp only [if_pos g1,e1,if_true]
   by_cases c0:bt msg i = 0
   ·simp only [if_pos c0]
    have z:t.size + 1 ≤ 9223372036854775807:=by omega
    simp only [if_pos z]
    rw [dQ (n:=i + 1) (by omega) (by omega)]
    rcases hn with rfl | hn
    ·rw [if_pos (show (-1:Int) < 0 by omega),if_pos rfl];exact ⟨_,rfl,rfl⟩
    ·rw [if_neg (show ¬ n < 0 by omega),if_neg (show ¬ n = -1 by omega)];exact ⟨_,rfl,rfl⟩
   ·simp only [if_neg c0]
    by_cases c1:192 ≤ bt msg i
    ·have hg:=Jk c1
     simp only [if_pos c1,if_pos (show bt msg i ≥ 192 from c1)]
     by_cases g2:j3 msg i 2
     ·have e2:iq (2:Int).toNat msg i = iq 2 msg i:=rfl
      have hi2:=g2.2.2.2
      simp only [if_pos g2,e2,if_true]
      rw [dQ (n:=iq 2 msg i - 49152) (by omega) (by omega),dQ (n:=i + 2) (by omega) (by omega)]
      by_cases c2:iq 2 msg i - 49152 ≥ l
      ·rw [if_pos c2,if_pos c2]
       exact ⟨_,rfl,rfl⟩
      ·rw [if_neg c2,if_neg c2]
       rcases hn with rfl | hn
       ·rw [if_pos (show (-1:Int) < 0 by omega),if_pos rfl]
        exact ih k msg _ _ _ t (by omega) (by omega) hm ht (.inr (by omega))
       ·rw [if_neg (show ¬ n < 0 by omega),if_neg (show ¬ n = -1 by omega)]
        exact ih k msg _ _ _ t (by omega) (by omega) hm ht (.inr hn)
     ·simp only [if_neg g2,Bool.false_eq_true,if_false]
      exact ⟨_,rfl,rfl⟩
    ·simp only [if_neg c1,if_neg (show ¬ bt msg i ≥ 192 from c1)]
     by_cases c2:63 < bt msg i
     ·rw [if_pos c2,if_pos (show bt msg i > 63 from c2)]
      exact ⟨_,rfl,rfl⟩
     ·rw [if_neg c2,if_neg (show ¬ bt msg i > 63 from c2),dQ (n:=bt msg i + 1) (by omega) (by omega),qd msg i _ (by omega),show bt msg i + 1 = 1 + bt msg i from by omega]
      simp only [Option.bind_some]
      by_cases g3:gW msg i (1 + bt msg i)
      ·have hz:=size_ext g3.1 g3.2.1 g3.2.2
       simp only [if_pos g3,if_true]
       have hsz:t.size + (msg.extract i.toNat (i + (1 + bt msg i)).toNat).size ≤ 9223372036854775807:=by omega
       rw [if_pos hsz,ByteArray.size_append,af0 _ _ _ hz ht (by omega) (by omega)]
       clear hsz
       by_cases c3:(t.size:Int) + (1 + bt msg i) ≥ 255
       ·rw [if_pos c3,if_pos (show (t.size:Int) + (1 + bt msg i) + 1 > 255 by omega)]
        exact ⟨_,rfl,rfl⟩
       ·have hb:=g3.2.2
        rw [if_neg c3,if_neg (show ¬ (t.size:Int) + (1 + bt msg i) + 1 > 255 by omega),dQ (n:=i + bt msg i) (by omega) (by omega),dQ (n:=i + bt msg i + 1) (by omega) (by omega),show i + bt msg i + 1 = i + (1 + bt msg i) from by omega]
        exact ih k msg _ _ _ _ (by rw [ByteArray.size_append];omega) (by omega) hm (by rw [ByteArray.size_append];omega) hn
      ·simp only [if_neg g3,Bool.false_eq_true,if_false]
       exact ⟨_,rfl,rfl⟩
  ·simp only [if_neg g1,Bool.false_eq_true,if_false]
   exact ⟨_,rfl,rfl⟩
theorem FQ {k k':Nat} (hk:k ≤ k') {msg:ByteArray} {i:Int} {R:ByteArray × Int × Int} (h:bF.f k msg i = some R):bF.f k' msg i = some R:=vP (fun k=>bF.mono msg i k) hk h
def rounds (i:Int):Nat:=i.toNat + 300
theorem BF (k:Nat) (msg:ByteArray) (i:Int) (hm:msg.size ≤ 100000) (hk:rounds i ≤ k):∃ R,bF.f k msg i = some R ∧ aU.f k msg i = some R:=by
 unfold rounds at hk
 obtain ⟨R,h1,h2⟩:=KR (i.toNat + 256) k msg i i (-1) ⟨#[]⟩ (by rw [Fw];omega) (by omega) hm (by decide) (.inl rfl)
 refine ⟨R,?_,h2⟩
 unfold bF.f
 rw [if_pos (by omega)]
 exact h1
def pre (t:ByteArray):Prop:=∃ ls,t = Ag ls ∧ ∀ x ∈ ls,KD x
theorem pre_nil : pre ⟨#[]⟩:=⟨[],rfl,by simp⟩
theorem Oy {t x:ByteArray} (h:pre t) (hx:KD x):pre (t ++ (sg x.size ++ x)):=by
 obtain ⟨ls,rfl,hok⟩:=h
 refine ⟨ls ++ [x],?_,?_⟩
 ·rw [FB];simp only [Ag];rw [append_empty]
 ·intro y hy
  rcases List.mem_append.mp hy with hy | hy
  ·exact hok y hy
  ·rw [List.mem_singleton] at hy;subst hy;exact hx
theorem KT {msg:ByteArray} {i:Int} (h:gW msg i (1 + bt msg i)) (h1:1 ≤ bt msg i) (h2:bt msg i ≤ 63):∃ x,KD x ∧ msg.extract i.toNat (i + (1 + bt msg i)).toNat = sg x.size ++ x:=by
 obtain ⟨g0,g1,g2⟩:=h
 have hz:=size_ext g0 g1 g2
 refine ⟨msg.extract (i.toNat + 1) (i + (1 + bt msg i)).toNat,?_,?_⟩
 ·unfold KD;rw [ByteArray.size_extract];omega
 ·have e:(msg.extract (i.toNat + 1) (i + (1 + bt msg i)).toNat).size = (bt msg i).toNat:=by rw [ByteArray.size_extract];omega
  rw [e]
  have h3:msg.extract i.toNat (i.toNat + 1) = sg ((bt msg i).toNat:Nat):=by
   refine G8 (by rw [qE,ByteArray.size_extract];omega) fun j j0 j1=>?_
   rw [ByteArray.size_extract] at j1
   have:j = 0:=by omega
   subst this
   rw [mP (by omega) (by rw [ByteArray.size_extract];omega),N7 _ (by omega)]
   rw [show ((i.toNat:Nat):Int) + 0 = i from by omega]
   omega
  rw [← h3,ByteArray.extract_append_extract]
  congr 1 <;> omega
theorem KU (k:Nat):∀ (msg:ByteArray) (a i l n:Int) (t:ByteArray) (R:ByteArray × Int × Int),0 ≤ a → pre t → t.size ≤ 254 → ((n = -1 ∧ a ≤ i) ∨ (a < n ∧ n ≤ (msg.size:Int))) → bF.l k msg i l n t = some R →
  (R.2.2 = 0 ∧ jG R.1 = true ∧ a < R.2.1 ∧ R.2.1 ≤ (msg.size:Int)) ∨ ((R.2.2 = 2 ∨ R.2.2 = 3) ∧ R.1 = ⟨#[]⟩ ∧ R.2.1 = 0):=by
 induction k with
 | zero=>intro msg a i l n t R _ _ _ _ h;simp [bF.l] at h
 | succ k ih =>
  intro msg a i l n t R ha hp ht hn h
  rw [bF.l] at h
  by_cases g1:j3 msg i 1
  ·have hr:=gF msg i
   have hi0:=g1.1
   have hi1:=g1.2.2.2
   rw [if_pos g1] at h
   by_cases c0:bt msg i = 0
   ·rw [if_pos c0] at h
    cases h
    left
    refine ⟨rfl,?_,?_⟩
    ·obtain ⟨ls,rfl,hok⟩:=hp
     exact Ja.mpr ⟨ls,rfl,hok,by rw [ByteArray.size_append];show _ + root.size ≤ 255;rw [kZ];omega⟩
    ·rcases hn with ⟨rfl,hn⟩ | hn
     ·rw [if_pos rfl];exact ⟨(by show a < i + 1;omega),(by show i + 1 ≤ (msg.size:Int);omega)⟩
     ·rw [if_neg (by omega)];exact hn
   ·rw [if_neg c0] at h
    by_cases c1:192 ≤ bt msg i
    ·rw [if_pos c1] at h
     have hg:=Jk c1
     by_cases g2:j3 msg i 2
     ·rw [if_pos g2] at h
      have hi2:=g2.2.2.2
      by_cases c2:iq 2 msg i - 49152 ≥ l
      ·rw [if_pos c2] at h
       cases h;right;exact ⟨.inr rfl,rfl,rfl⟩
      ·rw [if_neg c2] at h
       rcases hn with ⟨rfl,hn⟩ | hn
       ·rw [if_pos rfl] at h
        exact ih msg a _ _ _ t R ha hp ht (.inr ⟨by omega,by omega⟩) h
       ·rw [if_neg (by omega)] at h
        exact ih msg a _ _ _ t R ha hp ht (.inr hn) h
     ·rw [if_neg g2] at h
      cases h;right;exact ⟨.inl rfl,rfl,rfl⟩
    ·rw [if_neg c1] at h
     by_cases c2:63 < bt msg i
     ·rw [if_pos c2] at h
      cases h;right;exact ⟨.inr rfl,rfl,rfl⟩
     ·rw [if_neg c2] at h
      by_cases g3:gW msg i (1 + bt msg i)
      ·rw [if_pos g3] at h
       by_cases c3:(t.size:Int) + (1 + bt msg i) ≥ 255
       ·rw [if_pos c3] at h
        cases h;right;exact ⟨.inr rfl,rfl,rfl⟩
       ·rw [if_neg c3] at h
        have hz:=size_ext g3.1 g3.2.1 g3.2.2
        obtain ⟨x,hx,hxe⟩:=KT g3 (by omega) (by omega)
        refine ih msg a _ _ _ _ R ha ?_ (by rw [ByteArray.size_append];omega) ?_ h
        ·rw [hxe];exact Oy hp hx
        ·rcases hn with ⟨rfl,hn⟩ | hn
         ·exact .inl ⟨rfl,by omega⟩
         ·exact .inr hn
      ·rw [if_neg g3] at h
       cases h;right;exact ⟨.inl rfl,rfl,rfl⟩
  ·rw [if_neg g1] at h
   cases h;right;exact ⟨.inl rfl,rfl,rfl⟩
theorem WR {k:Nat} {msg:ByteArray} {i:Int} {R:ByteArray × Int × Int} (hm:msg.size ≤ 100000):bF.f k msg i = some R ↔ bF.l k msg i i (-1) ⟨#[]⟩ = some R:=by
 unfold bF.f;rw [if_pos (by omega)]
theorem Hr {k:Nat} {msg:ByteArray} {i:Int} {R:ByteArray × Int × Int} (hm:msg.size ≤ 100000) (h:bF.f k msg i = some R) :
  (R.2.2 = 0 ∧ jG R.1 = true ∧ 0 ≤ i ∧ i < R.2.1 ∧ R.2.1 ≤ (msg.size:Int)) ∨ ((R.2.2 = 2 ∨ R.2.2 = 3) ∧ R.1 = ⟨#[]⟩ ∧ R.2.1 = 0):=by
 rw [WR hm] at h
 by_cases h0:0 ≤ i
 ·rcases KU k msg i i i (-1) ⟨#[]⟩ R h0 pre_nil (by decide) (.inl ⟨rfl,Int.le_refl _⟩) h with ⟨h1,h2,h3,h4⟩ | h1
  ·exact .inl ⟨h1,h2,h0,h3,h4⟩
  ·exact .inr h1
 ·cases k with
  | zero=>simp [bF.l] at h
  | succ k =>
   rw [bF.l,if_neg (fun g=>h0 g.1)] at h
   cases h;right;exact ⟨.inl rfl,rfl,rfl⟩
end Go.Proofs.Ytdkkgecdhapfhaa.ZQ
namespace Go.Proofs.Ytdkkgecdhapfhaa.ZQ
open Go.RowKit Go.Proofs.YtdkkgecdhapfhaaW.bD Go.Proofs.YtdkkgecdhapfhaaW.dM Go.Proofs.YtdkkgecdhapfhaaW.eP Go.Proofs.Ytdkkgecdhapfhaa.B
def plL : List ByteArray → Int → ByteArray → Int
 | [],_,_=>-1
 | x :: m,o,r=>if same (enc (x :: m)) r then o else plL m (o + 1 + x.size) r
def wrL (m:List ByteArray) (a:Int):List ByteArray → ByteArray → ByteArray
 | [],p=>p ++ root
 | x :: l,p=>if 0 ≤ plL m 0 (enc (x :: l)) then p ++ afW (49152 + a + plL m 0 (enc (x :: l))) 2 else wrL m a l (p ++ (sg x.size ++ x))
def wr (base:ByteArray) (a:Int) (n:ByteArray):ByteArray:=match uL base,uL n with
 | some m,some ls=>if 0 ≤ a ∧ a ≤ 16000 then wrL m a ls ⟨#[]⟩ else ⟨#[]⟩
 | _,_=>⟨#[]⟩
theorem BG (a:ByteArray):(oO a).size = a.size:=by unfold oO;rw [strOfNums_size,List.length_map,numsOf_length]
end Go.Proofs.Ytdkkgecdhapfhaa.ZQ
namespace Go.Proofs.Ytdkkgecdhapfhaa.Mi
open Go Go.Proofs.YtdkkgecdhapfhaaW.bD
def ents : Nat → List (Int × Value) → List MapEntry
 | _,[]=>[]
 | i,(k,v) :: l=>{ key:=.int .i64 k,val:=v,born:=i } :: ents (i + 1) l
def sW (k:Int):List (Int × Value) → Option Value
 | []=>none
 | (k',v) :: l=>if k = k' then some v else sW k l
theorem oI (k:Int):∀ (l:List (Int × Value)) (i j:Nat),∃ r,Instr.findNow (.int .i64) (.int .i64 k) (ents i l) j = some r ∧ r.map (·.2) = sW k l
 | [],i,j=>⟨none,rfl,rfl⟩
 | (k',v) :: l,i,j=>by
  obtain ⟨r,h1,h2⟩:=oI k l (i + 1) (j + 1)
  unfold ents sW Instr.findNow
  by_cases h:k = k'
  ·subst h
   exact ⟨some (j,v),by simp [Instr.sameNow],by simp⟩
  ·have hb:(k == k') = false:=by simpa using h
   exact ⟨r,by simp [Instr.sameNow,hb,h1],by simp [h,h2]⟩
theorem BH (k:Int) (v:Value):∀ (l:List (Int × Value)) (i:Nat),ents i (l ++ [(k,v)]) = ents i l ++ [{ key:=.int .i64 k,val:=v,born:=i + l.length }]
 | [],i=>rfl
 | (k',v') :: l,i=>by
  simp only [List.cons_append,ents,BH k v l (i + 1),List.length_cons]
  rw [show i + 1 + l.length = i + (l.length + 1) from by omega]
def At (w:World) (b:Nat) (l:List (Int × Value)):Prop:=w.heap[b]? = some (.map (ents 0 l).toArray l.length)
variable {P : Program}
theorem Ht {w:World} {b:Nat} {l:List (Int × Value)} (h:At w b l) (t kt et:TypeId) (hm:P.underlying t = some (.map kt et)) (hk:P.underlying kt = some (.int .i64)) (k:Int) (v:Value) (hn:sW k l = none) :
  ∃ w',(Instr.mapUpdate t (.map (some b)) (.int .i64 k) v).run P w = .ok () w' ∧ At w' b (l ++ [(k,v)]) ∧ w.grownBy w' (some b):=by
 obtain ⟨r,h1,h2⟩:=oI k l 0 0
 rw [hn] at h2
 obtain rfl:r = none:=by cases r with | none=>rfl | some x=>cases h2
 have hc:(Instr.checkKey false 10000 kt (.int .i64 k)).run P w = .ok () w:=MapKept.run_checkKey (k:=.int .i64 k) hk (by simp [MapKept.IsKey]) false 9999
 refine ⟨{ w with heap:=w.heap.setIfInBounds b (.map (ents 0 (l ++ [(k,v)])).toArray (l ++ [(k,v)]).length) },?_,(MapKept.heap_set h).1,⟨rfl,rfl,rfl,by simp,fun i _ hi=>(MapKept.heap_set h).2 i (fun e=>hi (by rw [e]))⟩⟩
 unfold At at h
 simp [Instr.mapUpdate,run_underlying hm,MapKept.run_getObj_map h,hc,MapKept.run_findKey hk h1,MapKept.run_setObj_map _ h,Result.andThen]
 rw [BH]
 simp
theorem look {w:World} {b:Nat} {l:List (Int × Value)} (h:At w b l) (t kt et:TypeId) (hm:P.underlying t = some (.map kt et)) (hk:P.underlying kt = some (.int .i64)) (z:Value) (hz:(zeroValue et).run P w = .ok z w) (k:Int) :
  (Instr.lookup t (.map (some b)) (.int .i64 k) true).run P w = .ok (.tuple #[(sW k l).getD z,.bool (sW k l).isSome]) w:=by
 obtain ⟨r,h1,h2⟩:=oI k l 0 0
 unfold At at h
 have hc:∀ e,(Instr.checkKey e 10000 kt (.int .i64 k)).run P w = .ok () w:=fun e=>MapKept.run_checkKey (k:=.int .i64 k) hk (by simp [MapKept.IsKey]) e 9999
 rw [← h2]
 cases r with
 | none=>simp [Instr.lookup,run_underlying hm,MapKept.run_getObj_map h,hc,MapKept.run_findKey hk h1,Result.andThen,hz]
 | some x=>obtain ⟨i,v⟩:=x;simp [Instr.lookup,run_underlying hm,MapKept.run_getObj_map h,hc,MapKept.run_findKey hk h1,Result.andThen]
theorem KW (w:World) {ops:Array Oper} {rest:List Oper} {o:Oper} {a:Act} {Q:Exit → Act → World → Prop}
  (hg:o.guard = none) (m x v:Operand) (t:TypeId) (hop:o.op = Op.insert t m x v)
  (kt et:TypeId) (ht:P.underlying t = some (.map kt et)) (hk:P.underlying kt = some (.int .i64)) (b:Nat) (l:List (Int × Value)) (hm:a.eval m = .map (some b)) (hat:At w b l) (k:Int) (val:Value) (hx:a.eval x = .int .i64 k) (hv:a.eval v = val) (hn:sW k l = none)
  (hK:∀ w',At w' b (l ++ [(k,val)]) → w.grownBy w' (some b) → wpList P ops Q rest (a.put o.dst undef) w') :
  wpList P ops Q (o :: rest) a w:=by
 refine wpList_plain hg fun K' hK'=>?_
 obtain ⟨w',hrun,r1,r2⟩:=Ht hat t kt et ht hk k val hn
 unfold Oper.wp
 simp [execOp,hop,hm,hx,hv,hrun,Result.andThen]
 exact hK' _ _ (hK w' r1 r2)
theorem Rk (w:World):At (w.alloc (.map #[] 0)) w.heap.size []:=by
 unfold At ents
 exact heap_alloc_new w _
structure In (B0:Nat) (w0 w:World) (b:Nat) (l:List (Int × Value)):Prop where
 at_:At w b l
 ge:B0 ≤ b
 O8:RowKit.Below B0 w0 w
theorem In.made {w:World}:In w.heap.size w (w.alloc (.map #[] 0)) w.heap.size []:=⟨Rk w,Nat.le_refl _,(RowKit.Below.refl _ _).alloc (Nat.le_refl _) _⟩
theorem In.grown {B0 b:Nat} {w0 w w':World} {l l':List (Int × Value)} (h:In B0 w0 w b l) (h':At w' b l') (hg:w.grownBy w' (some b)):In B0 w0 w' b l':=by
 refine ⟨h',h.ge,h.O8.grown hg ?_ (fun k e=>by cases e;exact h.ge)⟩
 have:=(Array.getElem?_eq_some_iff.1 h.at_).1
 have:=h.ge
 omega
theorem FR {w:World} {ops:Array Oper} {rest:List Oper} {o:Oper} {a:Act} {Q:Exit → Act → World → Prop} (t:TypeId) (m x v:Operand) (hop:o.op = Op.insert t m x v) (h:wpList P ops Q (o :: rest) a w):wpList P ops Q (o :: rest) a w:=h
theorem abd (w:World) {ops:Array Oper} {rest:List Oper} {o:Oper} {a:Act} {Q:Exit → Act → World → Prop}
  (hg:o.guard = none) (m x v:Operand) (t:TypeId) (hop:o.op = Op.insert t m x v)
  (kt et:TypeId) (ht:P.underlying t = some (.map kt et)) (hk:P.underlying kt = some (.int .i64)) (b:Nat) (l:List (Int × Value)) (hm:a.eval m = .map (some b)) {B0:Nat} {w0:World} (hin:In B0 w0 w b l) (k:Int) (val:Value) (hx:a.eval x = .int .i64 k) (hv:a.eval v = val) (hn:sW k l = none)
  (hK:∀ w',aj (In B0 w0 w' b (l ++ [(k,val)])) → wpList P ops Q rest (a.put o.dst undef) w') :
  wpList P ops Q (o :: rest) a w :=
 KW w hg m x v t hop kt et ht hk b l hm hin.at_ k val hx hv hn fun w' h1 h2=>hK w' ⟨hin.grown h1 h2⟩
end Go.Proofs.Ytdkkgecdhapfhaa.Mi
namespace Go.Proofs.Ytdkkgecdhapfhaa.ZQ
open Go.RowKit Go.Proofs.YtdkkgecdhapfhaaW.bD Go.Proofs.YtdkkgecdhapfhaaW.dM Go.Proofs.YtdkkgecdhapfhaaW.eP
attribute [local go_sem] jv jw kG kH iH iI jy jA
theorem iK.keep {a b:ByteArray} {v:Value} {l:List ByteArray} {base g:Nat} {ok:Nat → Prop} {w w1 w2:World}
  (h:(w1.cell? ⟨g,0,none⟩ = some (.string a) ∧ w1.cell? ⟨g,1,none⟩ = some (.string b) ∧ w1.cell? ⟨g,2,none⟩ = some v) ∧ aj (Below g w w1 ∧ g < w1.heap.size ∧ Kd.R Kd.string 9 w1 base ok v l)) (hb:Below w1.heap.size w1 w2) :
  (w2.cell? ⟨g,0,none⟩ = some (.string a) ∧ w2.cell? ⟨g,1,none⟩ = some (.string b) ∧ w2.cell? ⟨g,2,none⟩ = some v) ∧ aj (Below g w w2 ∧ g < w2.heap.size ∧ Kd.R Kd.string 9 w2 base ok v l):=by
 obtain ⟨⟨c0,c1,c2⟩,⟨h1,h2,h3⟩⟩:=h
 have hs:=hb.size
 exact ⟨⟨(hb.cell h2).trans c0,(hb.cell h2).trans c1,(hb.cell h2).trans c2⟩,⟨h1.trans (hb.mono (by omega)),by omega,Kd.kF h3 hb⟩⟩
set_option maxHeartbeats 4000000 in
set_option maxRecDepth 100000 in
theorem iK.calls (a b:ByteArray) (v:Value) (l:List ByteArray) (base:Nat) (ok:Nat → Prop) (w:World) (hr:Kd.R Kd.string 9 w base ok v l) (hl:l.length ≤ 1000000) (hz:a.size + (strings_Join.cat l).size + b.size ≤ 140737488355328) :
  Calls Try.prog 113 #[.agg #[.string a,.string b,v]] w fun e w'=>e = .returned (.string (a ++ strings_Join.cat l ++ b)) ∧ Below w.heap.size w w':=by
 have HB:=aj.mk (ak (Below.refl w.heap.size w) (.cells #[.string a,.string b,v] 148 (0,0)))
 have HR:=aj.mk (Kd.fA hr (.cells #[.string a,.string b,v] 148 (0,0)))
 have HC:(w.alloc (.cells #[.string a,.string b,v] 148 (0,0))).cell? ⟨w.heap.size,0,none⟩ = some (.string a) ∧ (w.alloc (.cells #[.string a,.string b,v] 148 (0,0))).cell? ⟨w.heap.size,1,none⟩ = some (.string b) ∧ (w.alloc (.cells #[.string a,.string b,v] 148 (0,0))).cell? ⟨w.heap.size,2,none⟩ = some v:=by
  refine ⟨?_,?_,?_⟩ <;> (rw [Lib.cell_of_heap (heap_alloc_new w _)];rfl)
 have HC0:=aj.mk HC
 clear HC
 have HC:=HC0
 clear HC0
 have hs:w.heap.size < (w.alloc (.cells #[.string a,.string b,v] 148 (0,0))).heap.size:=by show _ < (w.heap.push _).size;rw [Array.size_push];omega
 have HS:=aj.mk hs
 have HZ:=aj.mk hz
 have HL:=aj.mk hl
 clear hs hz hr hl
 go_enter Try.func113,Try.ntmps113
 go_wp2
 generalize w.alloc (.cells #[.string a,.string b,v] 148 (0,0)) = w1 at *
 generalize hgg:w.heap.size = g at *
 have hgg:=aj.mk hgg
 have hf1:a.size + (strings_Join.cat l).size ≤ 9223372036854775807:=by have:=HZ.out;omega
 have hf2:a.size + (strings_Join.cat l).size + b.size ≤ 9223372036854775807:=by have:=HZ.out;omega
 have c0:=HC.out.1
 have c1:=HC.out.2.1
 have c2:=HC.out.2.2
 go_region_held (fun w'=>(w'.cell? ⟨g,0,none⟩ = some (.string a) ∧ w'.cell? ⟨g,1,none⟩ = some (.string b) ∧ w'.cell? ⟨g,2,none⟩ = some v) ∧ aj (Below g w w' ∧ g < w'.heap.size ∧ Kd.R Kd.string 9 w' base ok v l)) ((first | assumption | exact iK.keep ⟨⟨c0,c1,c2⟩,⟨HB.out,HS.out,HR.out⟩⟩ (jq (Below.refl _ _)) | exact iK.keep (by assumption) (by assumption))) ((first | (go_at_call 123;refine (strings_Join.calls v l base ok _ (Kd.fZ HR.out) HL.out (by have:=HZ.out;omega)).mono ?_;rintro e w' ⟨rfl,hb'⟩)))
 all_goals
  rename_i hx
  go_wp2
  go_ret
  exact ⟨rfl,hgg.out ▸ hx.2.out.1⟩
def bY.agg (a b c:Int):Value:=.agg #[.int .i64 a,.int .i64 b,.int .i64 c]
def bY.tab : List (Int × Value):=[(1,bY.agg 4 0 0),(28,bY.agg 16 0 0),(2,bY.agg 0 1 0),(5,bY.agg 0 1 0),(12,bY.agg 0 1 0),(6,bY.agg 0 2 20),(15,bY.agg 2 1 0),(33,bY.agg 6 1 0)]
set_option maxHeartbeats 8000000 in
set_option maxRecDepth 100000 in
theorem bY.calls (w:World):Calls Try.prog 120 #[] w fun e w'=>∃ g,e = .returned (.map (some g)) ∧ Mi.In w.heap.size w w' g bY.tab:=by
 have hmm:=@run_makeMap Try.prog
 have hi:=aj.mk (Mi.In.made (w:=w))
 generalize hg:w.heap.size = g at hi
 have hg':=aj.mk hg
 go_enter Try.func120,Try.ntmps120
 go_wp2_with (first | (refine Mi.FR 159 _ _ _ rfl ?_;refine Mi.abd _ rfl _ _ _ 159 rfl 3 157 Try.underlying159 Try.underlying3 _ _ rfl (aj.out (by assumption)) _ _ rfl rfl rfl ?_;clear hi;intro w1 hi))
 go_ret
 exact ⟨g,rfl,hi.out⟩
def bW.l0 : Nat → ByteArray → Int → Int → Int → Int → Int → Int → Int → ByteArray → ByteArray → List ByteArray → Option (ByteArray × ByteArray × List ByteArray × Bool)
 | 0,_,_,_,_,_,_,_,_,_,_,_=>none
 | k + 1,x0,x1,x2,x37,x38,Rm,Ro,Jl,Jm,Rp,Dt=>if x38 < x37 then ((bF.f k x0 x1).bind fun Jo=>(if Jo.2.2 = 0 then (if Jo.2.1 > x2 then (some ((⟨#[]⟩:ByteArray),(⟨#[]⟩:ByteArray),([]:List ByteArray),false)) else (if Dt.length < 8796093022208 then (bW.l0 k x0 Jo.2.1 x2 x37 (wrap64 (x38 + 1)) Rm Ro Jl Jm Rp (Dt ++ [Jo.1])) else (none))) else (some ((⟨#[]⟩:ByteArray),(⟨#[]⟩:ByteArray),([]:List ByteArray),false)))) else (if 0 ≤ x1 then (if x1 ≤ x2 then (if x2 ≤ (x0.size:Int) then (some (Jm,x0.extract (x1:Int).toNat (x2:Int).toNat,Dt,(((x0.extract (x1:Int).toNat (x2:Int).toNat).size:Int) == Jl))) else (none)) else (none)) else (none))
def bW.f (k:Nat) (a0:ByteArray) (a1:Int) (a2:Int) (eT:Int) (iR:Int) (jX:Int):Option (ByteArray × ByteArray × List ByteArray × Bool):=if (eT ≤ (wrap64 (a2 - a1))) then (if 0 ≤ a1 then (if a1 ≤ (wrap64 (a1 + eT)) then (if (wrap64 (a1 + eT)) ≤ (a0.size:Int) then (bW.l0 k a0 (wrap64 (a1 + eT)) a2 iR 0 eT iR jX (a0.extract (a1:Int).toNat ((wrap64 (a1 + eT)):Int).toNat) (⟨#[]⟩:ByteArray) ([]:List ByteArray)) else (none)) else (none)) else (none)) else (some ((⟨#[]⟩:ByteArray),(⟨#[]⟩:ByteArray),([]:List ByteArray),false))
def bW.T15 : Bool × List (List Nat × List Nat):=(true,[([],[]),([],[]),([1],[1]),([2],[2]),([],[]),([4],[4]),([3,5],[3,5]),([0,0],[0]),([6,7,0,1,2,3,4,5,6,7],[6])])
def bW.B15 : List Nat:=[0,0,2,6,0,16,62,1,255]
theorem bW.abe : mY .any (opsOf Try.f121 15) = bW.T15:=by kernel_rfl
theorem bW.WS : qJ bW.T15.2 bW.B15 = true:=by kernel_rfl
set_option maxHeartbeats 8000000 in
set_option maxRecDepth 100000 in
theorem bW.calls (k:Nat) (a0:ByteArray) (a1:Int) (a2:Int) (eT:Int) (iR:Int) (jX:Int) (r1:ByteArray) (r2:ByteArray) (r3:List ByteArray) (r4:Bool) (w:World) (h:bW.f k a0 a1 a2 eT iR jX = some (r1,r2,r3,r4)) :
  Calls Try.prog 121 #[.string a0,.int .i64 a1,.int .i64 a2,.agg #[.int .i64 eT,.int .i64 iR,.int .i64 jX]] w fun e w'=>∃ v2_:Value,e = .returned (.tuple #[.agg #[.string r1,.string r2,v2_],.bool r4]) ∧ Kd.R Kd.string 9 w' w.heap.size (fun _=>True) v2_ r3 ∧ Below w.heap.size w w':=by
 have ahj:=Try.underlying157
 have ahk:=Try.underlying148
 have HB:=aj.mk (Below.refl w.heap.size w)
 have H:(if (eT ≤ (wrap64 (a2 - a1))) then (if 0 ≤ a1 then (if a1 ≤ (wrap64 (a1 + eT)) then (if (wrap64 (a1 + eT)) ≤ (a0.size:Int) then (bW.l0 k a0 (wrap64 (a1 + eT)) a2 iR 0 eT iR jX (a0.extract (a1:Int).toNat ((wrap64 (a1 + eT)):Int).toNat) (⟨#[]⟩:ByteArray) ([]:List ByteArray)) else (none)) else (none)) else (none)) else (some ((⟨#[]⟩:ByteArray),(⟨#[]⟩:ByteArray),([]:List ByteArray),false))) = some (r1,r2,r3,r4):=h
 clear h
 by_cases c5:(eT ≤ (wrap64 (a2 - a1)))
 ·rw [if_pos c5] at H
  have qc:decide (eT ≤ (wrap64 (a2 - a1))) = true:=decide_eq_true c5
  (try (have vT:decide (eT ≤ ((a2 - a1))) = true:=by have h_:decide (eT ≤ (wrap64 (a2 - a1))) = true:=decide_eq_true c5;rw [B.dQ (by omega) (by omega)] at h_;exact h_))
  clear c5
  by_cases c6:0 ≤ a1
  ·rw [if_pos c6] at H
   have Ah:=eq_true c6
   have Od:decide (0 ≤ a1) = true:=decide_eq_true c6
   clear c6
   by_cases c7:a1 ≤ (wrap64 (a1 + eT))
   ·rw [if_pos c7] at H
    have uT:=eq_true c7
    have KO:decide (a1 ≤ (wrap64 (a1 + eT))) = true:=decide_eq_true c7
    by_cases c8:(wrap64 (a1 + eT)) ≤ (a0.size:Int)
    ·rw [if_pos c8] at H
     have su:=eq_true c8
     have sw:decide ((wrap64 (a1 + eT)) ≤ (a0.size:Int)) = true:=decide_eq_true c8
     have H':=aj.mk H
     clear H
     go_enter Try.func121,Try.ntmps121
     go_wp2_with (first | ((with_reducible refine gK (N:=7) rfl ?_);refine fV ?hg (N:=7) ?hd (cs:=#[.int .i64 eT,.int .i64 iR,.int .i64 jX]) (t:=157) ?hr ?_;(case hd=>rfl);(case hg=>rfl);(case hr=>first | (go_simp;done) | (go_simp;rfl));intro fP hg w9 gX hb;have d9:=aj.mk (bE (by repeat (first | (with_reducible first | exact HB.out | apply ak | apply ah | apply au) | exact HB.out)) hb);have ig:=aj.mk (gX);have jh:=aj.mk ((by rw [hg];exact (bL (by repeat (first | (with_reducible first | exact HB.out | apply ak | apply ah | apply au) | exact HB.out))):w.heap.size ≤ fP));have jL:=aj.mk ((by rw [hg];exact (bL (by repeat (first | (with_reducible first | exact HB.out | apply ak | apply ah | apply au) | exact HB.out))):w.heap.size ≤ fP));clear HB;have HB:=d9;have dJ:=ig;have abf:=jh;have iX:=jL;clear d9 ig jh jL;clear hb gX hg) | ((with_reducible refine gK (N:=8) rfl ?_);refine fV ?hg (N:=8) ?hd (cs:=#[.string (⟨#[]⟩:ByteArray),.string (⟨#[]⟩:ByteArray),.slice none 0 0]) (t:=148) ?hr ?_;(case hd=>rfl);(case hg=>rfl);(case hr=>first | (go_simp;done) | (go_simp;rfl));intro dF hg w10 gX hb;have d9:=aj.mk (dO (g:=fP) (o:=.cells #[.int .i64 eT,.int .i64 iR,.int .i64 jX] 157 (0,0)) (by (with_reducible repeat (first | refine aG ?_ _ | refine aI ?_ | refine aA ?_ _));exact dJ.out) hb);have ig:=aj.mk (bE (by repeat (first | (with_reducible first | exact HB.out | apply ak | apply ah | apply au | refine aR ?_ iX.out) | exact HB.out)) hb);have jh:=aj.mk (gX);have jL:=aj.mk ((by rw [hg];exact (bL (by repeat (first | (with_reducible first | exact HB.out | apply ak | apply ah | apply au | refine aR ?_ iX.out) | exact HB.out))):w.heap.size ≤ dF));have qZ:=aj.mk ((by rw [hg];exact (bL (by repeat (first | (with_reducible first | exact HB.out | apply ak | apply ah | apply au | refine aR ?_ iX.out) | exact HB.out))):w.heap.size ≤ dF));have Oz:=aj.mk ((by rw [hg];exact Nat.ne_of_lt (jJ (g:=fP) (o:=.cells #[.int .i64 eT,.int .i64 iR,.int .i64 jX] 157 (0,0)) (by (with_reducible repeat (first | refine aG ?_ _ | refine aI ?_ | refine aA ?_ _));exact dJ.out)):fP ≠ dF));have OA:=aj.mk ((by rw [hg];exact Nat.ne_of_gt (jJ (g:=fP) (o:=.cells #[.int .i64 eT,.int .i64 iR,.int .i64 jX] 157 (0,0)) (by (with_reducible repeat (first | refine aG ?_ _ | refine aI ?_ | refine aA ?_ _));exact dJ.out)):dF ≠ fP));clear dJ;clear HB;have dJ:=d9;have HB:=ig;have dB:=jh;have abg:=jL;have kM:=qZ;have fH:=Oz;have j5:=OA;clear d9 ig jh jL qZ Oz OA;clear hb gX hg) | ((with_reducible refine gK (N:=10) rfl ?_);refine fV ?hg (N:=10) ?hd (cs:=#[.string (⟨#[]⟩:ByteArray),.string (⟨#[]⟩:ByteArray),.slice none 0 0]) (t:=148) ?hr ?_;(case hd=>rfl);(case hg=>rfl);(case hr=>first | (go_simp;done) | (go_simp;rfl));intro fG hg WT gX hb;have d9:=aj.mk (dO (g:=fP) (o:=.cells #[.int .i64 eT,.int .i64 iR,.int .i64 jX] 157 (0,0)) (by (with_reducible repeat (first | refine aG ?_ _ | refine aI ?_ | refine aA ?_ _));exact dJ.out) hb);have ig:=aj.mk (dO (g:=dF) (o:=.cells #[.string (⟨#[]⟩:ByteArray),.string (⟨#[]⟩:ByteArray),.slice none 0 0] 148 (0,0)) (by (with_reducible repeat (first | refine aG ?_ _ | refine aI ?_ | refine aA ?_ _));exact dB.out) hb);have jh:=aj.mk (bE (by repeat (first | (with_reducible first | exact HB.out | apply ak | apply ah | apply au | refine aR ?_ iX.out | refine aR ?_ kM.out) | exact HB.out)) hb);have jL:=aj.mk (gX);have qZ:=aj.mk ((by rw [hg];exact (bL (by repeat (first | (with_reducible first | exact HB.out | apply ak | apply ah | apply au | refine aR ?_ iX.out | refine aR ?_ kM.out) | exact HB.out))):w.heap.size ≤ fG));have Oz:=aj.mk ((by rw [hg];exact (bL (by repeat (first | (with_reducible first | exact HB.out | apply ak | apply ah | apply au | refine aR ?_ iX.out | refine aR ?_ kM.out) | exact HB.out))):w.heap.size ≤ fG));have OA:=aj.mk ((by rw [hg];exact Nat.ne_of_lt (jJ (g:=fP) (o:=.cells #[.int .i64 eT,.int .i64 iR,.int .i64 jX] 157 (0,0)) (by (with_reducible repeat (first | refine aG ?_ _ | refine aI ?_ | refine aA ?_ _));exact dJ.out)):fP ≠ fG));have n7_:=aj.mk ((by rw [hg];exact Nat.ne_of_gt (jJ (g:=fP) (o:=.cells #[.int .i64 eT,.int .i64 iR,.int .i64 jX] 157 (0,0)) (by (with_reducible repeat (first | refine aG ?_ _ | refine aI ?_ | refine aA ?_ _));exact dJ.out)):fG ≠ fP));have n8_:=aj.mk ((by rw [hg];exact Nat.ne_of_lt (jJ (g:=dF) (o:=.cells #[.string (⟨#[]⟩:ByteArray),.string (⟨#[]⟩:ByteArray),.slice none 0 0] 148 (0,0)) (by (with_reducible repeat (first | refine aG ?_ _ | refine aI ?_ | refine aA ?_ _));exact dB.out)):dF ≠ fG));have n9_:=aj.mk ((by rw [hg];exact Nat.ne_of_gt (jJ (g:=dF) (o:=.cells #[.string (⟨#[]⟩:ByteArray),.string (⟨#[]⟩:ByteArray),.slice none 0 0] 148 (0,0)) (by (with_reducible repeat (first | refine aG ?_ _ | refine aI ?_ | refine aA ?_ _));exact dB.out)):fG ≠ dF));clear dJ;clear dB;clear HB;have dJ:=d9;have dB:=ig;have HB:=jh;have dV:=jL;have abh:=qZ;have nT:=Oz;have j6:=OA;have nU:=n7_;have gV:=n8_;have fC:=n9_;clear d9 ig jh jL qZ Oz OA n7_ n8_ n9_;clear hb gX hg;have ahl:=fH.out;have ahm:=j5.out;have ahn:=j6.out;have aho:=nU.out;have Rq:WT.cell? ⟨fP,0,none⟩ = some (.int .i64 eT):=(aM dJ.out 0).trans rfl;have Rt:WT.cell? ⟨fP,1,none⟩ = some (.int .i64 iR):=(aM dJ.out 1).trans rfl;have Ru:WT.cell? ⟨fP,2,none⟩ = some (.int .i64 jX):=(aM dJ.out 2).trans rfl;have Rv:=ay dJ.out 0;have Rw:=ay dJ.out 1;have Rx:=ay dJ.out 2;have ahp:=fC.out;have ahq:=gV.out;have Ry:WT.cell? ⟨fG,0,none⟩ = some (.string (⟨#[]⟩:ByteArray)):=(aM dV.out 0).trans rfl;have Rz:WT.cell? ⟨fG,1,none⟩ = some (.string (⟨#[]⟩:ByteArray)):=(aM dV.out 1).trans rfl;have RA:WT.cell? ⟨fG,2,none⟩ = some (.slice none 0 0):=(aM dV.out 2).trans rfl;have RB:=ay dV.out 0;have RD:=ay dV.out 1;have RF:=ay dV.out 2))
     go_loopg [1,38] k (fun kq v1 v38 w'=>∃ (dU:Int) (uV:Int) (gI:ByteArray) (fI:ByteArray) (iw:List ByteArray) (iT:Value),v1 = .int .i64 dU ∧ v38 = .int .i64 uV ∧ aj (bW.l0 kq a0 dU a2 iR uV eT iR jX (a0.extract (a1:Int).toNat ((wrap64 (a1 + eT)):Int).toNat) (⟨#[]⟩:ByteArray) iw = some (r1,r2,r3,r4)) ∧ aj (kq ≤ k) ∧ aj (Kd.R Kd.string 9 w' w.heap.size (fun _=>True) iT iw) ∧ aj (w'.heap[fP]? = some (.cells #[.int .i64 eT,.int .i64 iR,.int .i64 jX] 157 (0,0))) ∧ aj (w'.heap[dF]? = some (.cells #[.string gI,.string fI,(.slice none 0 0)] 148 (0,0))) ∧ aj (w'.heap[fG]? = some (.cells #[.string (a0.extract (a1:Int).toNat ((wrap64 (a1 + eT)):Int).toNat),.string (⟨#[]⟩:ByteArray),iT] 148 (0,0))) ∧ aj (Below w.heap.size w w'))
     case atStart=>exact ⟨(wrap64 (a1 + eT)),(0),((⟨#[]⟩:ByteArray)),((⟨#[]⟩:ByteArray)),(([]:List ByteArray)),(.slice none 0 0),(by first | rfl | (simp;done) | (simp [*];done) | (simp [B.aV];done) | (simp [B.aW];done)),(by first | rfl | (simp;done) | (simp [*];done) | (simp [B.aV];done) | (simp [B.aW];done)),H',⟨Nat.le_refl _⟩,⟨by first | exact Kd.jF _ _ _ _ _ | exact Kd.lI _ _ _ _ _ | exact Kd.lJ _ _ _ _ _ | exact Kd.lG _ _ _ _ _ | exact Kd.lH _ _ _ _ _⟩,⟨by (with_reducible repeat (first | refine aG ?_ _ | refine aI ?_ | refine aA ?_ _));refine oC ?_ j6.out _;(with_reducible repeat (first | refine aG ?_ _ | refine aI ?_ | refine aA ?_ _));exact dJ.out⟩,⟨by (with_reducible repeat (first | refine aG ?_ _ | refine aI ?_ | refine aA ?_ _));refine oC ?_ gV.out _;(with_reducible repeat (first | refine aG ?_ _ | refine aI ?_ | refine aA ?_ _));exact dB.out⟩,⟨by (with_reducible repeat (first | refine aG ?_ _ | refine aI ?_ | refine aA ?_ _));refine bV (cs:=#[.string (⟨#[]⟩:ByteArray),.string (⟨#[]⟩:ByteArray),.slice none 0 0]) ?_ 0 _ rfl;(with_reducible repeat (first | refine aG ?_ _ | refine aI ?_ | refine aA ?_ _));exact dV.out⟩,⟨by repeat (first | (with_reducible first | exact HB.out | apply ak | apply ah | apply au | refine aR ?_ iX.out | refine aR ?_ kM.out | refine aR ?_ nT.out) | exact HB.out)⟩⟩
     case round =>
      clear H'
      try clear c1
      try clear p2
      try clear c5
      try clear qc
      try clear vT
      try clear c6
      try clear Ah
      try clear Od
      try clear p6
      try clear c7
      try clear uT
      try clear KO
      try clear c8
      try clear su
      try clear sw
      try clear c12
      try clear c13
      try clear c15
      try clear Rq
      try clear Rt
      try clear Ru
      try clear Ry
      try clear Rz
      try clear RA
      try clear Rv
      try clear Rw
      try clear Rx
      try clear RB
      try clear RD
      try clear RF
      obtain ⟨dU,uV,gI,fI,iw,iT,rfl,rfl,HA,uM,dP,dJ,dB,dV,HB⟩:=hrel
      cases gk with
      | zero=>exact absurd HA.out (by simp [bW.l0])
      | succ k1 =>
       have H:=HA.out
       clear HA
       simp only [bW.l0] at H
       by_cases c17:uV < iR
       ·rw [if_pos c17] at H
        have Ul:decide (uV < iR) = true:=decide_eq_true c17
        clear c17
        replace H:=zbm H
        obtain ⟨⟨Hu,Aj,t127⟩,Ow,H⟩:=H
        replace H:(if t127 = 0 then (if Aj > a2 then (some ((⟨#[]⟩:ByteArray),(⟨#[]⟩:ByteArray),([]:List ByteArray),false)) else (if iw.length < 8796093022208 then (bW.l0 k1 a0 Aj a2 iR (wrap64 (uV + 1)) eT iR jX (a0.extract (a1:Int).toNat ((wrap64 (a1 + eT)):Int).toNat) (⟨#[]⟩:ByteArray) (iw ++ [Hu])) else (none))) else (some ((⟨#[]⟩:ByteArray),(⟨#[]⟩:ByteArray),([]:List ByteArray),false))) = some (r1,r2,r3,r4):=H
        have WQ:=aj.mk Ow
        clear Ow
        by_cases c19:t127 = 0
        ·rw [if_pos c19] at H
         have abj:(t127 == 0) = true:=beq_iff_eq.mpr c19
         have abk:(t127 != 0) = false:=bne_eq_false_iff_eq.mpr c19
         clear c19
         by_cases c20:Aj > a2
         ·rw [if_pos c20] at H
          have Ox:decide (a2 < Aj) = true:=decide_eq_true c20
          clear c20
          simp only [Option.some.injEq,Prod.mk.injEq] at H
          obtain ⟨rfl,rfl,rfl,rfl⟩:=H
          go_wp2_with (first | ((with_reducible refine aQ (f:=125) rfl ?_);refine bQ (some 43) rfl rfl Try.func125 (by kernel_rfl) rfl #[.string a0,.int .i64 dU] rfl (by (try simp only [List.map_toArray,List.map_cons,List.map_nil]);first | done | rfl | (simp only [List.length_drop,List.length_take];rfl) | (simp only [ByteArray.size_append,Int.natCast_add];rfl) | (rw [B.dQ] <;> first | rfl | omega | (simp only [decide_eq_false_iff_not,decide_eq_true_eq,Int.not_lt,Nat.not_lt,gt_iff_lt] at * <;> omega))) ?_;(with_reducible refine (bF.calls k1 a0 dU Hu Aj t127 _ WQ.out).mono ?_);rintro e w21 ⟨rfl,hb⟩;refine ⟨_,rfl,?_⟩;have d9:=aj.mk (Kd.kF (by (with_reducible repeat (first | apply Kd.fA | apply Kd.fK | apply Kd.fZ));exact dP.out) hb);have ig:=aj.mk (dO (g:=fP) (o:=.cells #[.int .i64 eT,.int .i64 iR,.int .i64 jX] 157 (0,0)) (by (with_reducible repeat (first | refine aG ?_ _ | refine aI ?_ | refine aA ?_ _));exact dJ.out) hb);have jh:=aj.mk (dO (g:=dF) (o:=.cells #[.string gI,.string fI,.slice none 0 0] 148 (0,0)) (by (with_reducible repeat (first | refine aG ?_ _ | refine aI ?_ | refine aA ?_ _));exact dB.out) hb);have jL:=aj.mk (dO (g:=fG) (o:=.cells #[.string (a0.extract (a1:Int).toNat ((wrap64 (a1 + eT)):Int).toNat),.string (⟨#[]⟩:ByteArray),iT] 148 (0,0)) (by (with_reducible repeat (first | refine aG ?_ _ | refine aI ?_ | refine aA ?_ _));exact dV.out) hb);have qZ:=aj.mk (bE (by repeat (first | (with_reducible first | exact HB.out | apply ak | apply ah | apply au | refine aR ?_ iX.out | refine aR ?_ kM.out | refine aR ?_ nT.out) | exact HB.out)) hb);clear dP;clear dJ;clear dB;clear dV;clear HB;have dP:=d9;have dJ:=ig;have dB:=jh;have dV:=jL;have HB:=qZ;clear d9 ig jh jL qZ;(try clear hb);(try clear hb2);(try clear hk);(try clear hi);have ahr:=j5.out;have ahs:=fH.out;have aht:=gV.out;have ahu:=fC.out;have adf:w21.cell? ⟨dF,0,none⟩ = some (.string gI):=(aM dB.out 0).trans rfl;have adg:w21.cell? ⟨dF,1,none⟩ = some (.string fI):=(aM dB.out 1).trans rfl;have adh:w21.cell? ⟨dF,2,none⟩ = some (.slice none 0 0):=(aM dB.out 2).trans rfl;have adi:=ay dB.out 0;have adj:=ay dB.out 1;have adk:=ay dB.out 2))
          refine bodyPost_ret (jW rfl _ _ dF 148 #[.string (⟨#[]⟩:ByteArray),.string (⟨#[]⟩:ByteArray),.slice none 0 0] (0,0) _ rfl (by (with_reducible repeat (first | refine aG ?_ _ | refine aI ?_ | refine aA ?_ _));refine bV (cs:=#[.string (⟨#[]⟩:ByteArray),.string (⟨#[]⟩:ByteArray),.slice none 0 0]) ?_ 2 _ rfl;(with_reducible repeat (first | refine aG ?_ _ | refine aI ?_ | refine aA ?_ _));refine bV (cs:=#[.string (⟨#[]⟩:ByteArray),.string fI,.slice none 0 0]) ?_ 1 _ rfl;(with_reducible repeat (first | refine aG ?_ _ | refine aI ?_ | refine aA ?_ _));refine bV (cs:=#[.string gI,.string fI,.slice none 0 0]) ?_ 0 _ rfl;(with_reducible repeat (first | refine aG ?_ _ | refine aI ?_ | refine aA ?_ _));exact dB.out) Try.underlying148 rfl (by kernel_rfl)) rfl ?_
          exact ⟨_,by first | rfl | (simp [aJ,aK] <;> rfl) | (simp [*,aJ,aK] <;> rfl),by first | exact Kd.jF _ _ _ _ _ | exact Kd.lI _ _ _ _ _ | exact Kd.lJ _ _ _ _ _ | exact Kd.lG _ _ _ _ _ | exact Kd.lH _ _ _ _ _,by repeat (first | (with_reducible first | exact HB.out | apply ak | apply ah | apply au | refine aR ?_ iX.out | refine aR ?_ kM.out | refine aR ?_ nT.out) | exact HB.out)⟩
         ·rw [if_neg c20] at H
          have Ox:decide (a2 < Aj) = false:=decide_eq_false c20
          clear c20
          by_cases c25:iw.length < 8796093022208
          ·rw [if_pos c25] at H
           have abl:=aj.mk c25
           clear c25
           obtain ⟨RG,hy128⟩:∃ y_:List ByteArray,y_ = (iw ++ [Hu]):=⟨_,rfl⟩
           replace H:(bW.l0 k1 a0 Aj a2 iR (wrap64 (uV + 1)) eT iR jX (a0.extract (a1:Int).toNat ((wrap64 (a1 + eT)):Int).toNat) (⟨#[]⟩:ByteArray) RG) = some (r1,r2,r3,r4):=by first | (rw [hy128];with_reducible exact H) | (have Hg:=(Option.bind_some _ _).symm.trans H;rw [hy128];with_reducible exact Hg) | (have Hg:=(Option.bind_some _ _).symm.trans H;with_reducible exact Hg) | with_reducible exact H | (rw [hy128];exact H) | exact H
           have abm:=aj.mk hy128
           clear hy128
           have H':=aj.mk H
           clear H
           go_wp2_with (first | ((with_reducible refine aQ (f:=125) rfl ?_);refine bQ (some 43) rfl rfl Try.func125 (by kernel_rfl) rfl #[.string a0,.int .i64 dU] rfl (by (try simp only [List.map_toArray,List.map_cons,List.map_nil]);first | done | rfl | (simp only [List.length_drop,List.length_take];rfl) | (simp only [ByteArray.size_append,Int.natCast_add];rfl) | (rw [B.dQ] <;> first | rfl | omega | (simp only [decide_eq_false_iff_not,decide_eq_true_eq,Int.not_lt,Nat.not_lt,gt_iff_lt] at * <;> omega))) ?_;(with_reducible refine (bF.calls k1 a0 dU Hu Aj t127 _ WQ.out).mono ?_);rintro e w26 ⟨rfl,hb⟩;refine ⟨_,rfl,?_⟩;have d9:=aj.mk (Kd.kF (by (with_reducible repeat (first | apply Kd.fA | apply Kd.fK | apply Kd.fZ));exact dP.out) hb);have ig:=aj.mk (dO (g:=fP) (o:=.cells #[.int .i64 eT,.int .i64 iR,.int .i64 jX] 157 (0,0)) (by (with_reducible repeat (first | refine aG ?_ _ | refine aI ?_ | refine aA ?_ _));exact dJ.out) hb);have jh:=aj.mk (dO (g:=dF) (o:=.cells #[.string gI,.string fI,.slice none 0 0] 148 (0,0)) (by (with_reducible repeat (first | refine aG ?_ _ | refine aI ?_ | refine aA ?_ _));exact dB.out) hb);have jL:=aj.mk (dO (g:=fG) (o:=.cells #[.string (a0.extract (a1:Int).toNat ((wrap64 (a1 + eT)):Int).toNat),.string (⟨#[]⟩:ByteArray),iT] 148 (0,0)) (by (with_reducible repeat (first | refine aG ?_ _ | refine aI ?_ | refine aA ?_ _));exact dV.out) hb);have qZ:=aj.mk (bE (by repeat (first | (with_reducible first | exact HB.out | apply ak | apply ah | apply au | refine aR ?_ iX.out | refine aR ?_ kM.out | refine aR ?_ nT.out) | exact HB.out)) hb);clear dP;clear dJ;clear dB;clear dV;clear HB;have dP:=d9;have dJ:=ig;have dB:=jh;have dV:=jL;have HB:=qZ;clear d9 ig jh jL qZ;(try clear hb);(try clear hb2);(try clear hk);(try clear hi);have ahv:=nU.out;have ahw:=j6.out;have ahx:=fC.out;have ahy:=gV.out;have adl:w26.cell? ⟨fG,0,none⟩ = some (.string (a0.extract (a1:Int).toNat ((wrap64 (a1 + eT)):Int).toNat)):=(aM dV.out 0).trans rfl;have adn:w26.cell? ⟨fG,1,none⟩ = some (.string (⟨#[]⟩:ByteArray)):=(aM dV.out 1).trans rfl;have ado:w26.cell? ⟨fG,2,none⟩ = some (iT):=(aM dV.out 2).trans rfl;have adp:=ay dV.out 0;have adq:=ay dV.out 1;have adr:=ay dV.out 2) | ((with_reducible refine oD (b:=.append) (xs:=#[.tmp 56,.tmp 58]) rfl ?_);at_builtin;refine Kd.y8 Kd.string (w0:=w) w.heap.size rfl (.tmp 56) (.tmp 58) 33 9 (.string ⟨#[]⟩) 16 rfl Try.underlying33 Jd rfl (by decide) (by omega) iT iw Hu [.string Hu] (fun _=>True) (fun _=>False) rfl rfl ?aP (fun _ hk=>hk.elim) ?aF ?aO ?aB ?aS ?aL ?_;(case aP=>exact rfl);(case aB=>exact (by repeat (first | (with_reducible first | exact HB.out | apply ak | apply ah | apply au | refine aR ?_ iX.out | refine aR ?_ kM.out | refine aR ?_ nT.out) | exact HB.out)));(case aF=>exact (fun _ _=>trivial));(case aO=>exact (by (with_reducible repeat (first | apply Kd.fA | apply Kd.fK | apply Kd.fZ));exact dP.out));(case aS=>exact (bL (by repeat (first | (with_reducible first | exact HB.out | apply ak | apply ah | apply au | refine aR ?_ iX.out | refine aR ?_ kM.out | refine aR ?_ nT.out) | exact HB.out))));(case aL=>have:=abl.out;omega);intro aiw w30 ho hb hg hat;rw [← abm.out] at ho;have d9:=aj.mk (qD (g:=fP) (o:=.cells #[.int .i64 eT,.int .i64 iR,.int .i64 jX] 157 (0,0)) (by (with_reducible repeat (first | refine aG ?_ _ | refine aI ?_ | refine aA ?_ _));exact dJ.out) hg (Kd.Q6 dP.out dJ.out (by decide)));have ig:=aj.mk (qD (g:=dF) (o:=.cells #[.string gI,.string fI,.slice none 0 0] 148 (0,0)) (by (with_reducible repeat (first | refine aG ?_ _ | refine aI ?_ | refine aA ?_ _));exact dB.out) hg (Kd.Q6 dP.out dB.out (by decide)));have jh:=aj.mk (qD (g:=fG) (o:=.cells #[.string (a0.extract (a1:Int).toNat ((wrap64 (a1 + eT)):Int).toNat),.string (⟨#[]⟩:ByteArray),iT] 148 (0,0)) (by (with_reducible repeat (first | refine aG ?_ _ | refine aI ?_ | refine aA ?_ _));exact dV.out) hg (Kd.Q6 dP.out dV.out (by decide)));have jL:=aj.mk (hb);have qZ:=aj.mk (ho);clear dJ;clear dB;clear dV;clear HB;clear dP;have dJ:=d9;have dB:=ig;have dV:=jh;have HB:=jL;have Um:=qZ;clear d9 ig jh jL qZ;clear ho hb hg hat;obtain ⟨abn,abo,af2⟩:=Kd.xD Um.out;subst af2;have Jp:w30.cell? ⟨fG,0,none⟩ = some (.string (a0.extract (a1:Int).toNat ((wrap64 (a1 + eT)):Int).toNat)):=(aM dV.out 0).trans rfl;have Jq:w30.cell? ⟨fG,1,none⟩ = some (.string (⟨#[]⟩:ByteArray)):=(aM dV.out 1).trans rfl;have Jr:w30.cell? ⟨fG,2,none⟩ = some (iT):=(aM dV.out 2).trans rfl;have Js:=ay dV.out 0;have Jt:=ay dV.out 1;have Ju:=ay dV.out 2))
           go_roundg k1
           case measure=>have:=uM.out;omega
           case rel=>exact ⟨(Aj),(wrap64 (uV + 1)),(gI),(fI),(RG),(.slice abn RG.length abo),(by first | rfl | (simp;done) | (simp [*];done) | (simp [B.aV];done) | (simp [B.aW];done)),(by first | rfl | (simp;done) | (simp [*];done) | (simp [B.aV];done) | (simp [B.aW];done)),H',⟨by have:=uM.out;omega⟩,⟨by (with_reducible repeat (first | apply Kd.fA | apply Kd.fK | apply Kd.fZ));exact Kd.pX (Kd.uF (p:=⟨fG,2,none⟩) (Kd.uG Um.out dV.out (by decide)) (fun _ hk=>hk.2) (.slice abn RG.length abo)) (fun _ hk=>trivial)⟩,⟨by (with_reducible repeat (first | refine aG ?_ _ | refine aI ?_ | refine aA ?_ _));refine oC ?_ j6.out _;(with_reducible repeat (first | refine aG ?_ _ | refine aI ?_ | refine aA ?_ _));exact dJ.out⟩,⟨by (with_reducible repeat (first | refine aG ?_ _ | refine aI ?_ | refine aA ?_ _));refine oC ?_ gV.out _;(with_reducible repeat (first | refine aG ?_ _ | refine aI ?_ | refine aA ?_ _));exact dB.out⟩,⟨by (with_reducible repeat (first | refine aG ?_ _ | refine aI ?_ | refine aA ?_ _));refine bV (cs:=#[.string (a0.extract (a1:Int).toNat ((wrap64 (a1 + eT)):Int).toNat),.string (⟨#[]⟩:ByteArray),iT]) ?_ 2 _ rfl;(with_reducible repeat (first | refine aG ?_ _ | refine aI ?_ | refine aA ?_ _));exact dV.out⟩,⟨by repeat (first | (with_reducible first | exact HB.out | apply ak | apply ah | apply au | refine aR ?_ iX.out | refine aR ?_ kM.out | refine aR ?_ nT.out) | exact HB.out)⟩⟩
          ·rw [if_neg c25] at H
           exact absurd H (by simp)
        ·rw [if_neg c19] at H
         have abj:(t127 == 0) = false:=beq_eq_false_iff_ne.mpr c19
         have abk:(t127 != 0) = true:=bne_iff_ne.mpr c19
         simp only [Option.some.injEq,Prod.mk.injEq] at H
         obtain ⟨rfl,rfl,rfl,rfl⟩:=H
         go_wp2_with (first | ((with_reducible refine aQ (f:=125) rfl ?_);refine bQ (some 43) rfl rfl Try.func125 (by kernel_rfl) rfl #[.string a0,.int .i64 dU] rfl (by (try simp only [List.map_toArray,List.map_cons,List.map_nil]);first | done | rfl | (simp only [List.length_drop,List.length_take];rfl) | (simp only [ByteArray.size_append,Int.natCast_add];rfl) | (rw [B.dQ] <;> first | rfl | omega | (simp only [decide_eq_false_iff_not,decide_eq_true_eq,Int.not_lt,Nat.not_lt,gt_iff_lt] at * <;> omega))) ?_;(with_reducible refine (bF.calls k1 a0 dU Hu Aj t127 _ WQ.out).mono ?_);rintro e w33 ⟨rfl,hb⟩;refine ⟨_,rfl,?_⟩;have d9:=aj.mk (Kd.kF (by (with_reducible repeat (first | apply Kd.fA | apply Kd.fK | apply Kd.fZ));exact dP.out) hb);have ig:=aj.mk (dO (g:=fP) (o:=.cells #[.int .i64 eT,.int .i64 iR,.int .i64 jX] 157 (0,0)) (by (with_reducible repeat (first | refine aG ?_ _ | refine aI ?_ | refine aA ?_ _));exact dJ.out) hb);have jh:=aj.mk (dO (g:=dF) (o:=.cells #[.string gI,.string fI,.slice none 0 0] 148 (0,0)) (by (with_reducible repeat (first | refine aG ?_ _ | refine aI ?_ | refine aA ?_ _));exact dB.out) hb);have jL:=aj.mk (dO (g:=fG) (o:=.cells #[.string (a0.extract (a1:Int).toNat ((wrap64 (a1 + eT)):Int).toNat),.string (⟨#[]⟩:ByteArray),iT] 148 (0,0)) (by (with_reducible repeat (first | refine aG ?_ _ | refine aI ?_ | refine aA ?_ _));exact dV.out) hb);have qZ:=aj.mk (bE (by repeat (first | (with_reducible first | exact HB.out | apply ak | apply ah | apply au | refine aR ?_ iX.out | refine aR ?_ kM.out | refine aR ?_ nT.out) | exact HB.out)) hb);clear dP;clear dJ;clear dB;clear dV;clear HB;have dP:=d9;have dJ:=ig;have dB:=jh;have dV:=jL;have HB:=qZ;clear d9 ig jh jL qZ;(try clear hb);(try clear hb2);(try clear hk);(try clear hi);have ahz:=j5.out;have ahA:=fH.out;have ahB:=gV.out;have ahC:=fC.out;have ads:w33.cell? ⟨dF,0,none⟩ = some (.string gI):=(aM dB.out 0).trans rfl;have adt:w33.cell? ⟨dF,1,none⟩ = some (.string fI):=(aM dB.out 1).trans rfl;have adu:w33.cell? ⟨dF,2,none⟩ = some (.slice none 0 0):=(aM dB.out 2).trans rfl;have adv:=ay dB.out 0;have adw:=ay dB.out 1;have adx:=ay dB.out 2))
         refine bodyPost_ret (jW rfl _ _ dF 148 #[.string (⟨#[]⟩:ByteArray),.string (⟨#[]⟩:ByteArray),.slice none 0 0] (0,0) _ rfl (by (with_reducible repeat (first | refine aG ?_ _ | refine aI ?_ | refine aA ?_ _));refine bV (cs:=#[.string (⟨#[]⟩:ByteArray),.string (⟨#[]⟩:ByteArray),.slice none 0 0]) ?_ 2 _ rfl;(with_reducible repeat (first | refine aG ?_ _ | refine aI ?_ | refine aA ?_ _));refine bV (cs:=#[.string (⟨#[]⟩:ByteArray),.string fI,.slice none 0 0]) ?_ 1 _ rfl;(with_reducible repeat (first | refine aG ?_ _ | refine aI ?_ | refine aA ?_ _));refine bV (cs:=#[.string gI,.string fI,.slice none 0 0]) ?_ 0 _ rfl;(with_reducible repeat (first | refine aG ?_ _ | refine aI ?_ | refine aA ?_ _));exact dB.out) Try.underlying148 rfl (by kernel_rfl)) rfl ?_
         exact ⟨_,by first | rfl | (simp [aJ,aK] <;> rfl) | (simp [*,aJ,aK] <;> rfl),by first | exact Kd.jF _ _ _ _ _ | exact Kd.lI _ _ _ _ _ | exact Kd.lJ _ _ _ _ _ | exact Kd.lG _ _ _ _ _ | exact Kd.lH _ _ _ _ _,by repeat (first | (with_reducible first | exact HB.out | apply ak | apply ah | apply au | refine aR ?_ iX.out | refine aR ?_ kM.out | refine aR ?_ nT.out) | exact HB.out)⟩
       ·rw [if_neg c17] at H
        have Ul:decide (uV < iR) = false:=decide_eq_false c17
        clear c17
        by_cases c37:0 ≤ dU
        ·rw [if_pos c37] at H
         have ahD:=eq_true c37
         have ahE:decide (0 ≤ dU) = true:=decide_eq_true c37
         clear c37
         by_cases EF:dU ≤ a2
         ·rw [if_pos EF] at H
          have Un:=eq_true EF
          have ahF:decide (dU ≤ a2) = true:=decide_eq_true EF
          clear EF
          by_cases O5:a2 ≤ (a0.size:Int)
          ·rw [if_pos O5] at H
           have ahG:=eq_true O5
           have ahH:decide (a2 ≤ (a0.size:Int)) = true:=decide_eq_true O5
           clear O5
           simp only [Option.some.injEq,Prod.mk.injEq] at H
           obtain ⟨rfl,rfl,rfl,rfl⟩:=H
           have ahI:=nU.out
           have ahJ:=j6.out
           have ahK:=fC.out
           have ahL:=gV.out
           have RH:wr.cell? ⟨fG,0,none⟩ = some (.string (a0.extract (a1:Int).toNat ((wrap64 (a1 + eT)):Int).toNat)):=(aM dV.out 0).trans rfl
           have RI:wr.cell? ⟨fG,1,none⟩ = some (.string (⟨#[]⟩:ByteArray)):=(aM dV.out 1).trans rfl
           have RJ:wr.cell? ⟨fG,2,none⟩ = some (iT):=(aM dV.out 2).trans rfl
           have RL:=ay dV.out 0
           have RN:=ay dV.out 1
           have RO:=ay dV.out 2
           try go_wp2
           have d9:aj (Kd.R Kd.string 9 (wr.setCell ⟨fG,1,none⟩ (.string (a0.extract (dU:Int).toNat (a2:Int).toNat))) w.heap.size (fun _=>True) iT iw):=⟨by (with_reducible repeat (first | apply Kd.fA | apply Kd.fK | apply Kd.fZ));exact Kd.pX (Kd.uF (p:=⟨fG,1,none⟩) (Kd.uG dP.out dV.out (by decide)) (fun _ hk=>hk.2) (.string (a0.extract (dU:Int).toNat (a2:Int).toNat))) (fun _ hk=>trivial)⟩
           have ig:aj ((wr.setCell ⟨fG,1,none⟩ (.string (a0.extract (dU:Int).toNat (a2:Int).toNat))).heap[fP]? = some (.cells #[.int .i64 eT,.int .i64 iR,.int .i64 jX] 157 (0,0))):=⟨by (with_reducible repeat (first | refine aG ?_ _ | refine aI ?_ | refine aA ?_ _));refine oC ?_ j6.out _;(with_reducible repeat (first | refine aG ?_ _ | refine aI ?_ | refine aA ?_ _));exact dJ.out⟩
           have jh:aj ((wr.setCell ⟨fG,1,none⟩ (.string (a0.extract (dU:Int).toNat (a2:Int).toNat))).heap[dF]? = some (.cells #[.string gI,.string fI,.slice none 0 0] 148 (0,0))):=⟨by (with_reducible repeat (first | refine aG ?_ _ | refine aI ?_ | refine aA ?_ _));refine oC ?_ gV.out _;(with_reducible repeat (first | refine aG ?_ _ | refine aI ?_ | refine aA ?_ _));exact dB.out⟩
           have jL:aj ((wr.setCell ⟨fG,1,none⟩ (.string (a0.extract (dU:Int).toNat (a2:Int).toNat))).heap[fG]? = some (.cells #[.string (a0.extract (a1:Int).toNat ((wrap64 (a1 + eT)):Int).toNat),.string (a0.extract (dU:Int).toNat (a2:Int).toNat),iT] 148 (0,0))):=⟨by (with_reducible repeat (first | refine aG ?_ _ | refine aI ?_ | refine aA ?_ _));refine bV (cs:=#[.string (a0.extract (a1:Int).toNat ((wrap64 (a1 + eT)):Int).toNat),.string (⟨#[]⟩:ByteArray),iT]) ?_ 1 _ rfl;(with_reducible repeat (first | refine aG ?_ _ | refine aI ?_ | refine aA ?_ _));exact dV.out⟩
           have qZ:aj (Below w.heap.size w (wr.setCell ⟨fG,1,none⟩ (.string (a0.extract (dU:Int).toNat (a2:Int).toNat)))):=⟨by repeat (first | (with_reducible first | exact HB.out | apply ak | apply ah | apply au | refine aR ?_ iX.out | refine aR ?_ kM.out | refine aR ?_ nT.out) | exact HB.out)⟩
           (try clear dP)
           (try clear dJ)
           (try clear dB)
           (try clear dV)
           (try clear HB)
           generalize (wr.setCell ⟨fG,1,none⟩ (.string (a0.extract (dU:Int).toNat (a2:Int).toNat))) = w43 at d9 ig jh jL qZ ⊢
           have dP:=d9
           have dJ:=ig
           have dB:=jh
           have dV:=jL
           have HB:=qZ
           clear d9 ig jh jL qZ
           have d9:=aj.mk (Kd.fZ dP.out)
           have ig:=aj.mk (aI dJ.out)
           have jh:=aj.mk (aI dB.out)
           have jL:=aj.mk (aI dV.out)
           have qZ:=aj.mk (au HB.out)
           clear dP
           clear dJ
           clear dB
           clear dV
           clear HB
           have dP:=d9
           have dJ:=ig
           have dB:=jh
           have dV:=jL
           have HB:=qZ
           clear d9 ig jh jL qZ
           obtain ⟨WU,WV,abp⟩:=Kd.xD dP.out
           (first | subst abp | (injection abp with f1_ f2_ f3_;have f4_:=f1_.symm;have f5_:=f3_.symm;clear f1_ f2_ f3_;subst f4_;subst f5_))
           refine NU (n:=9) (S:=fun w'=>w'.cell? ⟨fG,0,none⟩ = some (.string (a0.extract (a1:Int).toNat ((wrap64 (a1 + eT)):Int).toNat)) ∧ w'.cell? ⟨fG,1,none⟩ = some (.string (a0.extract (dU:Int).toNat (a2:Int).toNat)) ∧ w'.cell? ⟨fG,2,none⟩ = some (.slice WU iw.length WV) ∧ w'.cell? ⟨fP,0,none⟩ = some (.int .i64 eT) ∧ w'.cell? ⟨fP,1,none⟩ = some (.int .i64 iR) ∧ w'.cell? ⟨fP,2,none⟩ = some (.int .i64 jX)) (ds:=[]) #[false,false,false,false,false,false,false,false,false] (by kernel_rfl) rfl rfl ⟨(aM dV.out 0).trans rfl,(aM dV.out 1).trans rfl,(aM dV.out 2).trans rfl,(aM dJ.out 0).trans rfl,(aM dJ.out 1).trans rfl,(aM dJ.out 2).trans rfl⟩ (fun hHeld=>?_);refine Bw bW.abe bW.WS (fun wV HW_=>?_)
           generalize w43.drew = w44 at dP dJ dB dV HB hHeld ⊢
           refine lX (i:=1) (N:=some 69) (v:=?_) (a':=?_) #[false,true,false,false,false,false,false,false,false] rfl rfl (jK wV.out (by kernel_rfl)) (fun _ _ _ h=>h) (Or.inl ⟨by rfl,?_⟩) ?_ ?_
           rotate_left
           ·intro w'
            go_simp
            with_reducible rfl
           rotate_left
           ·simp only [Act.put,List.setIfInBounds_toArray,List.set_cons_zero,List.set_cons_succ,gT,iC]
            rfl
           refine lX (i:=4) (N:=some 72) (v:=?_) (a':=?_) #[false,true,false,false,true,false,false,false,false] rfl rfl (jK wV.out (by kernel_rfl)) (fun _ _ _ h=>h) (Or.inl ⟨by rfl,?_⟩) ?_ ?_
           rotate_left
           ·intro w'
            go_simp
            with_reducible rfl
           rotate_left
           ·simp only [Act.put,List.setIfInBounds_toArray,List.set_cons_zero,List.set_cons_succ,gT,iC]
            rfl
           refine Fu (i:=0) (N:=some 68) (v:=?_) (a':=?_) #[true,true,false,false,true,false,false,false,false] rfl rfl (zu wV.out HW_.out (by kernel_rfl)) (fun _ _ _ h=>h) (Or.inl ⟨by rfl,?_⟩) hHeld ?_ ?_
           rotate_left
           ·rintro w' ⟨s0,s1,s2,s3,s4,s5⟩
            go_simp
            with_reducible rfl
           rotate_left
           ·simp only [Act.put,List.setIfInBounds_toArray,List.set_cons_zero,List.set_cons_succ,gT,iC]
            rfl
           refine Fu (i:=2) (N:=some 70) (v:=?_) (a':=?_) #[true,true,true,false,true,false,false,false,false] rfl rfl (zu wV.out HW_.out (by kernel_rfl)) (fun _ _ _ h=>h) (Or.inl ⟨by rfl,?_⟩) hHeld ?_ ?_
           rotate_left
           ·rintro w' ⟨s0,s1,s2,s3,s4,s5⟩
            go_simp
            with_reducible rfl
           rotate_left
           ·simp only [Act.put,List.setIfInBounds_toArray,List.set_cons_zero,List.set_cons_succ,gT,iC]
            rfl
           refine lX (i:=3) (N:=some 71) (v:=?_) (a':=?_) #[true,true,true,true,true,false,false,false,false] rfl rfl (jK wV.out (by kernel_rfl)) (fun _ _ _ h=>h) (Or.inl ⟨by rfl,?_⟩) ?_ ?_
           rotate_left
           ·intro w'
            go_simp
            with_reducible rfl
           rotate_left
           ·simp only [Act.put,List.setIfInBounds_toArray,List.set_cons_zero,List.set_cons_succ,gT,iC]
            rfl
           refine Fu (i:=5) (N:=some 73) (v:=?_) (a':=?_) #[true,true,true,true,true,true,false,false,false] rfl rfl (zu wV.out HW_.out (by kernel_rfl)) (fun _ _ _ h=>h) (Or.inl ⟨by rfl,?_⟩) hHeld ?_ ?_
           rotate_left
           ·rintro w' ⟨s0,s1,s2,s3,s4,s5⟩
            go_simp
            with_reducible rfl
           rotate_left
           ·simp only [Act.put,List.setIfInBounds_toArray,List.set_cons_zero,List.set_cons_succ,gT,iC]
            rfl
           refine lX (i:=6) (N:=some 74) (v:=?_) (a':=?_) #[true,true,true,true,true,true,true,false,false] rfl rfl (jK wV.out (by kernel_rfl)) (fun _ _ _ h=>h) (Or.inl ⟨by rfl,?_⟩) ?_ ?_
           rotate_left
           ·intro w'
            go_simp
            with_reducible rfl
           rotate_left
           ·simp only [Act.put,List.setIfInBounds_toArray,List.set_cons_zero,List.set_cons_succ,gT,iC]
            rfl
           refine WA (i:=7) (N:=none) #[true,true,true,true,true,true,true,true,false] rfl rfl (Hf wV.out (by kernel_rfl)) (by decide) (fun K hK=>?_)
           have aix:w44.cell? ⟨dF,0,none⟩ = some (.string gI):=(aM dB.out 0).trans rfl
           have ahM:=ay dB.out 0
           have ady:=fH.out
           have adz:=fC.out
           have adA:=j5.out
           have adB:=gV.out
           have aiy:w44.cell? ⟨dF,1,none⟩ = some (.string fI):=(aM dB.out 1).trans rfl
           have ahN:=ay dB.out 1
           have adC:=fH.out
           have adD:=fC.out
           have adE:=j5.out
           have adF:=gV.out
           have aiz:w44.cell? ⟨dF,2,none⟩ = some (.slice none 0 0):=(aM dB.out 2).trans rfl
           have ahO:=ay dB.out 2
           have adG:=fH.out
           have adH:=fC.out
           have adI:=j5.out
           have adJ:=gV.out
           refine aaz (w1:=?_) (by rfl) rfl ?_ ?_
           rotate_left
           ·go_simp
            rfl
           refine hK.out _ _ ⟨((cell_far (p:=⟨dF,_,none⟩) fC.out _).trans (((cell_far (p:=⟨dF,_,none⟩) fC.out _).trans (((cell_far (p:=⟨dF,_,none⟩) fC.out _).trans (hHeld.1)))))),((cell_far (p:=⟨dF,_,none⟩) fC.out _).trans (((cell_far (p:=⟨dF,_,none⟩) fC.out _).trans (((cell_far (p:=⟨dF,_,none⟩) fC.out _).trans (hHeld.2.1)))))),((cell_far (p:=⟨dF,_,none⟩) fC.out _).trans (((cell_far (p:=⟨dF,_,none⟩) fC.out _).trans (((cell_far (p:=⟨dF,_,none⟩) fC.out _).trans (hHeld.2.2.1)))))),((cell_far (p:=⟨dF,_,none⟩) fH.out _).trans (((cell_far (p:=⟨dF,_,none⟩) fH.out _).trans (((cell_far (p:=⟨dF,_,none⟩) fH.out _).trans (hHeld.2.2.2.1)))))),((cell_far (p:=⟨dF,_,none⟩) fH.out _).trans (((cell_far (p:=⟨dF,_,none⟩) fH.out _).trans (((cell_far (p:=⟨dF,_,none⟩) fH.out _).trans (hHeld.2.2.2.2.1)))))),((cell_far (p:=⟨dF,_,none⟩) fH.out _).trans (((cell_far (p:=⟨dF,_,none⟩) fH.out _).trans (((cell_far (p:=⟨dF,_,none⟩) fH.out _).trans (hHeld.2.2.2.2.2))))))⟩ (fun hHeld=>?_)
           clear hK K
           refine lX (i:=8) (N:=some 9) (v:=?_) (a':=?_) #[true,true,true,true,true,true,true,true,true] rfl rfl (jK wV.out (by kernel_rfl)) (fun _ _ _ h=>h) (Or.inl ⟨by rfl,?_⟩) ?_ ?_
           rotate_left
           ·intro w'
            go_simp
            with_reducible rfl
           rotate_left
           ·simp only [Act.put,List.setIfInBounds_toArray,List.set_cons_zero,List.set_cons_succ,gT,iC]
            rfl
           refine T9 (Jb wV.out (by kernel_rfl)) ?_
           try go_wp2
           refine bodyPost_ret (jW rfl _ _ dF 148 #[.string (a0.extract (a1:Int).toNat ((wrap64 (a1 + eT)):Int).toNat),.string (a0.extract (dU:Int).toNat (a2:Int).toNat),.slice WU iw.length WV] (0,0) _ rfl (by (with_reducible repeat (first | refine aG ?_ _ | refine aI ?_ | refine aA ?_ _));refine bV (cs:=#[.string (a0.extract (a1:Int).toNat ((wrap64 (a1 + eT)):Int).toNat),.string (a0.extract (dU:Int).toNat (a2:Int).toNat),.slice none 0 0]) ?_ 2 _ rfl;(with_reducible repeat (first | refine aG ?_ _ | refine aI ?_ | refine aA ?_ _));refine bV (cs:=#[.string (a0.extract (a1:Int).toNat ((wrap64 (a1 + eT)):Int).toNat),.string fI,.slice none 0 0]) ?_ 1 _ rfl;(with_reducible repeat (first | refine aG ?_ _ | refine aI ?_ | refine aA ?_ _));refine bV (cs:=#[.string gI,.string fI,.slice none 0 0]) ?_ 0 _ rfl;(with_reducible repeat (first | refine aG ?_ _ | refine aI ?_ | refine aA ?_ _));exact dB.out) Try.underlying148 rfl (by kernel_rfl)) rfl ?_
           exact ⟨_,by first | rfl | (simp [aJ,aK] <;> rfl) | (simp [*,aJ,aK] <;> rfl),by (with_reducible repeat (first | apply Kd.fA | apply Kd.fK | apply Kd.fZ));exact Kd.pX (Kd.uF (p:=⟨dF,2,none⟩) (Kd.uF (p:=⟨dF,1,none⟩) (Kd.uF (p:=⟨dF,0,none⟩) (Kd.uG dP.out dB.out (by decide)) (fun _ hk=>hk.2) (.string (a0.extract (a1:Int).toNat ((wrap64 (a1 + eT)):Int).toNat))) (fun _ hk=>hk.2) (.string (a0.extract (dU:Int).toNat (a2:Int).toNat))) (fun _ hk=>hk.2) (.slice WU iw.length WV)) (fun _ hk=>trivial),by repeat (first | (with_reducible first | exact HB.out | apply ak | apply ah | apply au | refine aR ?_ iX.out | refine aR ?_ kM.out | refine aR ?_ nT.out) | exact HB.out)⟩
          ·rw [if_neg O5] at H
           exact absurd H (by simp)
         ·rw [if_neg EF] at H
          exact absurd H (by simp)
        ·rw [if_neg c37] at H
         exact absurd H (by simp)
    ·rw [if_neg c8] at H
     exact absurd H (by simp)
   ·rw [if_neg c7] at H
    exact absurd H (by simp)
  ·rw [if_neg c6] at H
   exact absurd H (by simp)
 ·rw [if_neg c5] at H
  have qc:decide (eT ≤ (wrap64 (a2 - a1))) = false:=decide_eq_false c5
  (try (have vT:decide (eT ≤ ((a2 - a1))) = false:=by have h_:decide (eT ≤ (wrap64 (a2 - a1))) = false:=decide_eq_false c5;rw [B.dQ (by omega) (by omega)] at h_;exact h_))
  clear c5
  simp only [Option.some.injEq,Prod.mk.injEq] at H
  obtain ⟨rfl,rfl,rfl,rfl⟩:=H
  go_enter Try.func121,Try.ntmps121
  go_wp2_with (first | ((with_reducible refine gK (N:=7) rfl ?_);refine fV ?hg (N:=7) ?hd (cs:=#[.int .i64 eT,.int .i64 iR,.int .i64 jX]) (t:=157) ?hr ?_;(case hd=>rfl);(case hg=>rfl);(case hr=>first | (go_simp;done) | (go_simp;rfl));intro fP hg w49 gX hb;have d9:=aj.mk (bE (by repeat (first | (with_reducible first | exact HB.out | apply ak | apply ah | apply au) | exact HB.out)) hb);have ig:=aj.mk (gX);have jh:=aj.mk ((by rw [hg];exact (bL (by repeat (first | (with_reducible first | exact HB.out | apply ak | apply ah | apply au) | exact HB.out))):w.heap.size ≤ fP));have jL:=aj.mk ((by rw [hg];exact (bL (by repeat (first | (with_reducible first | exact HB.out | apply ak | apply ah | apply au) | exact HB.out))):w.heap.size ≤ fP));clear HB;have HB:=d9;have dJ:=ig;have abf:=jh;have iX:=jL;clear d9 ig jh jL;clear hb gX hg) | ((with_reducible refine gK (N:=8) rfl ?_);refine fV ?hg (N:=8) ?hd (cs:=#[.string (⟨#[]⟩:ByteArray),.string (⟨#[]⟩:ByteArray),.slice none 0 0]) (t:=148) ?hr ?_;(case hd=>rfl);(case hg=>rfl);(case hr=>first | (go_simp;done) | (go_simp;rfl));intro dF hg w50 gX hb;have d9:=aj.mk (dO (g:=fP) (o:=.cells #[.int .i64 eT,.int .i64 iR,.int .i64 jX] 157 (0,0)) (by (with_reducible repeat (first | refine aG ?_ _ | refine aI ?_ | refine aA ?_ _));exact dJ.out) hb);have ig:=aj.mk (bE (by repeat (first | (with_reducible first | exact HB.out | apply ak | apply ah | apply au | refine aR ?_ iX.out) | exact HB.out)) hb);have jh:=aj.mk (gX);have jL:=aj.mk ((by rw [hg];exact (bL (by repeat (first | (with_reducible first | exact HB.out | apply ak | apply ah | apply au | refine aR ?_ iX.out) | exact HB.out))):w.heap.size ≤ dF));have qZ:=aj.mk ((by rw [hg];exact (bL (by repeat (first | (with_reducible first | exact HB.out | apply ak | apply ah | apply au | refine aR ?_ iX.out) | exact HB.out))):w.heap.size ≤ dF));have Oz:=aj.mk ((by rw [hg];exact Nat.ne_of_lt (jJ (g:=fP) (o:=.cells #[.int .i64 eT,.int .i64 iR,.int .i64 jX] 157 (0,0)) (by (with_reducible repeat (first | refine aG ?_ _ | refine aI ?_ | refine aA ?_ _));exact dJ.out)):fP ≠ dF));have OA:=aj.mk ((by rw [hg];exact Nat.ne_of_gt (jJ (g:=fP) (o:=.cells #[.int .i64 eT,.int .i64 iR,.int .i64 jX] 157 (0,0)) (by (with_reducible repeat (first | refine aG ?_ _ | refine aI ?_ | refine aA ?_ _));exact dJ.out)):dF ≠ fP));clear dJ;clear HB;have dJ:=d9;have HB:=ig;have dB:=jh;have abg:=jL;have kM:=qZ;have fH:=Oz;have j5:=OA;clear d9 ig jh jL qZ Oz OA;clear hb gX hg) | ((with_reducible refine gK (N:=10) rfl ?_);refine fV ?hg (N:=10) ?hd (cs:=#[.string (⟨#[]⟩:ByteArray),.string (⟨#[]⟩:ByteArray),.slice none 0 0]) (t:=148) ?hr ?_;(case hd=>rfl);(case hg=>rfl);(case hr=>first | (go_simp;done) | (go_simp;rfl));intro fG hg Yp gX hb;have d9:=aj.mk (dO (g:=fP) (o:=.cells #[.int .i64 eT,.int .i64 iR,.int .i64 jX] 157 (0,0)) (by (with_reducible repeat (first | refine aG ?_ _ | refine aI ?_ | refine aA ?_ _));exact dJ.out) hb);have ig:=aj.mk (dO (g:=dF) (o:=.cells #[.string (⟨#[]⟩:ByteArray),.string (⟨#[]⟩:ByteArray),.slice none 0 0] 148 (0,0)) (by (with_reducible repeat (first | refine aG ?_ _ | refine aI ?_ | refine aA ?_ _));exact dB.out) hb);have jh:=aj.mk (bE (by repeat (first | (with_reducible first | exact HB.out | apply ak | apply ah | apply au | refine aR ?_ iX.out | refine aR ?_ kM.out) | exact HB.out)) hb);have jL:=aj.mk (gX);have qZ:=aj.mk ((by rw [hg];exact (bL (by repeat (first | (with_reducible first | exact HB.out | apply ak | apply ah | apply au | refine aR ?_ iX.out | refine aR ?_ kM.out) | exact HB.out))):w.heap.size ≤ fG));have Oz:=aj.mk ((by rw [hg];exact (bL (by repeat (first | (with_reducible first | exact HB.out | apply ak | apply ah | apply au | refine aR ?_ iX.out | refine aR ?_ kM.out) | exact HB.out))):w.heap.size ≤ fG));have OA:=aj.mk ((by rw [hg];exact Nat.ne_of_lt (jJ (g:=fP) (o:=.cells #[.int .i64 eT,.int .i64 iR,.int .i64 jX] 157 (0,0)) (by (with_reducible repeat (first | refine aG ?_ _ | refine aI ?_ | refine aA ?_ _));exact dJ.out)):fP ≠ fG));have n7_:=aj.mk ((by rw [hg];exact Nat.ne_of_gt (jJ (g:=fP) (o:=.cells #[.int .i64 eT,.int .i64 iR,.int .i64 jX] 157 (0,0)) (by (with_reducible repeat (first | refine aG ?_ _ | refine aI ?_ | refine aA ?_ _));exact dJ.out)):fG ≠ fP));have n8_:=aj.mk ((by rw [hg];exact Nat.ne_of_lt (jJ (g:=dF) (o:=.cells #[.string (⟨#[]⟩:ByteArray),.string (⟨#[]⟩:ByteArray),.slice none 0 0] 148 (0,0)) (by (with_reducible repeat (first | refine aG ?_ _ | refine aI ?_ | refine aA ?_ _));exact dB.out)):dF ≠ fG));have n9_:=aj.mk ((by rw [hg];exact Nat.ne_of_gt (jJ (g:=dF) (o:=.cells #[.string (⟨#[]⟩:ByteArray),.string (⟨#[]⟩:ByteArray),.slice none 0 0] 148 (0,0)) (by (with_reducible repeat (first | refine aG ?_ _ | refine aI ?_ | refine aA ?_ _));exact dB.out)):fG ≠ dF));clear dJ;clear dB;clear HB;have dJ:=d9;have dB:=ig;have HB:=jh;have dV:=jL;have abh:=qZ;have nT:=Oz;have j6:=OA;have nU:=n7_;have gV:=n8_;have fC:=n9_;clear d9 ig jh jL qZ Oz OA n7_ n8_ n9_;clear hb gX hg;have ahP:=fH.out;have ahQ:=j5.out;have ahR:=j6.out;have ahS:=nU.out;have adK:Yp.cell? ⟨fP,0,none⟩ = some (.int .i64 eT):=(aM dJ.out 0).trans rfl;have adL:Yp.cell? ⟨fP,1,none⟩ = some (.int .i64 iR):=(aM dJ.out 1).trans rfl;have adM:Yp.cell? ⟨fP,2,none⟩ = some (.int .i64 jX):=(aM dJ.out 2).trans rfl;have adN:=ay dJ.out 0;have adO:=ay dJ.out 1;have adP:=ay dJ.out 2;have ahT:=gV.out;have ahU:=fC.out;have adQ:Yp.cell? ⟨dF,0,none⟩ = some (.string (⟨#[]⟩:ByteArray)):=(aM dB.out 0).trans rfl;have adR:Yp.cell? ⟨dF,1,none⟩ = some (.string (⟨#[]⟩:ByteArray)):=(aM dB.out 1).trans rfl;have adS:Yp.cell? ⟨dF,2,none⟩ = some (.slice none 0 0):=(aM dB.out 2).trans rfl;have adT:=ay dB.out 0;have adU:=ay dB.out 1;have adV:=ay dB.out 2))
  refine bodyPost_ret (jW rfl _ _ dF 148 #[.string (⟨#[]⟩:ByteArray),.string (⟨#[]⟩:ByteArray),.slice none 0 0] (0,0) _ rfl (by (with_reducible repeat (first | refine aG ?_ _ | refine aI ?_ | refine aA ?_ _));refine bV (cs:=#[.string (⟨#[]⟩:ByteArray),.string (⟨#[]⟩:ByteArray),.slice none 0 0]) ?_ 2 _ rfl;(with_reducible repeat (first | refine aG ?_ _ | refine aI ?_ | refine aA ?_ _));refine bV (cs:=#[.string (⟨#[]⟩:ByteArray),.string (⟨#[]⟩:ByteArray),.slice none 0 0]) ?_ 1 _ rfl;(with_reducible repeat (first | refine aG ?_ _ | refine aI ?_ | refine aA ?_ _));refine bV (cs:=#[.string (⟨#[]⟩:ByteArray),.string (⟨#[]⟩:ByteArray),.slice none 0 0]) ?_ 0 _ rfl;(with_reducible repeat (first | refine aG ?_ _ | refine aI ?_ | refine aA ?_ _));exact dB.out) Try.underlying148 rfl (by kernel_rfl)) rfl ?_
  exact ⟨_,by first | rfl | (simp [aJ,aK] <;> rfl) | (simp [*,aJ,aK] <;> rfl),by first | exact Kd.jF _ _ _ _ _ | exact Kd.lI _ _ _ _ _ | exact Kd.lJ _ _ _ _ _ | exact Kd.lG _ _ _ _ _ | exact Kd.lH _ _ _ _ _,by repeat (first | (with_reducible first | exact HB.out | apply ak | apply ah | apply au | refine aR ?_ iX.out | refine aR ?_ kM.out | refine aR ?_ nT.out) | exact HB.out)⟩
def dL.l0 : Nat → ByteArray → Option (Bool)
 | 0,_=>none
 | k + 1,x0=>if x0.toList = ([]:List UInt8) then (some true) else (if 0 < (x0.size:Int) then (if (wrap64 (1 + (wrap64 (bt x0 0)))) > (x0.size:Int) then (some false) else (if 0 ≤ (wrap64 (1 + (wrap64 (bt x0 0)))) then (if (wrap64 (1 + (wrap64 (bt x0 0)))) ≤ (x0.size:Int) then (dL.l0 k (x0.extract ((wrap64 (1 + (wrap64 (bt x0 0)))):Int).toNat x0.size)) else (none)) else (none))) else (none))
def dL.f (k:Nat) (a0:ByteArray):Option (Bool):=if a0.toList = ([]:List UInt8) then (some false) else (dL.l0 k a0)
set_option maxHeartbeats 8000000 in
set_option maxRecDepth 100000 in
theorem dL.calls (k:Nat) (a0:ByteArray) (r:Bool) (w:World) (h:dL.f k a0 = some r) :
  Calls Try.prog 122 #[.string a0] w fun e w'=>e = .returned (.bool r) ∧ aY w w':=by
 have H:(if a0.toList = ([]:List UInt8) then (some false) else (dL.l0 k a0)) = some r:=h
 clear h
 by_cases c2:a0.toList = ([]:List UInt8)
 ·rw [if_pos c2] at H
  have wU:(a0.toList == ([]:List UInt8)) = true:=beq_iff_eq.mpr c2
  have KI:(a0.toList != ([]:List UInt8)) = false:=bne_eq_false_iff_eq.mpr c2
  have abq:a0.toList.isEmpty = true:=List.isEmpty_iff.mpr c2
  clear c2
  obtain rfl:=Option.some.inj H
  go_enter Try.func122,Try.ntmps122
  go_wp2
  go_ret
  exact ⟨by first | rfl | (simp;done) | (simp [*];done),by repeat (first | exact aY.refl _ | apply aY.step)⟩
 ·rw [if_neg c2] at H
  have wU:(a0.toList == ([]:List UInt8)) = false:=beq_eq_false_iff_ne.mpr c2
  have KI:(a0.toList != ([]:List UInt8)) = true:=bne_iff_ne.mpr c2
  have abq:a0.toList.isEmpty = false:=Bool.eq_false_iff.mpr (fun h_=>c2 (List.isEmpty_iff.mp h_))
  have H':=aj.mk H
  clear H
  go_enter Try.func122,Try.ntmps122
  go_wp2
  go_loopg [0] k (fun kq v0 w'=>∃ (bM:ByteArray),v0 = .string bM ∧ aj (dL.l0 kq bM = some r) ∧ aj (kq ≤ k) ∧ aY w w')
  case atStart=>exact ⟨(a0),(by first | rfl | (simp;done) | (simp [*];done) | (simp [B.aV];done) | (simp [B.aW];done)),H',⟨Nat.le_refl _⟩,by repeat (first | exact aY.refl _ | apply aY.step)⟩
  case round =>
   clear H'
   try clear c1
   try clear c2
   try clear wU
   try clear KI
   try clear abq
   try clear p2
   obtain ⟨bM,rfl,HA,uM,⟨m1,rfl⟩⟩:=hrel
   cases gk with
   | zero=>exact absurd HA.out (by simp [dL.l0])
   | succ k1 =>
    have H:=HA.out
    clear HA
    simp only [dL.l0] at H
    by_cases c3:bM.toList = ([]:List UInt8)
    ·rw [if_pos c3] at H
     have qX:(bM.toList == ([]:List UInt8)) = true:=beq_iff_eq.mpr c3
     have Dm:(bM.toList != ([]:List UInt8)) = false:=bne_eq_false_iff_eq.mpr c3
     have Oi:bM.toList.isEmpty = true:=List.isEmpty_iff.mpr c3
     clear c3
     obtain rfl:=Option.some.inj H
     go_wp2
     go_ret
     exact ⟨by first | rfl | (simp;done) | (simp [*];done),by repeat (first | exact aY.refl _ | apply aY.step)⟩
    ·rw [if_neg c3] at H
     have qX:(bM.toList == ([]:List UInt8)) = false:=beq_eq_false_iff_ne.mpr c3
     have Dm:(bM.toList != ([]:List UInt8)) = true:=bne_iff_ne.mpr c3
     have Oi:bM.toList.isEmpty = false:=Bool.eq_false_iff.mpr (fun h_=>c3 (List.isEmpty_iff.mp h_))
     by_cases c4:0 < (bM.size:Int)
     ·rw [if_pos c4] at H
      have qW:decide (0 < (bM.size:Int)) = true:=decide_eq_true c4
      have KJ:decide (0 < bM.size) = true:=decide_eq_true (by omega)
      clear c4
      by_cases c6:(wrap64 (1 + (wrap64 (bt bM 0)))) > (bM.size:Int)
      ·rw [if_pos c6] at H
       have Ah:decide ((bM.size:Int) < (wrap64 (1 + (wrap64 (bt bM 0))))) = true:=decide_eq_true c6
       (try (have Od:decide ((bM.size:Int) < ((1 + ((bt bM 0))))) = true:=by have h_:decide ((bM.size:Int) < (wrap64 (1 + (wrap64 (bt bM 0))))) = true:=decide_eq_true c6;rw [B.dQ (by omega) (by omega)] at h_;rw [B.dQ (by omega) (by omega)] at h_;exact h_))
       clear c6
       obtain rfl:=Option.some.inj H
       have p5:0 ≤ (0:Int):=(by omega)
       have q5:0 < bM.size:=(by have:(0:Int) < (bM.size:Int):=of_decide_eq_true (by first | (with_reducible assumption) | assumption);omega)
       have hx5:∀ h:0 < bM.size,((bM[0]'h).toNat:Int) = bt bM 0:=nS bM 0
       clear p5
       have qi5:(0 < (bM.size:Int)) = True:=eq_true (of_decide_eq_true (by first | (with_reducible assumption) | assumption))
       replace q5:=eq_true q5
       go_wp2
       go_ret
       exact ⟨by first | rfl | (simp;done) | (simp [*];done),by repeat (first | exact aY.refl _ | apply aY.step)⟩
      ·rw [if_neg c6] at H
       have Ah:decide ((bM.size:Int) < (wrap64 (1 + (wrap64 (bt bM 0))))) = false:=decide_eq_false c6
       (try (have Od:decide ((bM.size:Int) < ((1 + ((bt bM 0))))) = false:=by have h_:decide ((bM.size:Int) < (wrap64 (1 + (wrap64 (bt bM 0))))) = false:=decide_eq_false c6;rw [B.dQ (by omega) (by omega)] at h_;rw [B.dQ (by omega) (by omega)] at h_;exact h_))
       clear c6
       obtain ⟨RP,KX⟩:∃ j_:Int,(wrap64 (1 + (wrap64 (bt bM 0)))) = j_:=⟨_,rfl⟩
       replace H:(if 0 ≤ (RP) then (if (RP) ≤ (bM.size:Int) then (dL.l0 k1 (bM.extract ((RP):Int).toNat bM.size)) else (none)) else (none)) = some r:=by first | (rw [KX] at H;exact H) | (simp only [KX] at H ⊢;exact H)
       (try rw [KX] at Ah)
       (try rw [KX] at Od)
       have ahV:(IntKind.i64.wrap (1 + (wrap64 (bt bM 0)))) = RP:=(gT _).trans KX
       by_cases c8:0 ≤ (RP)
       ·rw [if_pos c8] at H
        have su:=eq_true c8
        have sw:decide (0 ≤ (RP)) = true:=decide_eq_true c8
        clear c8
        by_cases c9:(RP) ≤ (bM.size:Int)
        ·rw [if_pos c9] at H
         have uN:=eq_true c9
         have FI:decide ((RP) ≤ (bM.size:Int)) = true:=decide_eq_true c9
         clear c9
         have H':=aj.mk H
         clear H
         have p5:0 ≤ (0:Int):=(by omega)
         have q5:0 < bM.size:=(by have:(0:Int) < (bM.size:Int):=of_decide_eq_true (by first | (with_reducible assumption) | assumption);omega)
         have hx5:∀ h:0 < bM.size,((bM[0]'h).toNat:Int) = bt bM 0:=nS bM 0
         clear p5
         have qi5:(0 < (bM.size:Int)) = True:=eq_true (of_decide_eq_true (by first | (with_reducible assumption) | assumption))
         replace q5:=eq_true q5
         go_wp2
         go_roundg k1
         case measure=>have:=uM.out;omega
         case rel=>exact ⟨(bM.extract ((RP):Int).toNat bM.size),(by first | rfl | (simp;done) | (simp only [← KX] <;> (first | rfl | simp)) | (simp [*];done)),H',⟨by have:=uM.out;omega⟩,by repeat (first | exact aY.refl _ | apply aY.step)⟩
        ·rw [if_neg c9] at H
         exact absurd H (by simp)
       ·rw [if_neg c8] at H
        exact absurd H (by simp)
     ·rw [if_neg c4] at H
      exact absurd H (by simp)
def aD.zD (k:Int):Option (Int × Int × Int) :=
 if k = 1 then some (4,0,0) else if k = 28 then some (16,0,0) else if k = 2 then some (0,1,0) else if k = 5 then some (0,1,0) else if k = 12 then some (0,1,0) else if k = 6 then some (0,2,20) else if k = 15 then some (2,1,0) else if k = 33 then some (6,1,0) else none
theorem aD.xG (k:Int):Mi.sW k bY.tab = (aD.zD k).map fun s=>bY.agg s.1 s.2.1 s.2.2:=by
 unfold aD.zD bY.tab
 simp only [Mi.sW]
 repeat' split
 all_goals rfl
def aD.fin (k:Nat) (kind:Int) (d:ByteArray) (is:Bool):Option (ByteArray × Int) :=
 if is = true then (if kind = 16 then ((dL.f k d).bind fun b=>if b = true then (if (d.size:Int) > 65535 then some (⟨#[]⟩,4) else some (d,0)) else some (⟨#[]⟩,4)) else (if (d.size:Int) > 65535 then some (⟨#[]⟩,4) else some (d,0))) else some (⟨#[]⟩,4)
def aD.g (k:Nat) (a0:ByteArray) (a1 a2 a3:Int) (s:Int × Int × Int):Option (ByteArray × Int) :=
 (bW.f k a0 a1 (wrap64 (a1 + a2)) s.1 s.2.1 s.2.2).bind fun p=>if p.1.size + (strings_Join.cat p.2.2.1).size + p.2.1.size ≤ 140737488355328 then (if p.2.2.1.length ≤ 1000000 then aD.fin k a3 (p.1 ++ strings_Join.cat p.2.2.1 ++ p.2.1) p.2.2.2 else none) else none
def aD.f (k:Nat) (a0:ByteArray) (a1 a2 a3:Int):Option (ByteArray × Int) :=
 (eX.f a0 a1 a2).bind fun t=>if t.2 = true then (match aD.zD a3 with | some s=>aD.g k a0 a1 a2 a3 s | none=>aD.fin k a3 t.1 true) else some (⟨#[]⟩,2)
theorem aD.BI {k:Nat} {kind:Int} {d:ByteArray} {r:ByteArray × Int} (h:aD.fin k kind d true = some r) (hk:kind = 16) :
  ∃ b,dL.f k d = some b ∧ (if b = true then (if (d.size:Int) > 65535 then some ((⟨#[]⟩:ByteArray),(4:Int)) else some (d,0)) else some (⟨#[]⟩,4)) = some r:=by
 unfold aD.fin at h
 rw [if_pos rfl,if_pos hk] at h
 exact zbm h
theorem aD.qK {k:Nat} {kind:Int} {d:ByteArray} {r:ByteArray × Int} (h:aD.fin k kind d true = some r) (hk:¬ kind = 16) :
  (if (d.size:Int) > 65535 then some ((⟨#[]⟩:ByteArray),(4:Int)) else some (d,0)) = some r:=by
 unfold aD.fin at h
 rw [if_pos rfl,if_neg hk] at h
 exact h
theorem aD.WW {k:Nat} {kind:Int} {d:ByteArray} {r:ByteArray × Int} (h:aD.fin k kind d false = some r):r = (⟨#[]⟩,4):=by
 unfold aD.fin at h
 rw [if_neg Bool.false_ne_true] at h
 exact (Option.some.inj h).symm
theorem aD.slc {v:Value} {l:List ByteArray} {base:Nat} {ok:Nat → Prop} {w:World} (hr:Kd.R Kd.string 9 w base ok v l):∃ A n c,v = .slice A n c:=by
 rcases (Kd.uH hr).2 with ⟨rfl,_⟩ | ⟨g,cap,cur,rfl,_⟩
 ·exact ⟨_,_,_,rfl⟩
 ·exact ⟨_,_,_,rfl⟩
theorem aD.mq {b:Bool} {d r1:ByteArray} {r2:Int} (h:(if b = true then (if (d.size:Int) > 65535 then some ((⟨#[]⟩:ByteArray),(4:Int)) else some (d,0)) else some (⟨#[]⟩,4)) = some (r1,r2)) :
  (b = true → 65535 < (d.size:Int) → r1 = ⟨#[]⟩ ∧ r2 = 4) ∧ (b = true → (d.size:Int) ≤ 65535 → r1 = d ∧ r2 = 0) ∧ (b = false → r1 = ⟨#[]⟩ ∧ r2 = 4):=by
 refine ⟨fun h1 h2=>?_,fun h1 h2=>?_,fun h1=>?_⟩
 ·rw [if_pos h1,if_pos h2] at h;cases h;exact ⟨rfl,rfl⟩
 ·rw [if_pos h1,if_neg (by omega)] at h;cases h;exact ⟨rfl,rfl⟩
 ·rw [h1,if_neg Bool.false_ne_true] at h;cases h;exact ⟨rfl,rfl⟩
theorem aD.qL {d r1:ByteArray} {r2:Int} (h:(if (d.size:Int) > 65535 then some ((⟨#[]⟩:ByteArray),(4:Int)) else some (d,0)) = some (r1,r2)) :
  (65535 < (d.size:Int) → r1 = ⟨#[]⟩ ∧ r2 = 4) ∧ ((d.size:Int) ≤ 65535 → r1 = d ∧ r2 = 0):=by
 refine ⟨fun h2=>?_,fun h2=>?_⟩
 ·rw [if_pos h2] at h;cases h;exact ⟨rfl,rfl⟩
 ·rw [if_neg (by omega)] at h;cases h;exact ⟨rfl,rfl⟩
set_option maxHeartbeats 8000000 in
set_option maxRecDepth 100000 in
theorem aD.calls (k:Nat) (a0:ByteArray) (a1 a2 a3:Int) (r1:ByteArray) (r2:Int) (w:World) (h:aD.f k a0 a1 a2 a3 = some (r1,r2)) :
  Calls Try.prog 111 #[.string a0,.int .i64 a1,.int .i64 a2,.int .i64 a3] w fun e w'=>e = .returned (.tuple #[.string r1,.int .i64 r2]) ∧ Below w.heap.size w w':=by
 have HB:=aj.mk (Below.refl w.heap.size w)
 obtain ⟨⟨t1,t2⟩,ht,h'⟩:=zbm h
 clear h
 have HT:=aj.mk ht
 clear ht
 cases t2 with
 | false =>
  rw [if_neg Bool.false_ne_true] at h'
  obtain ⟨rfl,rfl⟩:=Prod.mk.injEq .. ▸ Option.some.inj h'
  go_enter Try.func111,Try.ntmps111
  go_wp2_with (first | (go_at_call 97;refine (eX.calls _ _ _ _ _ _ HT.out).mono ?_;rintro e w1 ⟨rfl,hd1⟩))
  go_ret2
  exact ⟨rfl,hd1.below⟩
 | true =>
  replace h':(match aD.zD a3 with | some s=>aD.g k a0 a1 a2 a3 s | none=>aD.fin k a3 t1 true) = some (r1,r2):=h'
  cases hsh:aD.zD a3 with
  | none =>
   rw [hsh] at h'
   have HH:=aj.mk (show aD.fin k a3 t1 true = some (r1,r2) from h')
   clear h'
   have hfn:Mi.sW a3 bY.tab = none:=by rw [aD.xG,hsh];rfl
   go_enter Try.func111,Try.ntmps111
   go_wp2_with (first
    | (go_at_call 97;refine (eX.calls _ _ _ _ _ _ HT.out).mono ?_;rintro e w1 ⟨rfl,hd1⟩)
    | (go_at_call 120;refine (bY.calls _).mono ?_;rintro e w2 ⟨g,rfl,hin⟩;have hl:=Mi.look (P:=Try.prog) hin.at_ 159 3 157 Try.underlying159 Try.underlying3 _ (Try.zeroValue157 w2) a3;rw [hfn] at hl;have hB2:=aj.mk ((HB.out.trans hd1.below).trans (hin.O8.mono hd1.below.size));clear hin)
    | (go_at_call 122;obtain ⟨b,hb,hx⟩:=aD.BI HH.out (by assumption);have hx:=aj.mk hx;refine (dL.calls _ _ _ _ hb).mono ?_;rintro e w3 ⟨rfl,hd3⟩))
   all_goals
    go_ret2
    first
     | (have hq:=(aD.mq hx.out).1 (by assumption) (by assumption);obtain ⟨rfl,rfl⟩:=hq;exact ⟨rfl,(ak hB2.out _).trans (hd3.below.mono (by have:=hB2.out.size;simp only [World.alloc,Array.size_push];omega))⟩)
     | (have hq:=(aD.mq hx.out).2.1 (by assumption) (by assumption);obtain ⟨rfl,rfl⟩:=hq;exact ⟨rfl,(ak hB2.out _).trans (hd3.below.mono (by have:=hB2.out.size;simp only [World.alloc,Array.size_push];omega))⟩)
     | (have hq:=(aD.mq hx.out).2.2 (by first | assumption | simpa using ‹¬ b = true›);obtain ⟨rfl,rfl⟩:=hq;exact ⟨rfl,(ak hB2.out _).trans (hd3.below.mono (by have:=hB2.out.size;simp only [World.alloc,Array.size_push];omega))⟩)
     | (have hq:=(aD.qL (aD.qK HH.out (by assumption))).1 (by assumption);obtain ⟨rfl,rfl⟩:=hq;exact ⟨rfl,ak hB2.out _⟩)
     | (have hq:=(aD.qL (aD.qK HH.out (by assumption))).2 (by assumption);obtain ⟨rfl,rfl⟩:=hq;exact ⟨rfl,ak hB2.out _⟩)
  | some s =>
   obtain ⟨s0,s1,s2⟩:=s
   rw [hsh] at h'
   replace h':aD.g k a0 a1 a2 a3 (s0,s1,s2) = some (r1,r2):=h'
   unfold aD.g at h'
   obtain ⟨⟨p1,p2,p3,p4⟩,hp,h'⟩:=zbm h'
   replace h':(if p1.size + (strings_Join.cat p3).size + p2.size ≤ 140737488355328 then (if p3.length ≤ 1000000 then aD.fin k a3 (p1 ++ strings_Join.cat p3 ++ p2) p4 else none) else none) = some (r1,r2):=h'
   have hp:=aj.mk (show bW.f k a0 a1 (wrap64 (a1 + a2)) s0 s1 s2 = some (p1,p2,p3,p4) from hp)
   by_cases z1:p1.size + (strings_Join.cat p3).size + p2.size ≤ 140737488355328
   ·rw [if_pos z1] at h'
    by_cases z2:p3.length ≤ 1000000
    ·rw [if_pos z2] at h'
     have HH:=aj.mk h'
     have z1:=aj.mk z1
     have z2:=aj.mk z2
     clear h'
     have hfn:Mi.sW a3 bY.tab = some (bY.agg s0 s1 s2):=by rw [aD.xG,hsh];rfl
     cases p4
     all_goals
      go_enter Try.func111,Try.ntmps111
      go_wp2_with (first
       | (go_at_call 97;refine (eX.calls _ _ _ _ _ _ HT.out).mono ?_;rintro e w1 ⟨rfl,hd1⟩)
       | (go_at_call 120;refine (bY.calls _).mono ?_;rintro e w2 ⟨g,rfl,hin⟩;have hl:=Mi.look (P:=Try.prog) hin.at_ 159 3 157 Try.underlying159 Try.underlying3 _ (Try.zeroValue157 w2) a3;rw [hfn] at hl;replace hl:=show _ = Result.ok (Value.tuple #[.agg #[.int .i64 s0,.int .i64 s1,.int .i64 s2],.bool true]) w2 from hl;have hB2:=aj.mk ((HB.out.trans hd1.below).trans (hin.O8.mono hd1.below.size));clear hin)
       | (go_at_call 121;refine (bW.calls _ _ _ _ _ _ _ _ _ _ _ _ hp.out).mono ?_;rintro e w3 ⟨v,rfl,hv,hb3⟩;obtain ⟨vA,vn,vc,rfl⟩:=aD.slc hv;have hB3:=aj.mk ((ak hB2.out _).trans (hb3.mono (by have:=hB2.out.size;simp only [World.alloc,Array.size_push];omega)));have hv:=aj.mk hv;clear hb3)
       | (go_at_call 113;refine (iK.calls _ _ _ p3 _ _ _ (Kd.fA hv.out _) z2.out z1.out).mono ?_;rintro e w4 ⟨rfl,hb4⟩;have hB4:=aj.mk ((ak hB3.out _).trans (hb4.mono (by have:=hB3.out.size;simp only [World.alloc,Array.size_push];omega)));clear hb4)
       | (go_at_call 122;obtain ⟨b,hb,hx⟩:=aD.BI HH.out (by assumption);have hx:=aj.mk hx;refine (dL.calls _ _ _ _ hb).mono ?_;rintro e w5 ⟨rfl,hd3⟩))
      all_goals
       go_ret2
       first
        | (have hq:=aD.WW HH.out;cases hq;exact ⟨rfl,hB4.out⟩)
        | (have hq:=(aD.mq hx.out).1 (by first | assumption | (simp only [ByteArray.size_append,Int.natCast_add];assumption)) (by first | assumption | (simp only [ByteArray.size_append,Int.natCast_add];assumption));obtain ⟨rfl,rfl⟩:=hq;exact ⟨rfl,hB4.out.trans (hd3.below.mono hB4.out.size)⟩)
        | (have hq:=(aD.mq hx.out).2.1 (by first | assumption | (simp only [ByteArray.size_append,Int.natCast_add];assumption)) (by first | assumption | (simp only [ByteArray.size_append,Int.natCast_add];assumption));obtain ⟨rfl,rfl⟩:=hq;exact ⟨rfl,hB4.out.trans (hd3.below.mono hB4.out.size)⟩)
        | (have hq:=(aD.mq hx.out).2.2 (by first | assumption | simpa using ‹¬ b = true›);obtain ⟨rfl,rfl⟩:=hq;exact ⟨rfl,hB4.out.trans (hd3.below.mono hB4.out.size)⟩)
        | (have hq:=(aD.qL (aD.qK HH.out (by first | assumption | (simp only [ByteArray.size_append,Int.natCast_add];assumption)))).1 (by first | assumption | (simp only [ByteArray.size_append,Int.natCast_add];assumption));obtain ⟨rfl,rfl⟩:=hq;exact ⟨rfl,hB4.out⟩)
        | (have hq:=(aD.qL (aD.qK HH.out (by first | assumption | (simp only [ByteArray.size_append,Int.natCast_add];assumption)))).2 (by first | assumption | (simp only [ByteArray.size_append,Int.natCast_add];assumption));obtain ⟨rfl,rfl⟩:=hq;exact ⟨rfl,hB4.out⟩)
    ·rw [if_neg z2] at h';cases h'
   ·rw [if_neg z1] at h';cases h'
def iU.f (k:Nat) (a0:Int) (a1:ByteArray):Option (Bool):=if (a1.size:Int) > 65535 then (some false) else ((aD.f k a1 0 (a1.size:Int) a0).bind fun FT=>(if FT.2 = 0 then (some (FT.1.toList == a1.toList)) else (some false)))
set_option maxHeartbeats 8000000 in
set_option maxRecDepth 100000 in
theorem iU.calls (k:Nat) (a0:Int) (a1:ByteArray) (r:Bool) (w:World) (h:iU.f k a0 a1 = some r) :
  Calls Try.prog 94 #[.int .i64 a0,.string a1] w fun e w'=>e = .returned (.bool r) ∧ Below w.heap.size w w':=by
 have HB:=aj.mk (Below.refl w.heap.size w)
 have H:(if (a1.size:Int) > 65535 then (some false) else ((aD.f k a1 0 (a1.size:Int) a0).bind fun FT=>(if FT.2 = 0 then (some (FT.1.toList == a1.toList)) else (some false)))) = some r:=h
 clear h
 by_cases c3:(a1.size:Int) > 65535
 ·rw [if_pos c3] at H
  have qX:decide (65535 < (a1.size:Int)) = true:=decide_eq_true c3
  have Dm:decide (65535 < a1.size) = true:=decide_eq_true (by omega)
  clear c3
  obtain rfl:=Option.some.inj H
  go_enter Try.func94,Try.ntmps94
  go_wp2
  go_ret
  exact ⟨by first | rfl | (simp [aJ,aK] <;> rfl) | (simp [*,aJ,aK] <;> rfl),by repeat (first | (with_reducible first | exact HB.out | apply ak | apply ah | apply au) | exact HB.out)⟩
 ·rw [if_neg c3] at H
  have qX:decide (65535 < (a1.size:Int)) = false:=decide_eq_false c3
  have Dm:decide (65535 < a1.size) = false:=decide_eq_false (by omega)
  clear c3
  replace H:=zbm H
  obtain ⟨⟨t131,FU⟩,FJ,H⟩:=H
  replace H:(if FU = 0 then (some (t131.toList == a1.toList)) else (some false)) = some r:=H
  have A4:=aj.mk FJ
  clear FJ
  by_cases c5:FU = 0
  ·rw [if_pos c5] at H
   have qc:(FU == 0) = true:=beq_iff_eq.mpr c5
   have vT:(FU != 0) = false:=bne_eq_false_iff_eq.mpr c5
   clear c5
   obtain rfl:=Option.some.inj H
   go_enter Try.func94,Try.ntmps94
   go_wp2_with (first | ((with_reducible refine aQ (f:=111) rfl ?_);refine bQ (some 15) rfl rfl Try.func111 (by kernel_rfl) rfl #[.string a1,.int .i64 0,.int .i64 (a1.size:Int),.int .i64 a0] rfl (by (try simp only [List.map_toArray,List.map_cons,List.map_nil]);first | done | rfl | (simp only [List.length_drop,List.length_take];rfl) | (simp only [ByteArray.size_append,Int.natCast_add];rfl) | (rw [B.dQ] <;> first | rfl | omega | (simp only [decide_eq_false_iff_not,decide_eq_true_eq,Int.not_lt,Nat.not_lt,gt_iff_lt] at * <;> omega))) ?_;(with_reducible refine (aD.calls k a1 0 (a1.size:Int) a0 t131 FU _ A4.out).mono ?_);rintro e w6 ⟨rfl,hb⟩;refine ⟨_,rfl,?_⟩;have d9:=aj.mk (bE (by repeat (first | (with_reducible first | exact HB.out | apply ak | apply ah | apply au) | exact HB.out)) hb);clear HB;have HB:=d9;clear d9;(try clear hb);(try clear hb2);(try clear hk);(try clear hi)))
   go_ret
   exact ⟨by first | rfl | (simp [aJ,aK] <;> rfl) | (simp [*,aJ,aK] <;> rfl),by repeat (first | (with_reducible first | exact HB.out | apply ak | apply ah | apply au) | exact HB.out)⟩
  ·rw [if_neg c5] at H
   have qc:(FU == 0) = false:=beq_eq_false_iff_ne.mpr c5
   have vT:(FU != 0) = true:=bne_iff_ne.mpr c5
   obtain rfl:=Option.some.inj H
   go_enter Try.func94,Try.ntmps94
   go_wp2_with (first | ((with_reducible refine aQ (f:=111) rfl ?_);refine bQ (some 15) rfl rfl Try.func111 (by kernel_rfl) rfl #[.string a1,.int .i64 0,.int .i64 (a1.size:Int),.int .i64 a0] rfl (by (try simp only [List.map_toArray,List.map_cons,List.map_nil]);first | done | rfl | (simp only [List.length_drop,List.length_take];rfl) | (simp only [ByteArray.size_append,Int.natCast_add];rfl) | (rw [B.dQ] <;> first | rfl | omega | (simp only [decide_eq_false_iff_not,decide_eq_true_eq,Int.not_lt,Nat.not_lt,gt_iff_lt] at * <;> omega))) ?_;(with_reducible refine (aD.calls k a1 0 (a1.size:Int) a0 t131 FU _ A4.out).mono ?_);rintro e w7 ⟨rfl,hb⟩;refine ⟨_,rfl,?_⟩;have d9:=aj.mk (bE (by repeat (first | (with_reducible first | exact HB.out | apply ak | apply ah | apply au) | exact HB.out)) hb);clear HB;have HB:=d9;clear d9;(try clear hb);(try clear hb2);(try clear hk);(try clear hi)))
   go_ret
   exact ⟨by first | rfl | (simp [aJ,aK] <;> rfl) | (simp [*,aJ,aK] <;> rfl),by repeat (first | (with_reducible first | exact HB.out | apply ak | apply ah | apply au) | exact HB.out)⟩
def dn.f (k:Nat) (a0:Int) (a1:ByteArray):Option (ByteArray × ByteArray × List ByteArray × Bool) :=
 (iU.f k a0 a1).bind fun c=>if c = true then (match aD.zD a0 with | some s=>bW.f k a1 0 (a1.size:Int) s.1 s.2.1 s.2.2 | none=>some (a1,⟨#[]⟩,[],true)) else some (⟨#[]⟩,⟨#[]⟩,[],false)
theorem dn.three {w w1:World} {g B:Nat} {a b c a' b' c':Value} (bk:w1.heap[g]? = some (.cells #[a',b',c'] 148 (0,0))) :
  (((w1.setCell ⟨g,0,none⟩ a).setCell ⟨g,1,none⟩ b).setCell ⟨g,2,none⟩ c).heap[g]? = some (.cells #[a,b,c] 148 (0,0)) ∧
  (Below B w w1 → B ≤ g → Below B w (((w1.setCell ⟨g,0,none⟩ a).setCell ⟨g,1,none⟩ b).setCell ⟨g,2,none⟩ c)) ∧
  (∀ v l base ok,Kd.R Kd.string 9 w1 base ok v l → Kd.R Kd.string 9 (((w1.setCell ⟨g,0,none⟩ a).setCell ⟨g,1,none⟩ b).setCell ⟨g,2,none⟩ c) base ok v l):=by
 have b1:=bV bk 0 a (cs':=#[a,b',c']) rfl
 have b2:=bV b1 1 b (cs':=#[a,b,c']) rfl
 have b3:=bV b2 2 c (cs':=#[a,b,c]) rfl
 refine ⟨b3,fun h hg=>((h.setCell hg _).setCell hg _).setCell hg _,fun v l base ok h=>?_⟩
 exact Kd.NP (Kd.NP (Kd.NP h bk (by decide) 0 a) b1 (by decide) 1 b) b2 (by decide) 2 c
theorem dn.facts {w1:World} {g:Nat} {a b c:Value} (bk:w1.heap[g]? = some (.cells #[a,b,c] 148 (0,0))) :
  (w1.cell? ⟨g,0,none⟩ = some a ∧ w1.cell? ⟨g,1,none⟩ = some b ∧ w1.cell? ⟨g,2,none⟩ = some c) ∧ w1.frozen? ⟨g,0,none⟩ = false ∧ w1.frozen? ⟨g,1,none⟩ = false ∧ w1.frozen? ⟨g,2,none⟩ = false :=
 ⟨⟨aM bk 0,aM bk 1,aM bk 2⟩,ay bk 0,ay bk 1,ay bk 2⟩
set_option maxHeartbeats 8000000 in
set_option maxRecDepth 100000 in
theorem dn.calls (k:Nat) (a0:Int) (a1:ByteArray) (r1 r2:ByteArray) (r3:List ByteArray) (r4:Bool) (w:World) (h:dn.f k a0 a1 = some (r1,r2,r3,r4)) :
  Calls Try.prog 112 #[.int .i64 a0,.string a1] w fun e w'=>∃ v2_:Value,e = .returned (.tuple #[.agg #[.string r1,.string r2,v2_],.bool r4]) ∧ Kd.R Kd.string 9 w' w.heap.size (fun _=>True) v2_ r3 ∧ Below w.heap.size w w':=by
 obtain ⟨c,hc,h'⟩:=zbm h
 clear h
 have HC:=aj.mk hc
 clear hc
 cases c with
 | false =>
  rw [if_neg Bool.false_ne_true] at h'
  cases h'
  go_enter Try.func112,Try.ntmps112
  go_wp2_with (first
   | (go_at_call 94;refine (iU.calls _ _ _ _ _ HC.out).mono ?_;rintro e w1 ⟨rfl,hd1⟩;have bk:=dO (uD w _) hd1;obtain ⟨⟨k0,k1,k2⟩,f0,f1,f2⟩:=dn.facts bk;have bk:=aj.mk bk;have hB1:=aj.mk ((ak (Below.refl w.heap.size w) _).trans (hd1.mono (by simp only [World.alloc,Array.size_push];omega)));clear hd1))
  refine bodyPost_ret (jW rfl _ _ w.heap.size 148 #[.string ⟨#[]⟩,.string ⟨#[]⟩,.slice none 0 0] (0,0) _ rfl (dn.three (w:=w) (B:=0) bk.out).1 Try.underlying148 rfl (by kernel_rfl)) rfl ?_
  exact ⟨_,rfl,Kd.jF _ _ _ _ _,(dn.three bk.out).2.1 hB1.out (Nat.le_refl _)⟩
 | true =>
  replace h':(match aD.zD a0 with | some s=>bW.f k a1 0 (a1.size:Int) s.1 s.2.1 s.2.2 | none=>some (a1,⟨#[]⟩,[],true)) = some (r1,r2,r3,r4):=h'
  cases hsh:aD.zD a0 with
  | none =>
   rw [hsh] at h'
   cases h'
   have hfn:Mi.sW a0 bY.tab = none:=by rw [aD.xG,hsh];rfl
   go_enter Try.func112,Try.ntmps112
   go_wp2_with (first
    | (go_at_call 94;refine (iU.calls _ _ _ _ _ HC.out).mono ?_;rintro e w1 ⟨rfl,hd1⟩;have bk:=dO (uD w _) hd1;obtain ⟨⟨k0,k1,k2⟩,f0,f1,f2⟩:=dn.facts bk;have bk:=aj.mk bk;have hB1:=aj.mk ((ak (Below.refl w.heap.size w) _).trans (hd1.mono (by simp only [World.alloc,Array.size_push];omega)));clear hd1)
    | (go_at_call 120;refine (bY.calls _).mono ?_;rintro e w2 ⟨g,rfl,hin⟩;clear k0 k1 k2 f0 f1 f2;have hl:=Mi.look (P:=Try.prog) hin.at_ 159 3 157 Try.underlying159 Try.underlying3 _ (Try.zeroValue157 w2) a0;rw [hfn] at hl;replace hl:=show _ = Result.ok (Value.tuple #[.agg #[.int .i64 0,.int .i64 0,.int .i64 0],.bool false]) w2 from hl;have hB2:=aj.mk (hB1.out.trans (hin.O8.mono hB1.out.size));have bk:=aj.mk (aA (dO bk.out hin.O8) (.cells #[.int .i64 0,.int .i64 0,.int .i64 0] 157 (0,0)));obtain ⟨⟨k0,k1,k2⟩,f0,f1,f2⟩:=dn.facts bk.out;clear hin))
   refine bodyPost_ret (jW rfl _ _ w.heap.size 148 #[.string a1,.string ⟨#[]⟩,.slice none 0 0] (0,0) _ rfl (dn.three (w:=w) (B:=0) bk.out).1 Try.underlying148 rfl (by kernel_rfl)) rfl ?_
   exact ⟨_,rfl,Kd.jF _ _ _ _ _,(dn.three bk.out).2.1 (ak hB2.out _) (Nat.le_refl _)⟩
  | some s =>
   obtain ⟨s0,s1,s2⟩:=s
   rw [hsh] at h'
   have hp:=aj.mk (show bW.f k a1 0 (a1.size:Int) s0 s1 s2 = some (r1,r2,r3,r4) from h')
   clear h'
   have hfn:Mi.sW a0 bY.tab = some (bY.agg s0 s1 s2):=by rw [aD.xG,hsh];rfl
   go_enter Try.func112,Try.ntmps112
   go_wp2_with (first
    | (go_at_call 94;refine (iU.calls _ _ _ _ _ HC.out).mono ?_;rintro e w1 ⟨rfl,hd1⟩;have bk:=dO (uD w _) hd1;obtain ⟨⟨k0,k1,k2⟩,f0,f1,f2⟩:=dn.facts bk;have bk:=aj.mk bk;have hB1:=aj.mk ((ak (Below.refl w.heap.size w) _).trans (hd1.mono (by simp only [World.alloc,Array.size_push];omega)));clear hd1)
    | (go_at_call 120;refine (bY.calls _).mono ?_;rintro e w2 ⟨g,rfl,hin⟩;clear k0 k1 k2 f0 f1 f2;have hl:=Mi.look (P:=Try.prog) hin.at_ 159 3 157 Try.underlying159 Try.underlying3 _ (Try.zeroValue157 w2) a0;rw [hfn] at hl;replace hl:=show _ = Result.ok (Value.tuple #[.agg #[.int .i64 s0,.int .i64 s1,.int .i64 s2],.bool true]) w2 from hl;have hB2:=aj.mk (hB1.out.trans (hin.O8.mono hB1.out.size));have bk:=aj.mk (aA (dO bk.out hin.O8) (.cells #[.int .i64 s0,.int .i64 s1,.int .i64 s2] 157 (0,0)));obtain ⟨⟨k0,k1,k2⟩,f0,f1,f2⟩:=dn.facts bk.out;clear hin)
    | (go_at_call 121;refine (bW.calls _ _ _ _ _ _ _ _ _ _ _ _ hp.out).mono ?_;rintro e w3 ⟨v,rfl,hv,hb3⟩;clear k0 k1 k2 f0 f1 f2;obtain ⟨vA,vn,vc,rfl⟩:=aD.slc hv;have hB3:=aj.mk ((ak hB2.out _).trans (hb3.mono (by have:=hB2.out.size;simp only [World.alloc,Array.size_push];omega)));have hv:=aj.mk (Kd.uE hv (by have:=hB2.out.size;simp only [World.alloc,Array.size_push];omega:w.heap.size ≤ _));have bk:=aj.mk (dO bk.out hb3);obtain ⟨⟨k0,k1,k2⟩,f0,f1,f2⟩:=dn.facts bk.out;clear hb3))
   refine bodyPost_ret (jW rfl _ _ w.heap.size 148 #[.string r1,.string r2,.slice vA vn vc] (0,0) _ rfl (dn.three (w:=w) (B:=0) bk.out).1 Try.underlying148 rfl (by kernel_rfl)) rfl ?_
   exact ⟨_,rfl,(dn.three (w:=w) (B:=0) bk.out).2.2 _ _ _ _ hv.out,(dn.three bk.out).2.1 hB3.out (Nat.le_refl _)⟩
def eO.all (k:Nat):List ByteArray → Option (List ByteArray)
 | []=>some []
 | x :: l=>(mR.f k x).bind fun y=>(eO.all k l).bind fun m=>some (y :: m)
def eO.fin (p1 p2:ByteArray) (m:List ByteArray):Option ByteArray :=
 if p1.size + (strings_Join.cat m).size + p2.size ≤ 140737488355328 then (if m.length ≤ 1000000 then some (p1 ++ strings_Join.cat m ++ p2) else none) else none
def eO.f (k:Nat) (a0:Int) (a1:ByteArray):Option ByteArray :=
 (dn.f k a0 a1).bind fun p=>(eO.all k p.2.2.1).bind fun m=>eO.fin p.1 p.2.1 m
theorem eO.zF {k:Nat}:∀ {l m:List ByteArray},eO.all k l = some m → m.length = l.length
 | [],m,h=>by cases h;rfl
 | x :: l,m,h=>by
  rw [eO.all] at h
  obtain ⟨y,_,h⟩:=zbm h
  obtain ⟨m',h',h⟩:=zbm h
  cases h
  rw [List.length_cons,List.length_cons,eO.zF h']
set_option maxHeartbeats 8000000 in
set_option maxRecDepth 100000 in
theorem eO.calls (k:Nat) (a0:Int) (a1:ByteArray) (r:ByteArray) (w:World) (h:eO.f k a0 a1 = some r) :
  Calls Try.prog 95 #[.int .i64 a0,.string a1] w fun e w'=>e = .returned (.string r) ∧ Below w.heap.size w w':=by
 obtain ⟨⟨p1,p2,l,p4⟩,hp,h'⟩:=zbm h
 clear h
 obtain ⟨m,hm,h'⟩:=zbm h'
 replace hm:eO.all k l = some m:=hm
 replace h':eO.fin p1 p2 m = some r:=h'
 have hml:=eO.zF hm
 have HP:=aj.mk hp
 have HM:=aj.mk hm
 have HF:=aj.mk h'
 have HL:=aj.mk hml
 clear hp hm h' hml
 go_enter Try.func95,Try.ntmps95
 go_wp2_with (first
  | (go_at_call 112;refine (dn.calls _ _ _ _ _ _ _ _ HP.out).mono ?_;rintro e w1 ⟨v,rfl,hv,hb1⟩;obtain ⟨vA,vn,vc,rfl⟩:=aD.slc hv;obtain ⟨rfl,_,hcc⟩:=Kd.pY hv;have hmx:=aj.mk (Kd.aaw hcc);clear hcc;have hv2:=aj.mk (Kd.fA hv (.cells #[.string p1,.string p2,.slice vA l.length vc] 148 (0,0)));have hb2:=aj.mk (ak hb1 (.cells #[.string p1,.string p2,.slice vA l.length vc] 148 (0,0)));have bk2:=aj.mk (uD w1 (.cells #[.string p1,.string p2,.slice vA l.length vc] 148 (0,0)));have hge:=aj.mk hb1.size;clear hv hb1))
 generalize hw1:w1.alloc (.cells #[.string p1,.string p2,.slice vA l.length vc] 148 (0,0)) = w2 at *
 generalize hg:w1.heap.size = g at *
 clear hw1 hg
 go_loopw [18] (fun v18 wr=>∃ (j:Nat) (cur:List ByteArray),v18 = .int .i64 j ∧ j ≤ l.length ∧ aj (cur.length = l.length ∧ ∃ mm,eO.all k (cur.drop j) = some mm ∧ m = cur.take j ++ mm) ∧ aj (wr.heap[g]? = some (.cells #[.string p1,.string p2,.slice vA l.length vc] 148 (0,0))) ∧ aj (Kd.R Kd.string 9 wr w.heap.size (fun _=>True) (.slice vA l.length vc) cur) ∧ aj (Below w.heap.size w wr)) (fun v18 _=>l.length - (intOf v18).toNat)
 case atStart=>exact ⟨0,l,rfl,Nat.zero_le _,⟨rfl,m,HM.out,rfl⟩,bk2,hv2,hb2⟩
 case round =>
  clear HM hv2 hb2 bk2
  obtain ⟨j,cur,rfl,hj,hc,bk,hR,hB⟩:=hrel
  by_cases hlt:j < l.length
  ·obtain ⟨hcl,mm,hmm,hmt⟩:=hc.out
   have hjc:j < cur.length:=by omega
   rw [List.drop_eq_getElem_cons hjc,eO.all] at hmm
   obtain ⟨y,hy,hmm⟩:=zbm hmm
   obtain ⟨m',hm',hmm⟩:=zbm hmm
   obtain rfl:mm = y :: m':=(Option.some.inj hmm).symm
   have hnew:=aj.mk (show (cur.set j y).length = l.length ∧ ∃ mm,eO.all k ((cur.set j y).drop (j + 1)) = some mm ∧ m = (cur.set j y).take (j + 1) ++ mm from by
    refine ⟨by rw [List.length_set];exact hcl,m',?_,?_⟩
    ·rw [List.drop_set_of_lt (by omega)];exact hm'
    ·have e:(cur.set j y).take (j + 1) = cur.take j ++ [y]:=by
      rw [List.take_succ_eq_append_getElem (by rw [List.length_set];exact hjc),List.getElem_set_self,List.take_set_of_le (Nat.le_refl j)]
     rw [hmt,e,List.append_assoc];rfl)
   obtain ⟨gr,cap,e0,_,_,cells,hcells⟩:=Kd.Wx hR.out (by omega)
   injection e0 with e1 e2 e3
   subst e1 e3
   have hne:=aj.mk (show g ≠ gr from Wt bk.out hcells (by decide))
   have hxc:=Kd.Dh ByteArray.empty hR.out (j:Int) (by omega) (by omega)
   have hxe:pV ByteArray.empty cur (j:Int) = cur[j]:=by
    unfold pV
    rw [Int.toNat_natCast,List.getD_eq_getElem?_getD,List.getElem?_eq_getElem hjc]
    rfl
   rw [hxe,Int.toNat_natCast] at hxc
   have HY:=aj.mk hy
   have c0:=hxc.1
   have c1:=(dn.facts bk.out).1.2.2
   have hlt2:=aj.mk hlt
   have p0:(0 ≤ (j:Int)) = True:=eq_true (by omega)
   have q0:((j:Int) < (l.length:Int)) = True:=eq_true (by omega)
   generalize cur[j] = x at *
   clear hmm hm' hmt hy hxe hxc hcells hc e2 hlt hjc hcl
   go_wp2
   go_region_with (first | (go_at_call 92;refine (mR.calls _ _ _ _ HY.out).mono ?_;rintro e w3 ⟨rfl,hb3⟩;have bk3:=dO (aI bk.out) hb3;have Yq:=Kd.kF (Kd.fZ hR.out) hb3;have hB3:=aj.mk ((jq hB.out).trans (hb3.mono hB.out.size));have d0:=(Kd.Dh ByteArray.empty Yq (j:Int) (by omega) (by have:=hlt2.out;omega)).1;have d1:=(Kd.Dh ByteArray.empty Yq (j:Int) (by omega) (by have:=hlt2.out;omega)).2;rw [Int.toNat_natCast] at d0 d1;have d2:=(dn.facts bk3).1.2.2;have bk3:=aj.mk bk3;have Yq:=aj.mk Yq;clear hb3))
   all_goals
    have hfin:=Kd.Wz Yq.out (j:Int) y
    rw [Int.toNat_natCast] at hfin
    have bk4:=aj.mk (oC (p:=⟨gr,j,none⟩) bk3.out hne.out (.string y))
    have hR4:=aj.mk hfin.1
    have hB4:=aj.mk (hB3.out.grown hfin.2 hB3.out.size (fun k e=>by cases e;exact Kd.Ww Yq.out gr rfl))
    clear hfin
    generalize w3.setCell ⟨gr,j,none⟩ (.string y) = w4 at *
    clear c0 c1 d0 d1 d2 p0 q0
    have hw:=(show wrap64 ((j:Int) + 1) = ((j + 1:Nat):Int) from by have hlt:=hlt2.out;have hm9:=hmx.out;rw [B.dQ (by omega) (by omega)];omega)
    have hw:=aj.mk hw
    go_wp2
    go_roundw
    case rel=>have hlt:=hlt2.out;have hm9:=hmx.out;exact ⟨j + 1,cur.set j y,by rw [hw.out],hlt2.out,hnew,bk4,hR4,hB4⟩
    case measure=>have hlt:=hlt2.out;have hm9:=hmx.out;rw [hw.out];simp only [intOf];omega
  ·obtain rfl:j = l.length:=by omega
   have hcm:m = cur:=by
    obtain ⟨hcl,mm,hmm,hmt⟩:=hc.out
    rw [← hcl,List.drop_length] at hmm
    cases hmm
    rw [hmt,← hcl,List.take_length,List.append_nil]
   subst hcm
   have q0:((l.length:Int) < (l.length:Int)) = False:=eq_false (by omega)
   obtain ⟨⟨k0,k1,k2⟩,_,_,_⟩:=dn.facts bk.out
   have hF:=HF.out
   unfold eO.fin at hF
   by_cases z1:p1.size + (strings_Join.cat m).size + p2.size ≤ 140737488355328
   ·rw [if_pos z1] at hF
    by_cases z2:m.length ≤ 1000000
    ·rw [if_pos z2] at hF
     obtain rfl:=Option.some.inj hF
     have z1:=aj.mk z1
     have z2:=aj.mk z2
     clear hF HF
     go_wp2_with (first
      | (go_at_call 113;refine (iK.calls _ _ _ m _ _ _ hR.out z2.out z1.out).mono ?_;rintro e w4 ⟨rfl,hb4⟩;have hB4:=aj.mk (hB.out.trans (hb4.mono hB.out.size));clear hb4))
     go_ret
     exact ⟨rfl,hB4.out⟩
    ·rw [if_neg z2] at hF;cases hF
   ·rw [if_neg z1] at hF;cases hF
end Go.Proofs.Ytdkkgecdhapfhaa.ZQ
namespace Go.Proofs.Ytdkkgecdhapfhaa.ZQ
open Go.RowKit Go.Proofs.YtdkkgecdhapfhaaW.bD Go.Proofs.YtdkkgecdhapfhaaW.dM Go.Proofs.YtdkkgecdhapfhaaW.eP
attribute [local go_sem] jv jw kG kH iH iI jy jA
theorem WX (d:Nat) (w:World) (x0 y0:Int) (x1 y1:Int) (x2 y2:Int) :
  (Op.equalIn (d + 2) 142 (.agg #[.int .i64 x0,.int .i64 x1,.int .i64 x2]) (.agg #[.int .i64 y0,.int .i64 y1,.int .i64 y2])).run Try.prog w = .ok (x0 == y0 && (x1 == y1 && (x2 == y2))) w:=by
 refine B.NZ Try.underlying142 (by kernel_rfl) (by kernel_rfl) ?_
 show (Op.eqItems _ 3 1 _ _ [0,1,2]).run _ _ = _
 refine B.Fx (by go_simp;rfl) (by go_simp;rfl) (by go_simp) ?_
 refine B.Fx (by go_simp;rfl) (by go_simp;rfl) (by go_simp) ?_
 exact B.NY (by go_simp;rfl) (by go_simp;rfl) (by go_simp)
end Go.Proofs.Ytdkkgecdhapfhaa.ZQ

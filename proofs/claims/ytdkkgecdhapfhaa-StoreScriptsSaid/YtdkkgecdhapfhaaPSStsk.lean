/- A part of the proof of StoreScripts: cut, joined and given short names by a program of this session (wip/tools/pack.py); Lean checks it. No condition. -/
import Derived.Test.YtdkkgecdhapfhaaPSStsi
import Derived.Test.YtdkkgecdhapfhaaPSStsj
import Derived.Test.YtdkkgecdhapfhaaProg
import Derived.WideMake
import Derived.WalkKit
import Derived.Below
import Derived.Deep.RegionHeld3
import Derived.Test.YtdkkgecdhapfhaaPSStsd
set_option linter.unusedSectionVars false
set_option linter.unusedSimpArgs false
set_option linter.unusedVariables false
namespace Go.Proofs.Ytdkkgecdhapfhaa.ZQ
open Go.RowKit Go.Proofs.YtdkkgecdhapfhaaW.bD Go.Proofs.YtdkkgecdhapfhaaW.dM Go.Proofs.YtdkkgecdhapfhaaW.eH
attribute [local go_sem] jl jm j5 j6 iF iG jo jq
def aT.f (a0:Int):Option (ByteArray × Int × Int):=some ((⟨#[]⟩:ByteArray),0,a0)
set_option maxHeartbeats 8000000 in
set_option maxRecDepth 100000 in
theorem aT.calls (a0:Int) (r1:ByteArray) (r2:Int) (r3:Int) (w:World) (h:aT.f a0 = some (r1,r2,r3)) :
    Calls Try.prog 124 #[.int .i64 a0] w fun e w'=>e = .returned (.tuple #[.string r1,.int .i64 r2,.int .i64 r3]) ∧ aY w w':=by
  have H:(some ((⟨#[]⟩:ByteArray),0,a0)) = some (r1,r2,r3):=h
  clear h
  simp only [Option.some.injEq,Prod.mk.injEq] at H
  obtain ⟨rfl,rfl,rfl⟩:=H
  go_enter Try.func124,Try.ntmps124
  go_wp2
  go_ret3
  exact ⟨by first | rfl | (simp;done) | (simp [*];done),by repeat (first | exact aY.refl _ | apply aY.step)⟩
def aU.l0 : Nat → ByteArray → Int → ByteArray → Int → Int → Option (ByteArray × Int × Int)
  | 0,_,_,_,_,_=>none
  | k + 1,x0,x1,x7,x8,x9=>(av.f k x0 x1 1).bind fun AJ=>(if AJ.2 = true then (if AJ.1 = 0 then (if x8 < 0 then (if x7.size + 1 ≤ 9223372036854775807 then (some (x7 ++ (⟨#[0]⟩:ByteArray),wrap64 (x1 + 1),0)) else (none)) else (if x7.size + 1 ≤ 9223372036854775807 then (some (x7 ++ (⟨#[0]⟩:ByteArray),x8,0)) else (none))) else (if AJ.1 ≥ 192 then ((av.f k x0 x1 2).bind fun jR=>(if jR.2 = true then (if (wrap64 (jR.1 - 49152)) ≥ x9 then ((aT.f 3).bind fun ko=>(some (ko.1,ko.2.1,ko.2.2))) else (if x8 < 0 then (aU.l0 k x0 (wrap64 (jR.1 - 49152)) x7 (wrap64 (x1 + 2)) (wrap64 (jR.1 - 49152))) else (aU.l0 k x0 (wrap64 (jR.1 - 49152)) x7 x8 (wrap64 (jR.1 - 49152))))) else ((aT.f 2).bind fun kr=>(some (kr.1,kr.2.1,kr.2.2))))) else (if AJ.1 > 63 then ((aT.f 3).bind fun pQ=>(some (pQ.1,pQ.2.1,pQ.2.2))) else ((bC.f x0 x1 (wrap64 (AJ.1 + 1))).bind fun mY=>(if mY.2 = true then (if x7.size + mY.1.size ≤ 9223372036854775807 then (if (wrap64 (((x7 ++ mY.1).size:Int) + 1)) > 255 then ((aT.f 3).bind fun ku=>(some (ku.1,ku.2.1,ku.2.2))) else (aU.l0 k x0 (wrap64 ((wrap64 (x1 + AJ.1)) + 1)) (x7 ++ mY.1) x8 x9)) else (none)) else ((aT.f 2).bind fun kC=>(some (kC.1,kC.2.1,kC.2.2)))))))) else ((aT.f 2).bind fun pR=>(some (pR.1,pR.2.1,pR.2.2))))
def aU.f (k:Nat) (a0:ByteArray) (a1:Int):Option (ByteArray × Int × Int):=aU.l0 k a0 a1 (⟨#[]⟩:ByteArray) (-1) a1
set_option maxHeartbeats 8000000 in
set_option maxRecDepth 100000 in
theorem aU.calls (k:Nat) (a0:ByteArray) (a1:Int) (r1:ByteArray) (r2:Int) (r3:Int) (w:World) (h:aU.f k a0 a1 = some (r1,r2,r3)) :
    Calls Try.prog 118 #[.string a0,.int .i64 a1] w fun e w'=>e = .returned (.tuple #[.string r1,.int .i64 r2,.int .i64 r3]) ∧ aY w w':=by
  have H:(aU.l0 k a0 a1 (⟨#[]⟩:ByteArray) (-1) a1) = some (r1,r2,r3):=h
  clear h
  have H':=aj.mk H
  clear H
  go_enter Try.func118,Try.ntmps118
  go_wp2
  go_loopg [1,7,8,9] k (fun kq v1 v7 v8 v9 w'=>∃ (dS:Int) (dK:ByteArray) (gJ:Int) (iJ:Int),v1 = .int .i64 dS ∧ v7 = .string dK ∧ v8 = .int .i64 gJ ∧ v9 = .int .i64 iJ ∧ aj (aU.l0 kq a0 dS dK gJ iJ = some (r1,r2,r3)) ∧ aj (kq ≤ k) ∧ aY w w')
  case atStart=>exact ⟨(a1),((⟨#[]⟩:ByteArray)),((-1)),(a1),(by first | rfl | (simp;done) | (simp [*];done) | (simp [B.aV];done) | (simp [B.aW];done)),(by first | rfl | (simp;done) | (simp [*];done) | (simp [B.aV];done) | (simp [B.aW];done)),(by first | rfl | (simp;done) | (simp [*];done) | (simp [B.aV];done) | (simp [B.aW];done)),(by first | rfl | (simp;done) | (simp [*];done) | (simp [B.aV];done) | (simp [B.aW];done)),H',⟨Nat.le_refl _⟩,by repeat (first | exact aY.refl _ | apply aY.step)⟩
  case round =>
    clear H'
    try clear c1
    try clear p2
    obtain ⟨dS,dK,gJ,iJ,rfl,rfl,rfl,rfl,HA,uz,⟨m1,rfl⟩⟩:=hrel
    cases gk with
    | zero=>exact absurd HA.out (by simp [aU.l0])
    | succ k1 =>
      have H:=HA.out
      clear HA
      simp only [aU.l0] at H
      replace H:=zbm H
      obtain ⟨⟨iH,ZI⟩,Sn,H⟩:=H
      replace H:(if ZI = true then (if iH = 0 then (if gJ < 0 then (if dK.size + 1 ≤ 9223372036854775807 then (some (dK ++ (⟨#[0]⟩:ByteArray),wrap64 (dS + 1),0)) else (none)) else (if dK.size + 1 ≤ 9223372036854775807 then (some (dK ++ (⟨#[0]⟩:ByteArray),gJ,0)) else (none))) else (if iH ≥ 192 then ((av.f k1 a0 dS 2).bind fun jR=>(if jR.2 = true then (if (wrap64 (jR.1 - 49152)) ≥ iJ then ((aT.f 3).bind fun ko=>(some (ko.1,ko.2.1,ko.2.2))) else (if gJ < 0 then (aU.l0 k1 a0 (wrap64 (jR.1 - 49152)) dK (wrap64 (dS + 2)) (wrap64 (jR.1 - 49152))) else (aU.l0 k1 a0 (wrap64 (jR.1 - 49152)) dK gJ (wrap64 (jR.1 - 49152))))) else ((aT.f 2).bind fun kr=>(some (kr.1,kr.2.1,kr.2.2))))) else (if iH > 63 then ((aT.f 3).bind fun pQ=>(some (pQ.1,pQ.2.1,pQ.2.2))) else ((bC.f a0 dS (wrap64 (iH + 1))).bind fun mY=>(if mY.2 = true then (if dK.size + mY.1.size ≤ 9223372036854775807 then (if (wrap64 (((dK ++ mY.1).size:Int) + 1)) > 255 then ((aT.f 3).bind fun ku=>(some (ku.1,ku.2.1,ku.2.2))) else (aU.l0 k1 a0 (wrap64 ((wrap64 (dS + iH)) + 1)) (dK ++ mY.1) gJ iJ)) else (none)) else ((aT.f 2).bind fun kC=>(some (kC.1,kC.2.1,kC.2.2)))))))) else ((aT.f 2).bind fun pR=>(some (pR.1,pR.2.1,pR.2.2)))) = some (r1,r2,r3):=H
      have A3:=aj.mk Sn
      clear Sn
      by_cases c4:ZI = true
      · subst c4
        have H1:(if iH = 0 then (if gJ < 0 then (if dK.size + 1 ≤ 9223372036854775807 then (some (dK ++ (⟨#[0]⟩:ByteArray),wrap64 (dS + 1),0)) else (none)) else (if dK.size + 1 ≤ 9223372036854775807 then (some (dK ++ (⟨#[0]⟩:ByteArray),gJ,0)) else (none))) else (if iH ≥ 192 then ((av.f k1 a0 dS 2).bind fun jR=>(if jR.2 = true then (if (wrap64 (jR.1 - 49152)) ≥ iJ then ((aT.f 3).bind fun ko=>(some (ko.1,ko.2.1,ko.2.2))) else (if gJ < 0 then (aU.l0 k1 a0 (wrap64 (jR.1 - 49152)) dK (wrap64 (dS + 2)) (wrap64 (jR.1 - 49152))) else (aU.l0 k1 a0 (wrap64 (jR.1 - 49152)) dK gJ (wrap64 (jR.1 - 49152))))) else ((aT.f 2).bind fun kr=>(some (kr.1,kr.2.1,kr.2.2))))) else (if iH > 63 then ((aT.f 3).bind fun pQ=>(some (pQ.1,pQ.2.1,pQ.2.2))) else ((bC.f a0 dS (wrap64 (iH + 1))).bind fun mY=>(if mY.2 = true then (if dK.size + mY.1.size ≤ 9223372036854775807 then (if (wrap64 (((dK ++ mY.1).size:Int) + 1)) > 255 then ((aT.f 3).bind fun ku=>(some (ku.1,ku.2.1,ku.2.2))) else (aU.l0 k1 a0 (wrap64 ((wrap64 (dS + iH)) + 1)) (dK ++ mY.1) gJ iJ)) else (none)) else ((aT.f 2).bind fun kC=>(some (kC.1,kC.2.1,kC.2.2)))))))) = some (r1,r2,r3):=by rw [if_pos rfl] at H;exact H
        clear H
        have H:=H1
        clear H1
        by_cases c5:iH = 0
        · rw [if_pos c5] at H
          have pK:(iH == 0) = true:=beq_iff_eq.mpr c5
          have vE:(iH != 0) = false:=bne_eq_false_iff_eq.mpr c5
          clear c5
          by_cases c6:gJ < 0
          · rw [if_pos c6] at H
            have zN:decide (gJ < 0) = true:=decide_eq_true c6
            clear c6
            by_cases c7:dK.size + 1 ≤ 9223372036854775807
            · rw [if_pos c7] at H
              have uJ:=eq_true c7
              have JW:decide (dK.size + 1 ≤ 9223372036854775807) = true:=decide_eq_true c7
              try have PY:(9223372036854775807 < dK.size + 1) = False:=eq_false (Nat.not_lt.2 c7)
              simp only [Option.some.injEq,Prod.mk.injEq] at H
              obtain ⟨rfl,rfl,rfl⟩:=H
              go_wp2_with (first | ((with_reducible refine aQ (f:=75) rfl ?_);refine bQ (some 20) rfl rfl Try.func75 (by kernel_rfl) rfl #[.string a0,.int .i64 dS,.int .i64 1] rfl (by (try simp only [List.map_toArray,List.map_cons,List.map_nil]);first | done | rfl | (simp only [List.length_drop,List.length_take];rfl) | (simp only [ByteArray.size_append,Int.natCast_add];rfl) | (rw [B.dQ] <;> first | rfl | omega | (simp only [decide_eq_false_iff_not,decide_eq_true_eq,Int.not_lt,Nat.not_lt,gt_iff_lt] at * <;> omega))) ?_;(with_reducible refine (av.calls k1 a0 dS 1 iH true _ A3.out).mono ?_);rintro e w' ⟨rfl,⟨nd,rfl⟩⟩;refine ⟨_,rfl,?_⟩))
              go_ret3
              exact ⟨by first | rfl | (simp;done) | (simp [*];done),by repeat (first | exact aY.refl _ | apply aY.step)⟩
            · rw [if_neg c7] at H
              exact absurd H (by simp)
          · rw [if_neg c6] at H
            have zN:decide (gJ < 0) = false:=decide_eq_false c6
            clear c6
            by_cases c8:dK.size + 1 ≤ 9223372036854775807
            · rw [if_pos c8] at H
              have rW:=eq_true c8
              have rX:decide (dK.size + 1 ≤ 9223372036854775807) = true:=decide_eq_true c8
              try have M4:(9223372036854775807 < dK.size + 1) = False:=eq_false (Nat.not_lt.2 c8)
              simp only [Option.some.injEq,Prod.mk.injEq] at H
              obtain ⟨rfl,rfl,rfl⟩:=H
              go_wp2_with (first | ((with_reducible refine aQ (f:=75) rfl ?_);refine bQ (some 20) rfl rfl Try.func75 (by kernel_rfl) rfl #[.string a0,.int .i64 dS,.int .i64 1] rfl (by (try simp only [List.map_toArray,List.map_cons,List.map_nil]);first | done | rfl | (simp only [List.length_drop,List.length_take];rfl) | (simp only [ByteArray.size_append,Int.natCast_add];rfl) | (rw [B.dQ] <;> first | rfl | omega | (simp only [decide_eq_false_iff_not,decide_eq_true_eq,Int.not_lt,Nat.not_lt,gt_iff_lt] at * <;> omega))) ?_;(with_reducible refine (av.calls k1 a0 dS 1 iH true _ A3.out).mono ?_);rintro e w' ⟨rfl,⟨nd,rfl⟩⟩;refine ⟨_,rfl,?_⟩))
              go_ret3
              exact ⟨by first | rfl | (simp;done) | (simp [*];done),by repeat (first | exact aY.refl _ | apply aY.step)⟩
            · rw [if_neg c8] at H
              exact absurd H (by simp)
        · rw [if_neg c5] at H
          have pK:(iH == 0) = false:=beq_eq_false_iff_ne.mpr c5
          have vE:(iH != 0) = true:=bne_iff_ne.mpr c5
          by_cases c9:iH ≥ 192
          · rw [if_pos c9] at H
            have uD:decide (192 ≤ iH) = true:=decide_eq_true c9
            clear c9
            replace H:=zbm H
            obtain ⟨⟨t141,ZJ⟩,Nb,H⟩:=H
            replace H:(if ZJ = true then (if (wrap64 (t141 - 49152)) ≥ iJ then ((aT.f 3).bind fun ko=>(some (ko.1,ko.2.1,ko.2.2))) else (if gJ < 0 then (aU.l0 k1 a0 (wrap64 (t141 - 49152)) dK (wrap64 (dS + 2)) (wrap64 (t141 - 49152))) else (aU.l0 k1 a0 (wrap64 (t141 - 49152)) dK gJ (wrap64 (t141 - 49152))))) else ((aT.f 2).bind fun kr=>(some (kr.1,kr.2.1,kr.2.2)))) = some (r1,r2,r3):=H
            have Sq:=aj.mk Nb
            clear Nb
            by_cases c11:ZJ = true
            · subst c11
              have H1:(if (wrap64 (t141 - 49152)) ≥ iJ then ((aT.f 3).bind fun ko=>(some (ko.1,ko.2.1,ko.2.2))) else (if gJ < 0 then (aU.l0 k1 a0 (wrap64 (t141 - 49152)) dK (wrap64 (dS + 2)) (wrap64 (t141 - 49152))) else (aU.l0 k1 a0 (wrap64 (t141 - 49152)) dK gJ (wrap64 (t141 - 49152))))) = some (r1,r2,r3):=by rw [if_pos rfl] at H;exact H
              clear H
              have H:=H1
              clear H1
              by_cases c12:(wrap64 (t141 - 49152)) ≥ iJ
              · rw [if_pos c12] at H
                have uE:decide (iJ ≤ (wrap64 (t141 - 49152))) = true:=decide_eq_true c12
                (try (have uF:decide (iJ ≤ ((t141 - 49152))) = true:=by have h_:decide (iJ ≤ (wrap64 (t141 - 49152))) = true:=decide_eq_true c12;rw [B.dQ (by omega) (by omega)] at h_;exact h_))
                clear c12
                replace H:=zbm H
                obtain ⟨⟨t146,ZK,t148⟩,ZL,H⟩:=H
                replace H:(some (t146,ZK,t148)) = some (r1,r2,r3):=H
                have A13:=aj.mk ZL
                clear ZL
                simp only [Option.some.injEq,Prod.mk.injEq] at H
                obtain ⟨rfl,rfl,rfl⟩:=H
                go_wp2_with (first | ((with_reducible refine aQ (f:=75) rfl ?_);refine bQ (some 20) rfl rfl Try.func75 (by kernel_rfl) rfl #[.string a0,.int .i64 dS,.int .i64 1] rfl (by (try simp only [List.map_toArray,List.map_cons,List.map_nil]);first | done | rfl | (simp only [List.length_drop,List.length_take];rfl) | (simp only [ByteArray.size_append,Int.natCast_add];rfl) | (rw [B.dQ] <;> first | rfl | omega | (simp only [decide_eq_false_iff_not,decide_eq_true_eq,Int.not_lt,Nat.not_lt,gt_iff_lt] at * <;> omega))) ?_;(with_reducible refine (av.calls k1 a0 dS 1 iH true _ A3.out).mono ?_);rintro e w' ⟨rfl,⟨nd,rfl⟩⟩;refine ⟨_,rfl,?_⟩) | ((with_reducible refine aQ (f:=75) rfl ?_);refine bQ (some 43) rfl rfl Try.func75 (by kernel_rfl) rfl #[.string a0,.int .i64 dS,.int .i64 2] rfl (by (try simp only [List.map_toArray,List.map_cons,List.map_nil]);first | done | rfl | (simp only [List.length_drop,List.length_take];rfl) | (simp only [ByteArray.size_append,Int.natCast_add];rfl) | (rw [B.dQ] <;> first | rfl | omega | (simp only [decide_eq_false_iff_not,decide_eq_true_eq,Int.not_lt,Nat.not_lt,gt_iff_lt] at * <;> omega))) ?_;(with_reducible refine (av.calls k1 a0 dS 2 t141 true _ Sq.out).mono ?_);rintro e w' ⟨rfl,⟨nd,rfl⟩⟩;refine ⟨_,rfl,?_⟩) | ((with_reducible refine aQ (f:=124) rfl ?_);refine bQ (some 56) rfl rfl Try.func124 (by kernel_rfl) rfl #[.int .i64 3] rfl (by (try simp only [List.map_toArray,List.map_cons,List.map_nil]);first | done | rfl | (simp only [List.length_drop,List.length_take];rfl) | (simp only [ByteArray.size_append,Int.natCast_add];rfl) | (rw [B.dQ] <;> first | rfl | omega | (simp only [decide_eq_false_iff_not,decide_eq_true_eq,Int.not_lt,Nat.not_lt,gt_iff_lt] at * <;> omega))) ?_;(with_reducible refine (aT.calls 3 t146 ZK t148 _ A13.out).mono ?_);rintro e w' ⟨rfl,⟨nd,rfl⟩⟩;refine ⟨_,rfl,?_⟩))
                go_ret3
                exact ⟨by first | rfl | (simp;done) | (simp [*];done),by repeat (first | exact aY.refl _ | apply aY.step)⟩
              · rw [if_neg c12] at H
                have uE:decide (iJ ≤ (wrap64 (t141 - 49152))) = false:=decide_eq_false c12
                (try (have uF:decide (iJ ≤ ((t141 - 49152))) = false:=by have h_:decide (iJ ≤ (wrap64 (t141 - 49152))) = false:=decide_eq_false c12;rw [B.dQ (by omega) (by omega)] at h_;exact h_))
                clear c12
                by_cases c14:gJ < 0
                · rw [if_pos c14] at H
                  have AB:decide (gJ < 0) = true:=decide_eq_true c14
                  clear c14
                  have H':=aj.mk H
                  clear H
                  go_wp2_with (first | ((with_reducible refine aQ (f:=75) rfl ?_);refine bQ (some 20) rfl rfl Try.func75 (by kernel_rfl) rfl #[.string a0,.int .i64 dS,.int .i64 1] rfl (by (try simp only [List.map_toArray,List.map_cons,List.map_nil]);first | done | rfl | (simp only [List.length_drop,List.length_take];rfl) | (simp only [ByteArray.size_append,Int.natCast_add];rfl) | (rw [B.dQ] <;> first | rfl | omega | (simp only [decide_eq_false_iff_not,decide_eq_true_eq,Int.not_lt,Nat.not_lt,gt_iff_lt] at * <;> omega))) ?_;(with_reducible refine (av.calls k1 a0 dS 1 iH true _ A3.out).mono ?_);rintro e w' ⟨rfl,⟨nd,rfl⟩⟩;refine ⟨_,rfl,?_⟩) | ((with_reducible refine aQ (f:=75) rfl ?_);refine bQ (some 43) rfl rfl Try.func75 (by kernel_rfl) rfl #[.string a0,.int .i64 dS,.int .i64 2] rfl (by (try simp only [List.map_toArray,List.map_cons,List.map_nil]);first | done | rfl | (simp only [List.length_drop,List.length_take];rfl) | (simp only [ByteArray.size_append,Int.natCast_add];rfl) | (rw [B.dQ] <;> first | rfl | omega | (simp only [decide_eq_false_iff_not,decide_eq_true_eq,Int.not_lt,Nat.not_lt,gt_iff_lt] at * <;> omega))) ?_;(with_reducible refine (av.calls k1 a0 dS 2 t141 true _ Sq.out).mono ?_);rintro e w' ⟨rfl,⟨nd,rfl⟩⟩;refine ⟨_,rfl,?_⟩))
                  go_roundg k1
                  case measure=>have:=uz.out;omega
                  case rel=>exact ⟨(wrap64 (t141 - 49152)),(dK),(wrap64 (dS + 2)),(wrap64 (t141 - 49152)),(by first | rfl | (simp;done) | (simp [*];done) | (simp [B.aV];done) | (simp [B.aW];done)),(by first | rfl | (simp;done) | (simp [*];done) | (simp [B.aV];done) | (simp [B.aW];done)),(by first | rfl | (simp;done) | (simp [*];done) | (simp [B.aV];done) | (simp [B.aW];done)),(by first | rfl | (simp;done) | (simp [*];done) | (simp [B.aV];done) | (simp [B.aW];done)),H',⟨by have:=uz.out;omega⟩,by repeat (first | exact aY.refl _ | apply aY.step)⟩
                · rw [if_neg c14] at H
                  have AB:decide (gJ < 0) = false:=decide_eq_false c14
                  clear c14
                  have H':=aj.mk H
                  clear H
                  go_wp2_with (first | ((with_reducible refine aQ (f:=75) rfl ?_);refine bQ (some 20) rfl rfl Try.func75 (by kernel_rfl) rfl #[.string a0,.int .i64 dS,.int .i64 1] rfl (by (try simp only [List.map_toArray,List.map_cons,List.map_nil]);first | done | rfl | (simp only [List.length_drop,List.length_take];rfl) | (simp only [ByteArray.size_append,Int.natCast_add];rfl) | (rw [B.dQ] <;> first | rfl | omega | (simp only [decide_eq_false_iff_not,decide_eq_true_eq,Int.not_lt,Nat.not_lt,gt_iff_lt] at * <;> omega))) ?_;(with_reducible refine (av.calls k1 a0 dS 1 iH true _ A3.out).mono ?_);rintro e w' ⟨rfl,⟨nd,rfl⟩⟩;refine ⟨_,rfl,?_⟩) | ((with_reducible refine aQ (f:=75) rfl ?_);refine bQ (some 43) rfl rfl Try.func75 (by kernel_rfl) rfl #[.string a0,.int .i64 dS,.int .i64 2] rfl (by (try simp only [List.map_toArray,List.map_cons,List.map_nil]);first | done | rfl | (simp only [List.length_drop,List.length_take];rfl) | (simp only [ByteArray.size_append,Int.natCast_add];rfl) | (rw [B.dQ] <;> first | rfl | omega | (simp only [decide_eq_false_iff_not,decide_eq_true_eq,Int.not_lt,Nat.not_lt,gt_iff_lt] at * <;> omega))) ?_;(with_reducible refine (av.calls k1 a0 dS 2 t141 true _ Sq.out).mono ?_);rintro e w' ⟨rfl,⟨nd,rfl⟩⟩;refine ⟨_,rfl,?_⟩))
                  go_roundg k1
                  case measure=>have:=uz.out;omega
                  case rel=>exact ⟨(wrap64 (t141 - 49152)),(dK),(gJ),(wrap64 (t141 - 49152)),(by first | rfl | (simp;done) | (simp [*];done) | (simp [B.aV];done) | (simp [B.aW];done)),(by first | rfl | (simp;done) | (simp [*];done) | (simp [B.aV];done) | (simp [B.aW];done)),(by first | rfl | (simp;done) | (simp [*];done) | (simp [B.aV];done) | (simp [B.aW];done)),(by first | rfl | (simp;done) | (simp [*];done) | (simp [B.aV];done) | (simp [B.aW];done)),H',⟨by have:=uz.out;omega⟩,by repeat (first | exact aY.refl _ | apply aY.step)⟩
            · replace c11:=Bool.eq_false_iff.mpr c11
              subst c11
              have H1:((aT.f 2).bind fun kr=>(some (kr.1,kr.2.1,kr.2.2))) = some (r1,r2,r3):=by rw [if_neg (show ¬ (false = true) by decide)] at H;exact H
              clear H
              have H:=H1
              clear H1
              replace H:=zbm H
              obtain ⟨⟨t143,ZM,t145⟩,ZN,H⟩:=H
              replace H:(some (t143,ZM,t145)) = some (r1,r2,r3):=H
              have A15:=aj.mk ZN
              clear ZN
              simp only [Option.some.injEq,Prod.mk.injEq] at H
              obtain ⟨rfl,rfl,rfl⟩:=H
              go_wp2_with (first | ((with_reducible refine aQ (f:=75) rfl ?_);refine bQ (some 20) rfl rfl Try.func75 (by kernel_rfl) rfl #[.string a0,.int .i64 dS,.int .i64 1] rfl (by (try simp only [List.map_toArray,List.map_cons,List.map_nil]);first | done | rfl | (simp only [List.length_drop,List.length_take];rfl) | (simp only [ByteArray.size_append,Int.natCast_add];rfl) | (rw [B.dQ] <;> first | rfl | omega | (simp only [decide_eq_false_iff_not,decide_eq_true_eq,Int.not_lt,Nat.not_lt,gt_iff_lt] at * <;> omega))) ?_;(with_reducible refine (av.calls k1 a0 dS 1 iH true _ A3.out).mono ?_);rintro e w' ⟨rfl,⟨nd,rfl⟩⟩;refine ⟨_,rfl,?_⟩) | ((with_reducible refine aQ (f:=75) rfl ?_);refine bQ (some 43) rfl rfl Try.func75 (by kernel_rfl) rfl #[.string a0,.int .i64 dS,.int .i64 2] rfl (by (try simp only [List.map_toArray,List.map_cons,List.map_nil]);first | done | rfl | (simp only [List.length_drop,List.length_take];rfl) | (simp only [ByteArray.size_append,Int.natCast_add];rfl) | (rw [B.dQ] <;> first | rfl | omega | (simp only [decide_eq_false_iff_not,decide_eq_true_eq,Int.not_lt,Nat.not_lt,gt_iff_lt] at * <;> omega))) ?_;(with_reducible refine (av.calls k1 a0 dS 2 t141 false _ Sq.out).mono ?_);rintro e w' ⟨rfl,⟨nd,rfl⟩⟩;refine ⟨_,rfl,?_⟩) | ((with_reducible refine aQ (f:=124) rfl ?_);refine bQ (some 48) rfl rfl Try.func124 (by kernel_rfl) rfl #[.int .i64 2] rfl (by (try simp only [List.map_toArray,List.map_cons,List.map_nil]);first | done | rfl | (simp only [List.length_drop,List.length_take];rfl) | (simp only [ByteArray.size_append,Int.natCast_add];rfl) | (rw [B.dQ] <;> first | rfl | omega | (simp only [decide_eq_false_iff_not,decide_eq_true_eq,Int.not_lt,Nat.not_lt,gt_iff_lt] at * <;> omega))) ?_;(with_reducible refine (aT.calls 2 t143 ZM t145 _ A15.out).mono ?_);rintro e w' ⟨rfl,⟨nd,rfl⟩⟩;refine ⟨_,rfl,?_⟩))
              go_ret3
              exact ⟨by first | rfl | (simp;done) | (simp [*];done),by repeat (first | exact aY.refl _ | apply aY.step)⟩
          · rw [if_neg c9] at H
            have uD:decide (192 ≤ iH) = false:=decide_eq_false c9
            clear c9
            by_cases c16:iH > 63
            · rw [if_pos c16] at H
              have Il:decide (63 < iH) = true:=decide_eq_true c16
              clear c16
              replace H:=zbm H
              obtain ⟨⟨ZO,ZP,ZR⟩,ZT,H⟩:=H
              replace H:(some (ZO,ZP,ZR)) = some (r1,r2,r3):=H
              have A17:=aj.mk ZT
              clear ZT
              simp only [Option.some.injEq,Prod.mk.injEq] at H
              obtain ⟨rfl,rfl,rfl⟩:=H
              go_wp2_with (first | ((with_reducible refine aQ (f:=75) rfl ?_);refine bQ (some 20) rfl rfl Try.func75 (by kernel_rfl) rfl #[.string a0,.int .i64 dS,.int .i64 1] rfl (by (try simp only [List.map_toArray,List.map_cons,List.map_nil]);first | done | rfl | (simp only [List.length_drop,List.length_take];rfl) | (simp only [ByteArray.size_append,Int.natCast_add];rfl) | (rw [B.dQ] <;> first | rfl | omega | (simp only [decide_eq_false_iff_not,decide_eq_true_eq,Int.not_lt,Nat.not_lt,gt_iff_lt] at * <;> omega))) ?_;(with_reducible refine (av.calls k1 a0 dS 1 iH true _ A3.out).mono ?_);rintro e w' ⟨rfl,⟨nd,rfl⟩⟩;refine ⟨_,rfl,?_⟩) | ((with_reducible refine aQ (f:=124) rfl ?_);refine bQ (some 69) rfl rfl Try.func124 (by kernel_rfl) rfl #[.int .i64 3] rfl (by (try simp only [List.map_toArray,List.map_cons,List.map_nil]);first | done | rfl | (simp only [List.length_drop,List.length_take];rfl) | (simp only [ByteArray.size_append,Int.natCast_add];rfl) | (rw [B.dQ] <;> first | rfl | omega | (simp only [decide_eq_false_iff_not,decide_eq_true_eq,Int.not_lt,Nat.not_lt,gt_iff_lt] at * <;> omega))) ?_;(with_reducible refine (aT.calls 3 ZO ZP ZR _ A17.out).mono ?_);rintro e w' ⟨rfl,⟨nd,rfl⟩⟩;refine ⟨_,rfl,?_⟩))
              go_ret3
              exact ⟨by first | rfl | (simp;done) | (simp [*];done),by repeat (first | exact aY.refl _ | apply aY.step)⟩
            · rw [if_neg c16] at H
              have Il:decide (63 < iH) = false:=decide_eq_false c16
              clear c16
              replace H:=zbm H
              obtain ⟨⟨t152,ZU⟩,Nc,H⟩:=H
              replace H:(if ZU = true then (if dK.size + t152.size ≤ 9223372036854775807 then (if (wrap64 (((dK ++ t152).size:Int) + 1)) > 255 then ((aT.f 3).bind fun ku=>(some (ku.1,ku.2.1,ku.2.2))) else (aU.l0 k1 a0 (wrap64 ((wrap64 (dS + iH)) + 1)) (dK ++ t152) gJ iJ)) else (none)) else ((aT.f 2).bind fun kC=>(some (kC.1,kC.2.1,kC.2.2)))) = some (r1,r2,r3):=H
              have Vx:=aj.mk Nc
              clear Nc
              by_cases c19:ZU = true
              · subst c19
                have H1:(if dK.size + t152.size ≤ 9223372036854775807 then (if (wrap64 (((dK ++ t152).size:Int) + 1)) > 255 then ((aT.f 3).bind fun ku=>(some (ku.1,ku.2.1,ku.2.2))) else (aU.l0 k1 a0 (wrap64 ((wrap64 (dS + iH)) + 1)) (dK ++ t152) gJ iJ)) else (none)) = some (r1,r2,r3):=by rw [if_pos rfl] at H;exact H
                clear H
                have H:=H1
                clear H1
                by_cases c20:dK.size + t152.size ≤ 9223372036854775807
                · rw [if_pos c20] at H
                  have Nf:=eq_true c20
                  have ZV:decide (dK.size + t152.size ≤ 9223372036854775807) = true:=decide_eq_true c20
                  try have af9:(9223372036854775807 < dK.size + t152.size) = False:=eq_false (Nat.not_lt.2 c20)
                  by_cases c21:(wrap64 (((dK ++ t152).size:Int) + 1)) > 255
                  · rw [if_pos c21] at H
                    have Sw:decide (255 < (wrap64 (((dK ++ t152).size:Int) + 1))) = true:=decide_eq_true c21
                    (try (have Sy:decide (255 < (wrap64 (((dK.size:Int) + (t152.size:Int)) + 1))) = true:=by have h_:decide (255 < (wrap64 (((dK ++ t152).size:Int) + 1))) = true:=decide_eq_true c21;rw [show ((dK ++ t152).size:Int) = ((dK.size:Int) + (t152.size:Int)) from by (simp only [ByteArray.size_append,Int.natCast_add];first | done | rfl)] at h_;(first | exact h_ | (simp only [Int.add_sub_cancel] at h_;exact h_))))
                    (try (have ZW:decide (255 < ((((dK ++ t152).size:Int) + 1))) = true:=by have h_:decide (255 < (wrap64 (((dK ++ t152).size:Int) + 1))) = true:=decide_eq_true c21;rw [B.dQ (by omega) (by omega)] at h_;exact h_))
                    (try (have ZX:decide (255 < ((((dK.size:Int) + (t152.size:Int)) + 1))) = true:=by have h_:decide (255 < (wrap64 (((dK.size:Int) + (t152.size:Int)) + 1))) = true:=by have h_:decide (255 < (wrap64 (((dK ++ t152).size:Int) + 1))) = true:=decide_eq_true c21;rw [show ((dK ++ t152).size:Int) = ((dK.size:Int) + (t152.size:Int)) from by (simp only [ByteArray.size_append,Int.natCast_add];first | done | rfl)] at h_;(first | exact h_ | (simp only [Int.add_sub_cancel] at h_;exact h_));rw [B.dQ (by omega) (by omega)] at h_;exact h_))
                    clear c21
                    replace H:=zbm H
                    obtain ⟨⟨t154,ZY,t156⟩,Z0,H⟩:=H
                    replace H:(some (t154,ZY,t156)) = some (r1,r2,r3):=H
                    have A22:=aj.mk Z0
                    clear Z0
                    simp only [Option.some.injEq,Prod.mk.injEq] at H
                    obtain ⟨rfl,rfl,rfl⟩:=H
                    go_wp2_with (first | ((with_reducible refine aQ (f:=75) rfl ?_);refine bQ (some 20) rfl rfl Try.func75 (by kernel_rfl) rfl #[.string a0,.int .i64 dS,.int .i64 1] rfl (by (try simp only [List.map_toArray,List.map_cons,List.map_nil]);first | done | rfl | (simp only [List.length_drop,List.length_take];rfl) | (simp only [ByteArray.size_append,Int.natCast_add];rfl) | (rw [B.dQ] <;> first | rfl | omega | (simp only [decide_eq_false_iff_not,decide_eq_true_eq,Int.not_lt,Nat.not_lt,gt_iff_lt] at * <;> omega))) ?_;(with_reducible refine (av.calls k1 a0 dS 1 iH true _ A3.out).mono ?_);rintro e w' ⟨rfl,⟨nd,rfl⟩⟩;refine ⟨_,rfl,?_⟩) | ((with_reducible refine aQ (f:=99) rfl ?_);refine bQ (some 78) rfl rfl Try.func99 (by kernel_rfl) rfl #[.string a0,.int .i64 dS,.int .i64 (wrap64 (iH + 1))] rfl (by (try simp only [List.map_toArray,List.map_cons,List.map_nil]);first | done | rfl | (simp only [List.length_drop,List.length_take];rfl) | (simp only [ByteArray.size_append,Int.natCast_add];rfl) | (rw [B.dQ] <;> first | rfl | omega | (simp only [decide_eq_false_iff_not,decide_eq_true_eq,Int.not_lt,Nat.not_lt,gt_iff_lt] at * <;> omega))) ?_;(with_reducible refine (bC.calls a0 dS (wrap64 (iH + 1)) t152 true _ Vx.out).mono ?_);rintro e w' ⟨rfl,⟨nd,rfl⟩⟩;refine ⟨_,rfl,?_⟩) | ((with_reducible refine aQ (f:=124) rfl ?_);refine bQ (some 94) rfl rfl Try.func124 (by kernel_rfl) rfl #[.int .i64 3] rfl (by (try simp only [List.map_toArray,List.map_cons,List.map_nil]);first | done | rfl | (simp only [List.length_drop,List.length_take];rfl) | (simp only [ByteArray.size_append,Int.natCast_add];rfl) | (rw [B.dQ] <;> first | rfl | omega | (simp only [decide_eq_false_iff_not,decide_eq_true_eq,Int.not_lt,Nat.not_lt,gt_iff_lt] at * <;> omega))) ?_;(with_reducible refine (aT.calls 3 t154 ZY t156 _ A22.out).mono ?_);rintro e w' ⟨rfl,⟨nd,rfl⟩⟩;refine ⟨_,rfl,?_⟩))
                    go_ret3
                    exact ⟨by first | rfl | (simp;done) | (simp [*];done),by repeat (first | exact aY.refl _ | apply aY.step)⟩
                  · rw [if_neg c21] at H
                    have Sw:decide (255 < (wrap64 (((dK ++ t152).size:Int) + 1))) = false:=decide_eq_false c21
                    (try (have Sy:decide (255 < (wrap64 (((dK.size:Int) + (t152.size:Int)) + 1))) = false:=by have h_:decide (255 < (wrap64 (((dK ++ t152).size:Int) + 1))) = false:=decide_eq_false c21;rw [show ((dK ++ t152).size:Int) = ((dK.size:Int) + (t152.size:Int)) from by (simp only [ByteArray.size_append,Int.natCast_add];first | done | rfl)] at h_;(first | exact h_ | (simp only [Int.add_sub_cancel] at h_;exact h_))))
                    (try (have ZW:decide (255 < ((((dK ++ t152).size:Int) + 1))) = false:=by have h_:decide (255 < (wrap64 (((dK ++ t152).size:Int) + 1))) = false:=decide_eq_false c21;rw [B.dQ (by omega) (by omega)] at h_;exact h_))
                    (try (have ZX:decide (255 < ((((dK.size:Int) + (t152.size:Int)) + 1))) = false:=by have h_:decide (255 < (wrap64 (((dK.size:Int) + (t152.size:Int)) + 1))) = false:=by have h_:decide (255 < (wrap64 (((dK ++ t152).size:Int) + 1))) = false:=decide_eq_false c21;rw [show ((dK ++ t152).size:Int) = ((dK.size:Int) + (t152.size:Int)) from by (simp only [ByteArray.size_append,Int.natCast_add];first | done | rfl)] at h_;(first | exact h_ | (simp only [Int.add_sub_cancel] at h_;exact h_));rw [B.dQ (by omega) (by omega)] at h_;exact h_))
                    clear c21
                    have H':=aj.mk H
                    clear H
                    go_wp2_with (first | ((with_reducible refine aQ (f:=75) rfl ?_);refine bQ (some 20) rfl rfl Try.func75 (by kernel_rfl) rfl #[.string a0,.int .i64 dS,.int .i64 1] rfl (by (try simp only [List.map_toArray,List.map_cons,List.map_nil]);first | done | rfl | (simp only [List.length_drop,List.length_take];rfl) | (simp only [ByteArray.size_append,Int.natCast_add];rfl) | (rw [B.dQ] <;> first | rfl | omega | (simp only [decide_eq_false_iff_not,decide_eq_true_eq,Int.not_lt,Nat.not_lt,gt_iff_lt] at * <;> omega))) ?_;(with_reducible refine (av.calls k1 a0 dS 1 iH true _ A3.out).mono ?_);rintro e w' ⟨rfl,⟨nd,rfl⟩⟩;refine ⟨_,rfl,?_⟩) | ((with_reducible refine aQ (f:=99) rfl ?_);refine bQ (some 78) rfl rfl Try.func99 (by kernel_rfl) rfl #[.string a0,.int .i64 dS,.int .i64 (wrap64 (iH + 1))] rfl (by (try simp only [List.map_toArray,List.map_cons,List.map_nil]);first | done | rfl | (simp only [List.length_drop,List.length_take];rfl) | (simp only [ByteArray.size_append,Int.natCast_add];rfl) | (rw [B.dQ] <;> first | rfl | omega | (simp only [decide_eq_false_iff_not,decide_eq_true_eq,Int.not_lt,Nat.not_lt,gt_iff_lt] at * <;> omega))) ?_;(with_reducible refine (bC.calls a0 dS (wrap64 (iH + 1)) t152 true _ Vx.out).mono ?_);rintro e w' ⟨rfl,⟨nd,rfl⟩⟩;refine ⟨_,rfl,?_⟩))
                    go_roundg k1
                    case measure=>have:=uz.out;omega
                    case rel=>exact ⟨(wrap64 ((wrap64 (dS + iH)) + 1)),(dK ++ t152),(gJ),(iJ),(by first | rfl | (simp;done) | (simp [*];done) | (simp [B.aV];done) | (simp [B.aW];done)),(by first | rfl | (simp;done) | (simp [*];done) | (simp [B.aV];done) | (simp [B.aW];done)),(by first | rfl | (simp;done) | (simp [*];done) | (simp [B.aV];done) | (simp [B.aW];done)),(by first | rfl | (simp;done) | (simp [*];done) | (simp [B.aV];done) | (simp [B.aW];done)),H',⟨by have:=uz.out;omega⟩,by repeat (first | exact aY.refl _ | apply aY.step)⟩
                · rw [if_neg c20] at H
                  exact absurd H (by simp)
              · replace c19:=Bool.eq_false_iff.mpr c19
                subst c19
                have H1:((aT.f 2).bind fun kC=>(some (kC.1,kC.2.1,kC.2.2))) = some (r1,r2,r3):=by rw [if_neg (show ¬ (false = true) by decide)] at H;exact H
                clear H
                have H:=H1
                clear H1
                replace H:=zbm H
                obtain ⟨⟨t157,Z4,t159⟩,Z5,H⟩:=H
                replace H:(some (t157,Z4,t159)) = some (r1,r2,r3):=H
                have A23:=aj.mk Z5
                clear Z5
                simp only [Option.some.injEq,Prod.mk.injEq] at H
                obtain ⟨rfl,rfl,rfl⟩:=H
                go_wp2_with (first | ((with_reducible refine aQ (f:=75) rfl ?_);refine bQ (some 20) rfl rfl Try.func75 (by kernel_rfl) rfl #[.string a0,.int .i64 dS,.int .i64 1] rfl (by (try simp only [List.map_toArray,List.map_cons,List.map_nil]);first | done | rfl | (simp only [List.length_drop,List.length_take];rfl) | (simp only [ByteArray.size_append,Int.natCast_add];rfl) | (rw [B.dQ] <;> first | rfl | omega | (simp only [decide_eq_false_iff_not,decide_eq_true_eq,Int.not_lt,Nat.not_lt,gt_iff_lt] at * <;> omega))) ?_;(with_reducible refine (av.calls k1 a0 dS 1 iH true _ A3.out).mono ?_);rintro e w' ⟨rfl,⟨nd,rfl⟩⟩;refine ⟨_,rfl,?_⟩) | ((with_reducible refine aQ (f:=99) rfl ?_);refine bQ (some 78) rfl rfl Try.func99 (by kernel_rfl) rfl #[.string a0,.int .i64 dS,.int .i64 (wrap64 (iH + 1))] rfl (by (try simp only [List.map_toArray,List.map_cons,List.map_nil]);first | done | rfl | (simp only [List.length_drop,List.length_take];rfl) | (simp only [ByteArray.size_append,Int.natCast_add];rfl) | (rw [B.dQ] <;> first | rfl | omega | (simp only [decide_eq_false_iff_not,decide_eq_true_eq,Int.not_lt,Nat.not_lt,gt_iff_lt] at * <;> omega))) ?_;(with_reducible refine (bC.calls a0 dS (wrap64 (iH + 1)) t152 false _ Vx.out).mono ?_);rintro e w' ⟨rfl,⟨nd,rfl⟩⟩;refine ⟨_,rfl,?_⟩) | ((with_reducible refine aQ (f:=124) rfl ?_);refine bQ (some 83) rfl rfl Try.func124 (by kernel_rfl) rfl #[.int .i64 2] rfl (by (try simp only [List.map_toArray,List.map_cons,List.map_nil]);first | done | rfl | (simp only [List.length_drop,List.length_take];rfl) | (simp only [ByteArray.size_append,Int.natCast_add];rfl) | (rw [B.dQ] <;> first | rfl | omega | (simp only [decide_eq_false_iff_not,decide_eq_true_eq,Int.not_lt,Nat.not_lt,gt_iff_lt] at * <;> omega))) ?_;(with_reducible refine (aT.calls 2 t157 Z4 t159 _ A23.out).mono ?_);rintro e w' ⟨rfl,⟨nd,rfl⟩⟩;refine ⟨_,rfl,?_⟩))
                go_ret3
                exact ⟨by first | rfl | (simp;done) | (simp [*];done),by repeat (first | exact aY.refl _ | apply aY.step)⟩
      · replace c4:=Bool.eq_false_iff.mpr c4
        subst c4
        have H1:((aT.f 2).bind fun pR=>(some (pR.1,pR.2.1,pR.2.2))) = some (r1,r2,r3):=by rw [if_neg (show ¬ (false = true) by decide)] at H;exact H
        clear H
        have H:=H1
        clear H1
        replace H:=zbm H
        obtain ⟨⟨t138,t139,Z6⟩,Z7,H⟩:=H
        replace H:(some (t138,t139,Z6)) = some (r1,r2,r3):=H
        have A24:=aj.mk Z7
        clear Z7
        simp only [Option.some.injEq,Prod.mk.injEq] at H
        obtain ⟨rfl,rfl,rfl⟩:=H
        go_wp2_with (first | ((with_reducible refine aQ (f:=75) rfl ?_);refine bQ (some 20) rfl rfl Try.func75 (by kernel_rfl) rfl #[.string a0,.int .i64 dS,.int .i64 1] rfl (by (try simp only [List.map_toArray,List.map_cons,List.map_nil]);first | done | rfl | (simp only [List.length_drop,List.length_take];rfl) | (simp only [ByteArray.size_append,Int.natCast_add];rfl) | (rw [B.dQ] <;> first | rfl | omega | (simp only [decide_eq_false_iff_not,decide_eq_true_eq,Int.not_lt,Nat.not_lt,gt_iff_lt] at * <;> omega))) ?_;(with_reducible refine (av.calls k1 a0 dS 1 iH false _ A3.out).mono ?_);rintro e w' ⟨rfl,⟨nd,rfl⟩⟩;refine ⟨_,rfl,?_⟩) | ((with_reducible refine aQ (f:=124) rfl ?_);refine bQ (some 25) rfl rfl Try.func124 (by kernel_rfl) rfl #[.int .i64 2] rfl (by (try simp only [List.map_toArray,List.map_cons,List.map_nil]);first | done | rfl | (simp only [List.length_drop,List.length_take];rfl) | (simp only [ByteArray.size_append,Int.natCast_add];rfl) | (rw [B.dQ] <;> first | rfl | omega | (simp only [decide_eq_false_iff_not,decide_eq_true_eq,Int.not_lt,Nat.not_lt,gt_iff_lt] at * <;> omega))) ?_;(with_reducible refine (aT.calls 2 t138 t139 Z6 _ A24.out).mono ?_);rintro e w' ⟨rfl,⟨nd,rfl⟩⟩;refine ⟨_,rfl,?_⟩))
        go_ret3
        exact ⟨by first | rfl | (simp;done) | (simp [*];done),by repeat (first | exact aY.refl _ | apply aY.step)⟩
end Go.Proofs.Ytdkkgecdhapfhaa.ZQ
namespace Go.Proofs.Ytdkkgecdhapfhaa.ZQ
open Go.RowKit Go.Proofs.YtdkkgecdhapfhaaW.bD Go.Proofs.YtdkkgecdhapfhaaW.dM Go.Proofs.YtdkkgecdhapfhaaW.eH Go.Proofs.Ytdkkgecdhapfhaa.B
theorem Ir {msg:ByteArray} {i:Int} (h:192 ≤ bt msg i):49152 ≤ iA 2 msg i ∧ iA 2 msg i ≤ 65535:=by
  have h1:=gB msg i
  have h2:=gB msg (i + 1)
  simp [iA]
  omega
theorem aeU (a b:Nat) (c:Int) (h:(b:Int) = 1 + c) (ha:a ≤ 254) (hb:c ≤ 63) (h0:0 ≤ c):wrap64 (((a + b:Nat):Int) + 1) = a + (1 + c) + 1:=by
  rw [dQ (by omega) (by omega)];omega
set_option maxHeartbeats 4000000 in
theorem JZ (d:Nat):∀ (k:Nat) (msg:ByteArray) (i l n:Int) (t:ByteArray),l.toNat + (255 - t.size) < d → d + 10 ≤ k → msg.size ≤ 100000 → t.size ≤ 254 → (n = -1 ∨ 0 ≤ n) →
    ∃ R,bF.l k msg i l n t = some R ∧ aU.l0 k msg i t n l = some R:=by
  induction d with
  | zero=>intro k msg i l n t h;omega
  | succ d ih =>
    intro k msg i l n t hd hk hm ht hn
    obtain ⟨k,rfl⟩:∃ m,k = m + 1:=⟨k - 1,by omega⟩
    rw [bF.l,aU.l0,yY k (by omega) msg i 1 (by omega),yY k (by omega) msg i 2 (by omega)]
    simp only [Option.bind_some]
    by_cases g1:kg msg i 1
    · have hr:=gB msg i
      have e1:iA (1:Int).toNat msg i = bt msg i:=ES msg i
      have hi0:=g1.1
      have hi1:=g1.2.2.2
      simp only [if_pos g1,e1,if_true]
      by_cases c0:bt msg i = 0
      · simp only [if_pos c0]
        have z:t.size + 1 ≤ 9223372036854775807:=by omega
        simp only [if_pos z]
        rw [dQ (n:=i + 1) (by omega) (by omega)]
        rcases hn with rfl | hn
        · rw [if_pos (show (-1:Int) < 0 by omega),if_pos rfl];exact ⟨_,rfl,rfl⟩
        · rw [if_neg (show ¬ n < 0 by omega),if_neg (show ¬ n = -1 by omega)];exact ⟨_,rfl,rfl⟩
      · simp only [if_neg c0]
        by_cases c1:192 ≤ bt msg i
        · have hg:=Ir c1
          simp only [if_pos c1,if_pos (show bt msg i ≥ 192 from c1)]
          by_cases g2:kg msg i 2
          · have e2:iA (2:Int).toNat msg i = iA 2 msg i:=rfl
            have hi2:=g2.2.2.2
            simp only [if_pos g2,e2,if_true]
            rw [dQ (n:=iA 2 msg i - 49152) (by omega) (by omega),dQ (n:=i + 2) (by omega) (by omega)]
            by_cases c2:iA 2 msg i - 49152 ≥ l
            · rw [if_pos c2,if_pos c2]
              exact ⟨_,rfl,rfl⟩
            · rw [if_neg c2,if_neg c2]
              rcases hn with rfl | hn
              · rw [if_pos (show (-1:Int) < 0 by omega),if_pos rfl]
                exact ih k msg _ _ _ t (by omega) (by omega) hm ht (.inr (by omega))
              · rw [if_neg (show ¬ n < 0 by omega),if_neg (show ¬ n = -1 by omega)]
                exact ih k msg _ _ _ t (by omega) (by omega) hm ht (.inr hn)
          · simp only [if_neg g2,Bool.false_eq_true,if_false]
            exact ⟨_,rfl,rfl⟩
        · simp only [if_neg c1,if_neg (show ¬ bt msg i ≥ 192 from c1)]
          by_cases c2:63 < bt msg i
          · rw [if_pos c2,if_pos (show bt msg i > 63 from c2)]
            exact ⟨_,rfl,rfl⟩
          · rw [if_neg c2,if_neg (show ¬ bt msg i > 63 from c2),dQ (n:=bt msg i + 1) (by omega) (by omega),pO msg i _ (by omega),show bt msg i + 1 = 1 + bt msg i from by omega]
            simp only [Option.bind_some]
            by_cases g3:gV msg i (1 + bt msg i)
            · have hz:=size_ext g3.1 g3.2.1 g3.2.2
              simp only [if_pos g3,if_true]
              have hsz:t.size + (msg.extract i.toNat (i + (1 + bt msg i)).toNat).size ≤ 9223372036854775807:=by omega
              rw [if_pos hsz,ByteArray.size_append,aeU _ _ _ hz ht (by omega) (by omega)]
              clear hsz
              by_cases c3:(t.size:Int) + (1 + bt msg i) ≥ 255
              · rw [if_pos c3,if_pos (show (t.size:Int) + (1 + bt msg i) + 1 > 255 by omega)]
                exact ⟨_,rfl,rfl⟩
              · have hb:=g3.2.2
                rw [if_neg c3,if_neg (show ¬ (t.size:Int) + (1 + bt msg i) + 1 > 255 by omega),dQ (n:=i + bt msg i) (by omega) (by omega),dQ (n:=i + bt msg i + 1) (by omega) (by omega),show i + bt msg i + 1 = i + (1 + bt msg i) from by omega]
                exact ih k msg _ _ _ _ (by rw [ByteArray.size_append];omega) (by omega) hm (by rw [ByteArray.size_append];omega) hn
            · simp only [if_neg g3,Bool.false_eq_true,if_false]
              exact ⟨_,rfl,rfl⟩
    · simp only [if_neg g1,Bool.false_eq_true,if_false]
      exact ⟨_,rfl,rfl⟩
theorem ET {k k':Nat} (hk:k ≤ k') {msg:ByteArray} {i:Int} {R:ByteArray × Int × Int} (h:bF.f k msg i = some R):bF.f k' msg i = some R:=vv (fun k=>bF.mono msg i k) hk h
def rounds (i:Int):Nat:=i.toNat + 300
theorem AL (k:Nat) (msg:ByteArray) (i:Int) (hm:msg.size ≤ 100000) (hk:rounds i ≤ k):∃ R,bF.f k msg i = some R ∧ aU.f k msg i = some R:=by
  unfold rounds at hk
  obtain ⟨R,h1,h2⟩:=JZ (i.toNat + 256) k msg i i (-1) ⟨#[]⟩ (by rw [EF];omega) (by omega) hm (by decide) (.inl rfl)
  refine ⟨R,?_,h2⟩
  unfold bF.f
  rw [if_pos (by omega)]
  exact h1
def pre (t:ByteArray):Prop:=∃ ls,t = zM ls ∧ ∀ x ∈ ls,JJ x
theorem pre_nil : pre ⟨#[]⟩:=⟨[],rfl,by simp⟩
theorem Ng {t x:ByteArray} (h:pre t) (hx:JJ x):pre (t ++ (sg x.size ++ x)):=by
  obtain ⟨ls,rfl,hok⟩:=h
  refine ⟨ls ++ [x],?_,?_⟩
  · rw [EI];simp only [zM];rw [append_empty]
  · intro y hy
    rcases List.mem_append.mp hy with hy | hy
    · exact hok y hy
    · rw [List.mem_singleton] at hy;subst hy;exact hx
theorem J2 {msg:ByteArray} {i:Int} (h:gV msg i (1 + bt msg i)) (h1:1 ≤ bt msg i) (h2:bt msg i ≤ 63):∃ x,JJ x ∧ msg.extract i.toNat (i + (1 + bt msg i)).toNat = sg x.size ++ x:=by
  obtain ⟨g0,g1,g2⟩:=h
  have hz:=size_ext g0 g1 g2
  refine ⟨msg.extract (i.toNat + 1) (i + (1 + bt msg i)).toNat,?_,?_⟩
  · unfold JJ;rw [ByteArray.size_extract];omega
  · have e:(msg.extract (i.toNat + 1) (i + (1 + bt msg i)).toNat).size = (bt msg i).toNat:=by rw [ByteArray.size_extract];omega
    rw [e]
    have h3:msg.extract i.toNat (i.toNat + 1) = sg ((bt msg i).toNat:Nat):=by
      refine Gl (by rw [qp,ByteArray.size_extract];omega) fun j j0 j1=>?_
      rw [ByteArray.size_extract] at j1
      have:j = 0:=by omega
      subst this
      rw [mq (by omega) (by rw [ByteArray.size_extract];omega),MP _ (by omega)]
      rw [show ((i.toNat:Nat):Int) + 0 = i from by omega]
      omega
    rw [← h3,ByteArray.extract_append_extract]
    congr 1 <;> omega
theorem J3 (k:Nat):∀ (msg:ByteArray) (a i l n:Int) (t:ByteArray) (R:ByteArray × Int × Int),0 ≤ a → pre t → t.size ≤ 254 → ((n = -1 ∧ a ≤ i) ∨ (a < n ∧ n ≤ (msg.size:Int))) → bF.l k msg i l n t = some R →
    (R.2.2 = 0 ∧ jB R.1 = true ∧ a < R.2.1 ∧ R.2.1 ≤ (msg.size:Int)) ∨ ((R.2.2 = 2 ∨ R.2.2 = 3) ∧ R.1 = ⟨#[]⟩ ∧ R.2.1 = 0):=by
  induction k with
  | zero=>intro msg a i l n t R _ _ _ _ h;simp [bF.l] at h
  | succ k ih =>
    intro msg a i l n t R ha hp ht hn h
    rw [bF.l] at h
    by_cases g1:kg msg i 1
    · have hr:=gB msg i
      have hi0:=g1.1
      have hi1:=g1.2.2.2
      rw [if_pos g1] at h
      by_cases c0:bt msg i = 0
      · rw [if_pos c0] at h
        cases h
        left
        refine ⟨rfl,?_,?_⟩
        · obtain ⟨ls,rfl,hok⟩:=hp
          exact Ig.mpr ⟨ls,rfl,hok,by rw [ByteArray.size_append];show _ + root.size ≤ 255;rw [kN];omega⟩
        · rcases hn with ⟨rfl,hn⟩ | hn
          · rw [if_pos rfl];exact ⟨(by show a < i + 1;omega),(by show i + 1 ≤ (msg.size:Int);omega)⟩
          · rw [if_neg (by omega)];exact hn
      · rw [if_neg c0] at h
        by_cases c1:192 ≤ bt msg i
        · rw [if_pos c1] at h
          have hg:=Ir c1
          by_cases g2:kg msg i 2
          · rw [if_pos g2] at h
            have hi2:=g2.2.2.2
            by_cases c2:iA 2 msg i - 49152 ≥ l
            · rw [if_pos c2] at h
              cases h;right;exact ⟨.inr rfl,rfl,rfl⟩
            · rw [if_neg c2] at h
              rcases hn with ⟨rfl,hn⟩ | hn
              · rw [if_pos rfl] at h
                exact ih msg a _ _ _ t R ha hp ht (.inr ⟨by omega,by omega⟩) h
              · rw [if_neg (by omega)] at h
                exact ih msg a _ _ _ t R ha hp ht (.inr hn) h
          · rw [if_neg g2] at h
            cases h;right;exact ⟨.inl rfl,rfl,rfl⟩
        · rw [if_neg c1] at h
          by_cases c2:63 < bt msg i
          · rw [if_pos c2] at h
            cases h;right;exact ⟨.inr rfl,rfl,rfl⟩
          · rw [if_neg c2] at h
            by_cases g3:gV msg i (1 + bt msg i)
            · rw [if_pos g3] at h
              by_cases c3:(t.size:Int) + (1 + bt msg i) ≥ 255
              · rw [if_pos c3] at h
                cases h;right;exact ⟨.inr rfl,rfl,rfl⟩
              · rw [if_neg c3] at h
                have hz:=size_ext g3.1 g3.2.1 g3.2.2
                obtain ⟨x,hx,hxe⟩:=J2 g3 (by omega) (by omega)
                refine ih msg a _ _ _ _ R ha ?_ (by rw [ByteArray.size_append];omega) ?_ h
                · rw [hxe];exact Ng hp hx
                · rcases hn with ⟨rfl,hn⟩ | hn
                  · exact .inl ⟨rfl,by omega⟩
                  · exact .inr hn
            · rw [if_neg g3] at h
              cases h;right;exact ⟨.inl rfl,rfl,rfl⟩
    · rw [if_neg g1] at h
      cases h;right;exact ⟨.inl rfl,rfl,rfl⟩
theorem Vy {k:Nat} {msg:ByteArray} {i:Int} {R:ByteArray × Int × Int} (hm:msg.size ≤ 100000):bF.f k msg i = some R ↔ bF.l k msg i i (-1) ⟨#[]⟩ = some R:=by
  unfold bF.f;rw [if_pos (by omega)]
theorem Gv {k:Nat} {msg:ByteArray} {i:Int} {R:ByteArray × Int × Int} (hm:msg.size ≤ 100000) (h:bF.f k msg i = some R) :
    (R.2.2 = 0 ∧ jB R.1 = true ∧ 0 ≤ i ∧ i < R.2.1 ∧ R.2.1 ≤ (msg.size:Int)) ∨ ((R.2.2 = 2 ∨ R.2.2 = 3) ∧ R.1 = ⟨#[]⟩ ∧ R.2.1 = 0):=by
  rw [Vy hm] at h
  by_cases h0:0 ≤ i
  · rcases J3 k msg i i i (-1) ⟨#[]⟩ R h0 pre_nil (by decide) (.inl ⟨rfl,Int.le_refl _⟩) h with ⟨h1,h2,h3,h4⟩ | h1
    · exact .inl ⟨h1,h2,h0,h3,h4⟩
    · exact .inr h1
  · cases k with
    | zero=>simp [bF.l] at h
    | succ k =>
      rw [bF.l,if_neg (fun g=>h0 g.1)] at h
      cases h;right;exact ⟨.inl rfl,rfl,rfl⟩
end Go.Proofs.Ytdkkgecdhapfhaa.ZQ
namespace Go.Proofs.Ytdkkgecdhapfhaa.ZQ
open Go.RowKit Go.Proofs.YtdkkgecdhapfhaaW.bD Go.Proofs.YtdkkgecdhapfhaaW.dM Go.Proofs.YtdkkgecdhapfhaaW.eH Go.Proofs.Ytdkkgecdhapfhaa.B
def plL : List ByteArray → Int → ByteArray → Int
  | [],_,_=>-1
  | x :: m,o,r=>if same (enc (x :: m)) r then o else plL m (o + 1 + x.size) r
def wrL (m:List ByteArray) (a:Int):List ByteArray → ByteArray → ByteArray
  | [],p=>p ++ root
  | x :: l,p=>if 0 ≤ plL m 0 (enc (x :: l)) then p ++ aeQ (49152 + a + plL m 0 (enc (x :: l))) 2 else wrL m a l (p ++ (sg x.size ++ x))
def wr (base:ByteArray) (a:Int) (n:ByteArray):ByteArray:=match uy base,uy n with
  | some m,some ls=>if 0 ≤ a ∧ a ≤ 16000 then wrL m a ls ⟨#[]⟩ else ⟨#[]⟩
  | _,_=>⟨#[]⟩
theorem AO (a:ByteArray):(oJ a).size = a.size:=by unfold oJ;rw [strOfNums_size,List.length_map,numsOf_length]
end Go.Proofs.Ytdkkgecdhapfhaa.ZQ
namespace Go.Proofs.Ytdkkgecdhapfhaa.Mi
open Go Go.Proofs.YtdkkgecdhapfhaaW.bD
def ents : Nat → List (Int × Value) → List MapEntry
  | _,[]=>[]
  | i,(k,v) :: l=>{ key:=.int .i64 k,val:=v,born:=i } :: ents (i + 1) l
def sO (k:Int):List (Int × Value) → Option Value
  | []=>none
  | (k',v) :: l=>if k = k' then some v else sO k l
theorem oz (k:Int):∀ (l:List (Int × Value)) (i j:Nat),∃ r,Instr.findNow (.int .i64) (.int .i64 k) (ents i l) j = some r ∧ r.map (·.2) = sO k l
  | [],i,j=>⟨none,rfl,rfl⟩
  | (k',v) :: l,i,j=>by
    obtain ⟨r,h1,h2⟩:=oz k l (i + 1) (j + 1)
    unfold ents sO Instr.findNow
    by_cases h:k = k'
    · subst h
      exact ⟨some (j,v),by simp [Instr.sameNow],by simp⟩
    · have hb:(k == k') = false:=by simpa using h
      exact ⟨r,by simp [Instr.sameNow,hb,h1],by simp [h,h2]⟩
theorem AP (k:Int) (v:Value):∀ (l:List (Int × Value)) (i:Nat),ents i (l ++ [(k,v)]) = ents i l ++ [{ key:=.int .i64 k,val:=v,born:=i + l.length }]
  | [],i=>rfl
  | (k',v') :: l,i=>by
    simp only [List.cons_append,ents,AP k v l (i + 1),List.length_cons]
    rw [show i + 1 + l.length = i + (l.length + 1) from by omega]
def At (w:World) (b:Nat) (l:List (Int × Value)):Prop:=w.heap[b]? = some (.map (ents 0 l).toArray l.length)
variable {P : Program}
theorem Gw {w:World} {b:Nat} {l:List (Int × Value)} (h:At w b l) (t kt et:TypeId) (hm:P.underlying t = some (.map kt et)) (hk:P.underlying kt = some (.int .i64)) (k:Int) (v:Value) (hn:sO k l = none) :
    ∃ w',(Instr.mapUpdate t (.map (some b)) (.int .i64 k) v).run P w = .ok () w' ∧ At w' b (l ++ [(k,v)]) ∧ w.grownBy w' (some b):=by
  obtain ⟨r,h1,h2⟩:=oz k l 0 0
  rw [hn] at h2
  obtain rfl:r = none:=by cases r with | none=>rfl | some x=>cases h2
  have hc:(Instr.checkKey false 10000 kt (.int .i64 k)).run P w = .ok () w:=MapKept.run_checkKey (k:=.int .i64 k) hk (by simp [MapKept.IsKey]) false 9999
  refine ⟨{ w with heap:=w.heap.setIfInBounds b (.map (ents 0 (l ++ [(k,v)])).toArray (l ++ [(k,v)]).length) },?_,(MapKept.heap_set h).1,⟨rfl,rfl,rfl,by simp,fun i _ hi=>(MapKept.heap_set h).2 i (fun e=>hi (by rw [e]))⟩⟩
  unfold At at h
  simp [Instr.mapUpdate,run_underlying hm,MapKept.run_getObj_map h,hc,MapKept.run_findKey hk h1,MapKept.run_setObj_map _ h,Result.andThen]
  rw [AP]
  simp
theorem look {w:World} {b:Nat} {l:List (Int × Value)} (h:At w b l) (t kt et:TypeId) (hm:P.underlying t = some (.map kt et)) (hk:P.underlying kt = some (.int .i64)) (z:Value) (hz:(zeroValue et).run P w = .ok z w) (k:Int) :
    (Instr.lookup t (.map (some b)) (.int .i64 k) true).run P w = .ok (.tuple #[(sO k l).getD z,.bool (sO k l).isSome]) w:=by
  obtain ⟨r,h1,h2⟩:=oz k l 0 0
  unfold At at h
  have hc:∀ e,(Instr.checkKey e 10000 kt (.int .i64 k)).run P w = .ok () w:=fun e=>MapKept.run_checkKey (k:=.int .i64 k) hk (by simp [MapKept.IsKey]) e 9999
  rw [← h2]
  cases r with
  | none=>simp [Instr.lookup,run_underlying hm,MapKept.run_getObj_map h,hc,MapKept.run_findKey hk h1,Result.andThen,hz]
  | some x=>obtain ⟨i,v⟩:=x;simp [Instr.lookup,run_underlying hm,MapKept.run_getObj_map h,hc,MapKept.run_findKey hk h1,Result.andThen]
theorem J4 (w:World) {ops:Array Oper} {rest:List Oper} {o:Oper} {a:Act} {Q:Exit → Act → World → Prop}
    (hg:o.guard = none) (m x v:Operand) (t:TypeId) (hop:o.op = Op.insert t m x v)
    (kt et:TypeId) (ht:P.underlying t = some (.map kt et)) (hk:P.underlying kt = some (.int .i64)) (b:Nat) (l:List (Int × Value)) (hm:a.eval m = .map (some b)) (hat:At w b l) (k:Int) (val:Value) (hx:a.eval x = .int .i64 k) (hv:a.eval v = val) (hn:sO k l = none)
    (hK:∀ w',At w' b (l ++ [(k,val)]) → w.grownBy w' (some b) → wpList P ops Q rest (a.put o.dst undef) w') :
    wpList P ops Q (o :: rest) a w:=by
  refine wpList_plain hg fun K' hK'=>?_
  obtain ⟨w',hrun,r1,r2⟩:=Gw hat t kt et ht hk k val hn
  unfold Oper.wp
  simp [execOp,hop,hm,hx,hv,hrun,Result.andThen]
  exact hK' _ _ (hK w' r1 r2)
theorem P5 (w:World):At (w.alloc (.map #[] 0)) w.heap.size []:=by
  unfold At ents
  exact heap_alloc_new w _
structure In (B0:Nat) (w0 w:World) (b:Nat) (l:List (Int × Value)):Prop where
  at_:At w b l
  ge:B0 ≤ b
  NJ:RowKit.Below B0 w0 w
theorem In.made {w:World}:In w.heap.size w (w.alloc (.map #[] 0)) w.heap.size []:=⟨P5 w,Nat.le_refl _,(RowKit.Below.refl _ _).alloc (Nat.le_refl _) _⟩
theorem In.grown {B0 b:Nat} {w0 w w':World} {l l':List (Int × Value)} (h:In B0 w0 w b l) (h':At w' b l') (hg:w.grownBy w' (some b)):In B0 w0 w' b l':=by
  refine ⟨h',h.ge,h.NJ.grown hg ?_ (fun k e=>by cases e;exact h.ge)⟩
  have:=(Array.getElem?_eq_some_iff.1 h.at_).1
  have:=h.ge
  omega
theorem EU {w:World} {ops:Array Oper} {rest:List Oper} {o:Oper} {a:Act} {Q:Exit → Act → World → Prop} (t:TypeId) (m x v:Operand) (hop:o.op = Op.insert t m x v) (h:wpList P ops Q (o :: rest) a w):wpList P ops Q (o :: rest) a w:=h
theorem Z8 (w:World) {ops:Array Oper} {rest:List Oper} {o:Oper} {a:Act} {Q:Exit → Act → World → Prop}
    (hg:o.guard = none) (m x v:Operand) (t:TypeId) (hop:o.op = Op.insert t m x v)
    (kt et:TypeId) (ht:P.underlying t = some (.map kt et)) (hk:P.underlying kt = some (.int .i64)) (b:Nat) (l:List (Int × Value)) (hm:a.eval m = .map (some b)) {B0:Nat} {w0:World} (hin:In B0 w0 w b l) (k:Int) (val:Value) (hx:a.eval x = .int .i64 k) (hv:a.eval v = val) (hn:sO k l = none)
    (hK:∀ w',aj (In B0 w0 w' b (l ++ [(k,val)])) → wpList P ops Q rest (a.put o.dst undef) w') :
    wpList P ops Q (o :: rest) a w :=
  J4 w hg m x v t hop kt et ht hk b l hm hin.at_ k val hx hv hn fun w' h1 h2=>hK w' ⟨hin.grown h1 h2⟩
end Go.Proofs.Ytdkkgecdhapfhaa.Mi
namespace Go.Proofs.Ytdkkgecdhapfhaa.ZQ
open Go.RowKit Go.Proofs.YtdkkgecdhapfhaaW.bD Go.Proofs.YtdkkgecdhapfhaaW.dM Go.Proofs.YtdkkgecdhapfhaaW.eH
attribute [local go_sem] jl jm j5 j6 iF iG jo jq
theorem iI.keep {a b:ByteArray} {v:Value} {l:List ByteArray} {base g:Nat} {ok:Nat → Prop} {w w1 w2:World}
    (h:(w1.cell? ⟨g,0,none⟩ = some (.string a) ∧ w1.cell? ⟨g,1,none⟩ = some (.string b) ∧ w1.cell? ⟨g,2,none⟩ = some v) ∧ aj (Below g w w1 ∧ g < w1.heap.size ∧ Kd.R Kd.string 9 w1 base ok v l)) (hb:Below w1.heap.size w1 w2) :
    (w2.cell? ⟨g,0,none⟩ = some (.string a) ∧ w2.cell? ⟨g,1,none⟩ = some (.string b) ∧ w2.cell? ⟨g,2,none⟩ = some v) ∧ aj (Below g w w2 ∧ g < w2.heap.size ∧ Kd.R Kd.string 9 w2 base ok v l):=by
  obtain ⟨⟨c0,c1,c2⟩,⟨h1,h2,h3⟩⟩:=h
  have hs:=hb.size
  exact ⟨⟨(hb.cell h2).trans c0,(hb.cell h2).trans c1,(hb.cell h2).trans c2⟩,⟨h1.trans (hb.mono (by omega)),by omega,Kd.j4 h3 hb⟩⟩
set_option maxHeartbeats 4000000 in
set_option maxRecDepth 100000 in
theorem iI.calls (a b:ByteArray) (v:Value) (l:List ByteArray) (base:Nat) (ok:Nat → Prop) (w:World) (hr:Kd.R Kd.string 9 w base ok v l) (hl:l.length ≤ 1000000) (hz:a.size + (strings_Join.cat l).size + b.size ≤ 140737488355328) :
    Calls Try.prog 113 #[.agg #[.string a,.string b,v]] w fun e w'=>e = .returned (.string (a ++ strings_Join.cat l ++ b)) ∧ Below w.heap.size w w':=by
  have HB:=aj.mk (ak (Below.refl w.heap.size w) (.cells #[.string a,.string b,v] 148 (0,0)))
  have HR:=aj.mk (Kd.eY hr (.cells #[.string a,.string b,v] 148 (0,0)))
  have HC:(w.alloc (.cells #[.string a,.string b,v] 148 (0,0))).cell? ⟨w.heap.size,0,none⟩ = some (.string a) ∧ (w.alloc (.cells #[.string a,.string b,v] 148 (0,0))).cell? ⟨w.heap.size,1,none⟩ = some (.string b) ∧ (w.alloc (.cells #[.string a,.string b,v] 148 (0,0))).cell? ⟨w.heap.size,2,none⟩ = some v:=by
    refine ⟨?_,?_,?_⟩ <;> (rw [Lib.cell_of_heap (heap_alloc_new w _)];rfl)
  have HC0:=aj.mk HC
  clear HC
  have HC:=HC0
  clear HC0
  have hs:w.heap.size < (w.alloc (.cells #[.string a,.string b,v] 148 (0,0))).heap.size:=by show _ < (w.heap.push _).size;rw [Array.size_push];omega
  have HS:=aj.mk hs
  have HZ:=aj.mk hz
  have HL:=aj.mk hl
  clear hs hz hr hl
  go_enter Try.func113,Try.ntmps113
  go_wp2
  generalize w.alloc (.cells #[.string a,.string b,v] 148 (0,0)) = w1 at *
  generalize hgg:w.heap.size = g at *
  have hgg:=aj.mk hgg
  have hf1:a.size + (strings_Join.cat l).size ≤ 9223372036854775807:=by have:=HZ.out;omega
  have hf2:a.size + (strings_Join.cat l).size + b.size ≤ 9223372036854775807:=by have:=HZ.out;omega
  have c0:=HC.out.1
  have c1:=HC.out.2.1
  have c2:=HC.out.2.2
  go_region_held (fun w'=>(w'.cell? ⟨g,0,none⟩ = some (.string a) ∧ w'.cell? ⟨g,1,none⟩ = some (.string b) ∧ w'.cell? ⟨g,2,none⟩ = some v) ∧ aj (Below g w w' ∧ g < w'.heap.size ∧ Kd.R Kd.string 9 w' base ok v l)) ((first | assumption | exact iI.keep ⟨⟨c0,c1,c2⟩,⟨HB.out,HS.out,HR.out⟩⟩ (ji (Below.refl _ _)) | exact iI.keep (by assumption) (by assumption))) ((first | (go_at_call 123;refine (strings_Join.calls v l base ok _ (Kd.fV HR.out) HL.out (by have:=HZ.out;omega)).mono ?_;rintro e w' ⟨rfl,hb'⟩)))
  all_goals
    rename_i hx
    go_wp2
    go_ret
    exact ⟨rfl,hgg.out ▸ hx.2.out.1⟩
def bY.agg (a b c:Int):Value:=.agg #[.int .i64 a,.int .i64 b,.int .i64 c]
def bY.tab : List (Int × Value):=[(1,bY.agg 4 0 0),(28,bY.agg 16 0 0),(2,bY.agg 0 1 0),(5,bY.agg 0 1 0),(12,bY.agg 0 1 0),(6,bY.agg 0 2 20),(15,bY.agg 2 1 0),(33,bY.agg 6 1 0)]
set_option maxHeartbeats 8000000 in
set_option maxRecDepth 100000 in
theorem bY.calls (w:World):Calls Try.prog 120 #[] w fun e w'=>∃ g,e = .returned (.map (some g)) ∧ Mi.In w.heap.size w w' g bY.tab:=by
  have hmm:=@run_makeMap Try.prog
  have hi:=aj.mk (Mi.In.made (w:=w))
  generalize hg:w.heap.size = g at hi
  have hg':=aj.mk hg
  go_enter Try.func120,Try.ntmps120
  go_wp2_with (first | (refine Mi.EU 159 _ _ _ rfl ?_;refine Mi.Z8 _ rfl _ _ _ 159 rfl 3 157 Try.underlying159 Try.underlying3 _ _ rfl (aj.out (by assumption)) _ _ rfl rfl rfl ?_;clear hi;intro w1 hi))
  go_ret
  exact ⟨g,rfl,hi.out⟩
def bW.l0 : Nat → ByteArray → Int → Int → Int → Int → Int → Int → Int → ByteArray → ByteArray → List ByteArray → Option (ByteArray × ByteArray × List ByteArray × Bool)
  | 0,_,_,_,_,_,_,_,_,_,_,_=>none
  | k + 1,x0,x1,x2,x37,x38,P6,P7,Iu,Iw,P8,Cx=>if x38 < x37 then ((bF.f k x0 x1).bind fun Iy=>(if Iy.2.2 = 0 then (if Iy.2.1 > x2 then (some ((⟨#[]⟩:ByteArray),(⟨#[]⟩:ByteArray),([]:List ByteArray),false)) else (if Cx.length < 8796093022208 then (bW.l0 k x0 Iy.2.1 x2 x37 (wrap64 (x38 + 1)) P6 P7 Iu Iw P8 (Cx ++ [Iy.1])) else (none))) else (some ((⟨#[]⟩:ByteArray),(⟨#[]⟩:ByteArray),([]:List ByteArray),false)))) else (if 0 ≤ x1 then (if x1 ≤ x2 then (if x2 ≤ (x0.size:Int) then (some (Iw,x0.extract (x1:Int).toNat (x2:Int).toNat,Cx,(((x0.extract (x1:Int).toNat (x2:Int).toNat).size:Int) == Iu))) else (none)) else (none)) else (none))
def bW.f (k:Nat) (a0:ByteArray) (a1:Int) (a2:Int) (eO:Int) (iP:Int) (jO:Int):Option (ByteArray × ByteArray × List ByteArray × Bool):=if (eO ≤ (wrap64 (a2 - a1))) then (if 0 ≤ a1 then (if a1 ≤ (wrap64 (a1 + eO)) then (if (wrap64 (a1 + eO)) ≤ (a0.size:Int) then (bW.l0 k a0 (wrap64 (a1 + eO)) a2 iP 0 eO iP jO (a0.extract (a1:Int).toNat ((wrap64 (a1 + eO)):Int).toNat) (⟨#[]⟩:ByteArray) ([]:List ByteArray)) else (none)) else (none)) else (none)) else (some ((⟨#[]⟩:ByteArray),(⟨#[]⟩:ByteArray),([]:List ByteArray),false))
def bW.T15 : Bool × List (List Nat × List Nat):=(true,[([],[]),([],[]),([1],[1]),([2],[2]),([],[]),([4],[4]),([3,5],[3,5]),([0,0],[0]),([6,7,0,1,2,3,4,5,6,7],[6])])
def bW.B15 : List Nat:=[0,0,2,6,0,16,62,1,255]
theorem bW.Z9 : mJ .any (opsOf Try.f121 15) = bW.T15:=by kernel_rfl
theorem bW.Vz : qA bW.T15.2 bW.B15 = true:=by kernel_rfl
set_option maxHeartbeats 8000000 in
set_option maxRecDepth 100000 in
theorem bW.calls (k:Nat) (a0:ByteArray) (a1:Int) (a2:Int) (eO:Int) (iP:Int) (jO:Int) (r1:ByteArray) (r2:ByteArray) (r3:List ByteArray) (r4:Bool) (w:World) (h:bW.f k a0 a1 a2 eO iP jO = some (r1,r2,r3,r4)) :
    Calls Try.prog 121 #[.string a0,.int .i64 a1,.int .i64 a2,.agg #[.int .i64 eO,.int .i64 iP,.int .i64 jO]] w fun e w'=>∃ v2_:Value,e = .returned (.tuple #[.agg #[.string r1,.string r2,v2_],.bool r4]) ∧ Kd.R Kd.string 9 w' w.heap.size (fun _=>True) v2_ r3 ∧ Below w.heap.size w w':=by
  have aga:=Try.underlying157
  have agb:=Try.underlying148
  have HB:=aj.mk (Below.refl w.heap.size w)
  have H:(if (eO ≤ (wrap64 (a2 - a1))) then (if 0 ≤ a1 then (if a1 ≤ (wrap64 (a1 + eO)) then (if (wrap64 (a1 + eO)) ≤ (a0.size:Int) then (bW.l0 k a0 (wrap64 (a1 + eO)) a2 iP 0 eO iP jO (a0.extract (a1:Int).toNat ((wrap64 (a1 + eO)):Int).toNat) (⟨#[]⟩:ByteArray) ([]:List ByteArray)) else (none)) else (none)) else (none)) else (some ((⟨#[]⟩:ByteArray),(⟨#[]⟩:ByteArray),([]:List ByteArray),false))) = some (r1,r2,r3,r4):=h
  clear h
  by_cases c5:(eO ≤ (wrap64 (a2 - a1)))
  · rw [if_pos c5] at H
    have pK:decide (eO ≤ (wrap64 (a2 - a1))) = true:=decide_eq_true c5
    (try (have vE:decide (eO ≤ ((a2 - a1))) = true:=by have h_:decide (eO ≤ (wrap64 (a2 - a1))) = true:=decide_eq_true c5;rw [B.dQ (by omega) (by omega)] at h_;exact h_))
    clear c5
    by_cases c6:0 ≤ a1
    · rw [if_pos c6] at H
      have zN:=eq_true c6
      have MV:decide (0 ≤ a1) = true:=decide_eq_true c6
      clear c6
      by_cases c7:a1 ≤ (wrap64 (a1 + eO))
      · rw [if_pos c7] at H
        have uJ:=eq_true c7
        have JW:decide (a1 ≤ (wrap64 (a1 + eO))) = true:=decide_eq_true c7
        by_cases c8:(wrap64 (a1 + eO)) ≤ (a0.size:Int)
        · rw [if_pos c8] at H
          have rW:=eq_true c8
          have rX:decide ((wrap64 (a1 + eO)) ≤ (a0.size:Int)) = true:=decide_eq_true c8
          have H':=aj.mk H
          clear H
          go_enter Try.func121,Try.ntmps121
          go_wp2_with (first | ((with_reducible refine gI (N:=7) rfl ?_);refine fT ?hg (N:=7) ?hd (cs:=#[.int .i64 eO,.int .i64 iP,.int .i64 jO]) (t:=157) ?hr ?_;(case hd=>rfl);(case hg=>rfl);(case hr=>first | (go_simp;done) | (go_simp;rfl));intro fM hg w9 gW hb;have dZ:=aj.mk (bE (by repeat (first | (with_reducible first | exact HB.out | apply ak | apply ah | apply au) | exact HB.out)) hb);have gZ:=aj.mk (gW);have je:=aj.mk ((by rw [hg];exact (bL (by repeat (first | (with_reducible first | exact HB.out | apply ak | apply ah | apply au) | exact HB.out))):w.heap.size ≤ fM));have jH:=aj.mk ((by rw [hg];exact (bL (by repeat (first | (with_reducible first | exact HB.out | apply ak | apply ah | apply au) | exact HB.out))):w.heap.size ≤ fM));clear HB;have HB:=dZ;have dJ:=gZ;have aac:=je;have iW:=jH;clear dZ gZ je jH;clear hb gW hg) | ((with_reducible refine gI (N:=8) rfl ?_);refine fT ?hg (N:=8) ?hd (cs:=#[.string (⟨#[]⟩:ByteArray),.string (⟨#[]⟩:ByteArray),.slice none 0 0]) (t:=148) ?hr ?_;(case hd=>rfl);(case hg=>rfl);(case hr=>first | (go_simp;done) | (go_simp;rfl));intro dD hg w10 gW hb;have dZ:=aj.mk (dO (g:=fM) (o:=.cells #[.int .i64 eO,.int .i64 iP,.int .i64 jO] 157 (0,0)) (by (with_reducible repeat (first | refine aG ?_ _ | refine aI ?_ | refine aA ?_ _));exact dJ.out) hb);have gZ:=aj.mk (bE (by repeat (first | (with_reducible first | exact HB.out | apply ak | apply ah | apply au | refine aR ?_ iW.out) | exact HB.out)) hb);have je:=aj.mk (gW);have jH:=aj.mk ((by rw [hg];exact (bL (by repeat (first | (with_reducible first | exact HB.out | apply ak | apply ah | apply au | refine aR ?_ iW.out) | exact HB.out))):w.heap.size ≤ dD));have qO:=aj.mk ((by rw [hg];exact (bL (by repeat (first | (with_reducible first | exact HB.out | apply ak | apply ah | apply au | refine aR ?_ iW.out) | exact HB.out))):w.heap.size ≤ dD));have Nh:=aj.mk ((by rw [hg];exact Nat.ne_of_lt (jF (g:=fM) (o:=.cells #[.int .i64 eO,.int .i64 iP,.int .i64 jO] 157 (0,0)) (by (with_reducible repeat (first | refine aG ?_ _ | refine aI ?_ | refine aA ?_ _));exact dJ.out)):fM ≠ dD));have Ni:=aj.mk ((by rw [hg];exact Nat.ne_of_gt (jF (g:=fM) (o:=.cells #[.int .i64 eO,.int .i64 iP,.int .i64 jO] 157 (0,0)) (by (with_reducible repeat (first | refine aG ?_ _ | refine aI ?_ | refine aA ?_ _));exact dJ.out)):dD ≠ fM));clear dJ;clear HB;have dJ:=dZ;have HB:=gZ;have dA:=je;have aad:=jH;have kD:=qO;have fG:=Nh;have jS:=Ni;clear dZ gZ je jH qO Nh Ni;clear hb gW hg) | ((with_reducible refine gI (N:=10) rfl ?_);refine fT ?hg (N:=10) ?hd (cs:=#[.string (⟨#[]⟩:ByteArray),.string (⟨#[]⟩:ByteArray),.slice none 0 0]) (t:=148) ?hr ?_;(case hd=>rfl);(case hg=>rfl);(case hr=>first | (go_simp;done) | (go_simp;rfl));intro fF hg VA gW hb;have dZ:=aj.mk (dO (g:=fM) (o:=.cells #[.int .i64 eO,.int .i64 iP,.int .i64 jO] 157 (0,0)) (by (with_reducible repeat (first | refine aG ?_ _ | refine aI ?_ | refine aA ?_ _));exact dJ.out) hb);have gZ:=aj.mk (dO (g:=dD) (o:=.cells #[.string (⟨#[]⟩:ByteArray),.string (⟨#[]⟩:ByteArray),.slice none 0 0] 148 (0,0)) (by (with_reducible repeat (first | refine aG ?_ _ | refine aI ?_ | refine aA ?_ _));exact dA.out) hb);have je:=aj.mk (bE (by repeat (first | (with_reducible first | exact HB.out | apply ak | apply ah | apply au | refine aR ?_ iW.out | refine aR ?_ kD.out) | exact HB.out)) hb);have jH:=aj.mk (gW);have qO:=aj.mk ((by rw [hg];exact (bL (by repeat (first | (with_reducible first | exact HB.out | apply ak | apply ah | apply au | refine aR ?_ iW.out | refine aR ?_ kD.out) | exact HB.out))):w.heap.size ≤ fF));have Nh:=aj.mk ((by rw [hg];exact (bL (by repeat (first | (with_reducible first | exact HB.out | apply ak | apply ah | apply au | refine aR ?_ iW.out | refine aR ?_ kD.out) | exact HB.out))):w.heap.size ≤ fF));have Ni:=aj.mk ((by rw [hg];exact Nat.ne_of_lt (jF (g:=fM) (o:=.cells #[.int .i64 eO,.int .i64 iP,.int .i64 jO] 157 (0,0)) (by (with_reducible repeat (first | refine aG ?_ _ | refine aI ?_ | refine aA ?_ _));exact dJ.out)):fM ≠ fF));have n7_:=aj.mk ((by rw [hg];exact Nat.ne_of_gt (jF (g:=fM) (o:=.cells #[.int .i64 eO,.int .i64 iP,.int .i64 jO] 157 (0,0)) (by (with_reducible repeat (first | refine aG ?_ _ | refine aI ?_ | refine aA ?_ _));exact dJ.out)):fF ≠ fM));have n8_:=aj.mk ((by rw [hg];exact Nat.ne_of_lt (jF (g:=dD) (o:=.cells #[.string (⟨#[]⟩:ByteArray),.string (⟨#[]⟩:ByteArray),.slice none 0 0] 148 (0,0)) (by (with_reducible repeat (first | refine aG ?_ _ | refine aI ?_ | refine aA ?_ _));exact dA.out)):dD ≠ fF));have n9_:=aj.mk ((by rw [hg];exact Nat.ne_of_gt (jF (g:=dD) (o:=.cells #[.string (⟨#[]⟩:ByteArray),.string (⟨#[]⟩:ByteArray),.slice none 0 0] 148 (0,0)) (by (with_reducible repeat (first | refine aG ?_ _ | refine aI ?_ | refine aA ?_ _));exact dA.out)):fF ≠ dD));clear dJ;clear dA;clear HB;have dJ:=dZ;have dA:=gZ;have HB:=je;have dV:=jH;have aae:=qO;have nP:=Nh;have jT:=Ni;have nQ:=n7_;have gU:=n8_;have fq:=n9_;clear dZ gZ je jH qO Nh Ni n7_ n8_ n9_;clear hb gW hg;have agc:=fG.out;have agd:=jS.out;have agf:=jT.out;have agh:=nQ.out;have P9:VA.cell? ⟨fM,0,none⟩ = some (.int .i64 eO):=(aM dJ.out 0).trans rfl;have Qa:VA.cell? ⟨fM,1,none⟩ = some (.int .i64 iP):=(aM dJ.out 1).trans rfl;have Qb:VA.cell? ⟨fM,2,none⟩ = some (.int .i64 jO):=(aM dJ.out 2).trans rfl;have Qc:=ay dJ.out 0;have Qd:=ay dJ.out 1;have Qe:=ay dJ.out 2;have agi:=fq.out;have agj:=gU.out;have Qf:VA.cell? ⟨fF,0,none⟩ = some (.string (⟨#[]⟩:ByteArray)):=(aM dV.out 0).trans rfl;have Qg:VA.cell? ⟨fF,1,none⟩ = some (.string (⟨#[]⟩:ByteArray)):=(aM dV.out 1).trans rfl;have Qh:VA.cell? ⟨fF,2,none⟩ = some (.slice none 0 0):=(aM dV.out 2).trans rfl;have Qi:=ay dV.out 0;have Qj:=ay dV.out 1;have Qk:=ay dV.out 2))
          go_loopg [1,38] k (fun kq v1 v38 w'=>∃ (dS:Int) (uL:Int) (gG:ByteArray) (fH:ByteArray) (ig:List ByteArray) (iQ:Value),v1 = .int .i64 dS ∧ v38 = .int .i64 uL ∧ aj (bW.l0 kq a0 dS a2 iP uL eO iP jO (a0.extract (a1:Int).toNat ((wrap64 (a1 + eO)):Int).toNat) (⟨#[]⟩:ByteArray) ig = some (r1,r2,r3,r4)) ∧ aj (kq ≤ k) ∧ aj (Kd.R Kd.string 9 w' w.heap.size (fun _=>True) iQ ig) ∧ aj (w'.heap[fM]? = some (.cells #[.int .i64 eO,.int .i64 iP,.int .i64 jO] 157 (0,0))) ∧ aj (w'.heap[dD]? = some (.cells #[.string gG,.string fH,(.slice none 0 0)] 148 (0,0))) ∧ aj (w'.heap[fF]? = some (.cells #[.string (a0.extract (a1:Int).toNat ((wrap64 (a1 + eO)):Int).toNat),.string (⟨#[]⟩:ByteArray),iQ] 148 (0,0))) ∧ aj (Below w.heap.size w w'))
          case atStart=>exact ⟨(wrap64 (a1 + eO)),(0),((⟨#[]⟩:ByteArray)),((⟨#[]⟩:ByteArray)),(([]:List ByteArray)),(.slice none 0 0),(by first | rfl | (simp;done) | (simp [*];done) | (simp [B.aV];done) | (simp [B.aW];done)),(by first | rfl | (simp;done) | (simp [*];done) | (simp [B.aV];done) | (simp [B.aW];done)),H',⟨Nat.le_refl _⟩,⟨by first | exact Kd.jD _ _ _ _ _ | exact Kd.kV _ _ _ _ _ | exact Kd.kW _ _ _ _ _ | exact Kd.kT _ _ _ _ _ | exact Kd.kU _ _ _ _ _⟩,⟨by (with_reducible repeat (first | refine aG ?_ _ | refine aI ?_ | refine aA ?_ _));refine oh ?_ jT.out _;(with_reducible repeat (first | refine aG ?_ _ | refine aI ?_ | refine aA ?_ _));exact dJ.out⟩,⟨by (with_reducible repeat (first | refine aG ?_ _ | refine aI ?_ | refine aA ?_ _));refine oh ?_ gU.out _;(with_reducible repeat (first | refine aG ?_ _ | refine aI ?_ | refine aA ?_ _));exact dA.out⟩,⟨by (with_reducible repeat (first | refine aG ?_ _ | refine aI ?_ | refine aA ?_ _));refine bV (cs:=#[.string (⟨#[]⟩:ByteArray),.string (⟨#[]⟩:ByteArray),.slice none 0 0]) ?_ 0 _ rfl;(with_reducible repeat (first | refine aG ?_ _ | refine aI ?_ | refine aA ?_ _));exact dV.out⟩,⟨by repeat (first | (with_reducible first | exact HB.out | apply ak | apply ah | apply au | refine aR ?_ iW.out | refine aR ?_ kD.out | refine aR ?_ nP.out) | exact HB.out)⟩⟩
          case round =>
            clear H'
            try clear c1
            try clear p2
            try clear c5
            try clear pK
            try clear vE
            try clear c6
            try clear zN
            try clear MV
            try clear p6
            try clear c7
            try clear uJ
            try clear JW
            try clear c8
            try clear rW
            try clear rX
            try clear c12
            try clear c13
            try clear c15
            try clear P9
            try clear Qa
            try clear Qb
            try clear Qf
            try clear Qg
            try clear Qh
            try clear Qc
            try clear Qd
            try clear Qe
            try clear Qi
            try clear Qj
            try clear Qk
            obtain ⟨dS,uL,gG,fH,ig,iQ,rfl,rfl,HA,uz,dP,dJ,dA,dV,HB⟩:=hrel
            cases gk with
            | zero=>exact absurd HA.out (by simp [bW.l0])
            | succ k1 =>
              have H:=HA.out
              clear HA
              simp only [bW.l0] at H
              by_cases c17:uL < iP
              · rw [if_pos c17] at H
                have SA:decide (uL < iP) = true:=decide_eq_true c17
                clear c17
                replace H:=zbm H
                obtain ⟨⟨Gx,zP,t127⟩,Nc,H⟩:=H
                replace H:(if t127 = 0 then (if zP > a2 then (some ((⟨#[]⟩:ByteArray),(⟨#[]⟩:ByteArray),([]:List ByteArray),false)) else (if ig.length < 8796093022208 then (bW.l0 k1 a0 zP a2 iP (wrap64 (uL + 1)) eO iP jO (a0.extract (a1:Int).toNat ((wrap64 (a1 + eO)):Int).toNat) (⟨#[]⟩:ByteArray) (ig ++ [Gx])) else (none))) else (some ((⟨#[]⟩:ByteArray),(⟨#[]⟩:ByteArray),([]:List ByteArray),false))) = some (r1,r2,r3,r4):=H
                have Vx:=aj.mk Nc
                clear Nc
                by_cases c19:t127 = 0
                · rw [if_pos c19] at H
                  have aaf:(t127 == 0) = true:=beq_iff_eq.mpr c19
                  have aag:(t127 != 0) = false:=bne_eq_false_iff_eq.mpr c19
                  clear c19
                  by_cases c20:zP > a2
                  · rw [if_pos c20] at H
                    have Nf:decide (a2 < zP) = true:=decide_eq_true c20
                    clear c20
                    simp only [Option.some.injEq,Prod.mk.injEq] at H
                    obtain ⟨rfl,rfl,rfl,rfl⟩:=H
                    go_wp2_with (first | ((with_reducible refine aQ (f:=125) rfl ?_);refine bQ (some 43) rfl rfl Try.func125 (by kernel_rfl) rfl #[.string a0,.int .i64 dS] rfl (by (try simp only [List.map_toArray,List.map_cons,List.map_nil]);first | done | rfl | (simp only [List.length_drop,List.length_take];rfl) | (simp only [ByteArray.size_append,Int.natCast_add];rfl) | (rw [B.dQ] <;> first | rfl | omega | (simp only [decide_eq_false_iff_not,decide_eq_true_eq,Int.not_lt,Nat.not_lt,gt_iff_lt] at * <;> omega))) ?_;(with_reducible refine (bF.calls k1 a0 dS Gx zP t127 _ Vx.out).mono ?_);rintro e w21 ⟨rfl,hb⟩;refine ⟨_,rfl,?_⟩;have dZ:=aj.mk (Kd.j4 (by (with_reducible repeat (first | apply Kd.eY | apply Kd.fJ | apply Kd.fV));exact dP.out) hb);have gZ:=aj.mk (dO (g:=fM) (o:=.cells #[.int .i64 eO,.int .i64 iP,.int .i64 jO] 157 (0,0)) (by (with_reducible repeat (first | refine aG ?_ _ | refine aI ?_ | refine aA ?_ _));exact dJ.out) hb);have je:=aj.mk (dO (g:=dD) (o:=.cells #[.string gG,.string fH,.slice none 0 0] 148 (0,0)) (by (with_reducible repeat (first | refine aG ?_ _ | refine aI ?_ | refine aA ?_ _));exact dA.out) hb);have jH:=aj.mk (dO (g:=fF) (o:=.cells #[.string (a0.extract (a1:Int).toNat ((wrap64 (a1 + eO)):Int).toNat),.string (⟨#[]⟩:ByteArray),iQ] 148 (0,0)) (by (with_reducible repeat (first | refine aG ?_ _ | refine aI ?_ | refine aA ?_ _));exact dV.out) hb);have qO:=aj.mk (bE (by repeat (first | (with_reducible first | exact HB.out | apply ak | apply ah | apply au | refine aR ?_ iW.out | refine aR ?_ kD.out | refine aR ?_ nP.out) | exact HB.out)) hb);clear dP;clear dJ;clear dA;clear dV;clear HB;have dP:=dZ;have dJ:=gZ;have dA:=je;have dV:=jH;have HB:=qO;clear dZ gZ je jH qO;(try clear hb);(try clear hb2);(try clear hk);(try clear hi);have agk:=jS.out;have agl:=fG.out;have agm:=gU.out;have agn:=fq.out;have ab1:w21.cell? ⟨dD,0,none⟩ = some (.string gG):=(aM dA.out 0).trans rfl;have ab2:w21.cell? ⟨dD,1,none⟩ = some (.string fH):=(aM dA.out 1).trans rfl;have ab3:w21.cell? ⟨dD,2,none⟩ = some (.slice none 0 0):=(aM dA.out 2).trans rfl;have ab4:=ay dA.out 0;have ab5:=ay dA.out 1;have ab6:=ay dA.out 2))
                    refine bodyPost_ret (jN rfl _ _ dD 148 #[.string (⟨#[]⟩:ByteArray),.string (⟨#[]⟩:ByteArray),.slice none 0 0] (0,0) _ rfl (by (with_reducible repeat (first | refine aG ?_ _ | refine aI ?_ | refine aA ?_ _));refine bV (cs:=#[.string (⟨#[]⟩:ByteArray),.string (⟨#[]⟩:ByteArray),.slice none 0 0]) ?_ 2 _ rfl;(with_reducible repeat (first | refine aG ?_ _ | refine aI ?_ | refine aA ?_ _));refine bV (cs:=#[.string (⟨#[]⟩:ByteArray),.string fH,.slice none 0 0]) ?_ 1 _ rfl;(with_reducible repeat (first | refine aG ?_ _ | refine aI ?_ | refine aA ?_ _));refine bV (cs:=#[.string gG,.string fH,.slice none 0 0]) ?_ 0 _ rfl;(with_reducible repeat (first | refine aG ?_ _ | refine aI ?_ | refine aA ?_ _));exact dA.out) Try.underlying148 rfl (by kernel_rfl)) rfl ?_
                    exact ⟨_,by first | rfl | (simp [aJ,aK] <;> rfl) | (simp [*,aJ,aK] <;> rfl),by first | exact Kd.jD _ _ _ _ _ | exact Kd.kV _ _ _ _ _ | exact Kd.kW _ _ _ _ _ | exact Kd.kT _ _ _ _ _ | exact Kd.kU _ _ _ _ _,by repeat (first | (with_reducible first | exact HB.out | apply ak | apply ah | apply au | refine aR ?_ iW.out | refine aR ?_ kD.out | refine aR ?_ nP.out) | exact HB.out)⟩
                  · rw [if_neg c20] at H
                    have Nf:decide (a2 < zP) = false:=decide_eq_false c20
                    clear c20
                    by_cases Kv:ig.length < 8796093022208
                    · rw [if_pos Kv] at H
                      have aah:=aj.mk Kv
                      clear Kv
                      obtain ⟨Ql,hy128⟩:∃ y_:List ByteArray,y_ = (ig ++ [Gx]):=⟨_,rfl⟩
                      replace H:(bW.l0 k1 a0 zP a2 iP (wrap64 (uL + 1)) eO iP jO (a0.extract (a1:Int).toNat ((wrap64 (a1 + eO)):Int).toNat) (⟨#[]⟩:ByteArray) Ql) = some (r1,r2,r3,r4):=by first | (rw [hy128];with_reducible exact H) | (have Gr:=(Option.bind_some _ _).symm.trans H;rw [hy128];with_reducible exact Gr) | (have Gr:=(Option.bind_some _ _).symm.trans H;with_reducible exact Gr) | with_reducible exact H | (rw [hy128];exact H) | exact H
                      have aai:=aj.mk hy128
                      clear hy128
                      have H':=aj.mk H
                      clear H
                      go_wp2_with (first | ((with_reducible refine aQ (f:=125) rfl ?_);refine bQ (some 43) rfl rfl Try.func125 (by kernel_rfl) rfl #[.string a0,.int .i64 dS] rfl (by (try simp only [List.map_toArray,List.map_cons,List.map_nil]);first | done | rfl | (simp only [List.length_drop,List.length_take];rfl) | (simp only [ByteArray.size_append,Int.natCast_add];rfl) | (rw [B.dQ] <;> first | rfl | omega | (simp only [decide_eq_false_iff_not,decide_eq_true_eq,Int.not_lt,Nat.not_lt,gt_iff_lt] at * <;> omega))) ?_;(with_reducible refine (bF.calls k1 a0 dS Gx zP t127 _ Vx.out).mono ?_);rintro e w26 ⟨rfl,hb⟩;refine ⟨_,rfl,?_⟩;have dZ:=aj.mk (Kd.j4 (by (with_reducible repeat (first | apply Kd.eY | apply Kd.fJ | apply Kd.fV));exact dP.out) hb);have gZ:=aj.mk (dO (g:=fM) (o:=.cells #[.int .i64 eO,.int .i64 iP,.int .i64 jO] 157 (0,0)) (by (with_reducible repeat (first | refine aG ?_ _ | refine aI ?_ | refine aA ?_ _));exact dJ.out) hb);have je:=aj.mk (dO (g:=dD) (o:=.cells #[.string gG,.string fH,.slice none 0 0] 148 (0,0)) (by (with_reducible repeat (first | refine aG ?_ _ | refine aI ?_ | refine aA ?_ _));exact dA.out) hb);have jH:=aj.mk (dO (g:=fF) (o:=.cells #[.string (a0.extract (a1:Int).toNat ((wrap64 (a1 + eO)):Int).toNat),.string (⟨#[]⟩:ByteArray),iQ] 148 (0,0)) (by (with_reducible repeat (first | refine aG ?_ _ | refine aI ?_ | refine aA ?_ _));exact dV.out) hb);have qO:=aj.mk (bE (by repeat (first | (with_reducible first | exact HB.out | apply ak | apply ah | apply au | refine aR ?_ iW.out | refine aR ?_ kD.out | refine aR ?_ nP.out) | exact HB.out)) hb);clear dP;clear dJ;clear dA;clear dV;clear HB;have dP:=dZ;have dJ:=gZ;have dA:=je;have dV:=jH;have HB:=qO;clear dZ gZ je jH qO;(try clear hb);(try clear hb2);(try clear hk);(try clear hi);have agp:=nQ.out;have agq:=jT.out;have agr:=fq.out;have ags:=gU.out;have ab7:w26.cell? ⟨fF,0,none⟩ = some (.string (a0.extract (a1:Int).toNat ((wrap64 (a1 + eO)):Int).toNat)):=(aM dV.out 0).trans rfl;have ab8:w26.cell? ⟨fF,1,none⟩ = some (.string (⟨#[]⟩:ByteArray)):=(aM dV.out 1).trans rfl;have ab9:w26.cell? ⟨fF,2,none⟩ = some (iQ):=(aM dV.out 2).trans rfl;have acd:=ay dV.out 0;have ace:=ay dV.out 1;have acf:=ay dV.out 2) | ((with_reducible refine oo (b:=.append) (xs:=#[.tmp 56,.tmp 58]) rfl ?_);at_builtin;refine Kd.yF Kd.string (w0:=w) w.heap.size rfl (.tmp 56) (.tmp 58) 33 9 (.string ⟨#[]⟩) 16 rfl Try.underlying33 Ij rfl (by decide) (by omega) iQ ig Gx [.string Gx] (fun _=>True) (fun _=>False) rfl rfl ?aP (fun _ hk=>hk.elim) ?aF ?aO ?aB ?aS ?aL ?_;(case aP=>exact rfl);(case aB=>exact (by repeat (first | (with_reducible first | exact HB.out | apply ak | apply ah | apply au | refine aR ?_ iW.out | refine aR ?_ kD.out | refine aR ?_ nP.out) | exact HB.out)));(case aF=>exact (fun _ _=>trivial));(case aO=>exact (by (with_reducible repeat (first | apply Kd.eY | apply Kd.fJ | apply Kd.fV));exact dP.out));(case aS=>exact (bL (by repeat (first | (with_reducible first | exact HB.out | apply ak | apply ah | apply au | refine aR ?_ iW.out | refine aR ?_ kD.out | refine aR ?_ nP.out) | exact HB.out))));(case aL=>have:=aah.out;omega);intro ahk w30 ho hb hg hat;rw [← aai.out] at ho;have dZ:=aj.mk (qo (g:=fM) (o:=.cells #[.int .i64 eO,.int .i64 iP,.int .i64 jO] 157 (0,0)) (by (with_reducible repeat (first | refine aG ?_ _ | refine aI ?_ | refine aA ?_ _));exact dJ.out) hg (Kd.PG dP.out dJ.out (by decide)));have gZ:=aj.mk (qo (g:=dD) (o:=.cells #[.string gG,.string fH,.slice none 0 0] 148 (0,0)) (by (with_reducible repeat (first | refine aG ?_ _ | refine aI ?_ | refine aA ?_ _));exact dA.out) hg (Kd.PG dP.out dA.out (by decide)));have je:=aj.mk (qo (g:=fF) (o:=.cells #[.string (a0.extract (a1:Int).toNat ((wrap64 (a1 + eO)):Int).toNat),.string (⟨#[]⟩:ByteArray),iQ] 148 (0,0)) (by (with_reducible repeat (first | refine aG ?_ _ | refine aI ?_ | refine aA ?_ _));exact dV.out) hg (Kd.PG dP.out dV.out (by decide)));have jH:=aj.mk (hb);have qO:=aj.mk (ho);clear dJ;clear dA;clear dV;clear HB;clear dP;have dJ:=dZ;have dA:=gZ;have dV:=je;have HB:=jH;have SB:=qO;clear dZ gZ je jH qO;clear ho hb hg hat;obtain ⟨aaj,aak,aeV⟩:=Kd.wT SB.out;subst aeV;have Iz:w30.cell? ⟨fF,0,none⟩ = some (.string (a0.extract (a1:Int).toNat ((wrap64 (a1 + eO)):Int).toNat)):=(aM dV.out 0).trans rfl;have IB:w30.cell? ⟨fF,1,none⟩ = some (.string (⟨#[]⟩:ByteArray)):=(aM dV.out 1).trans rfl;have IC:w30.cell? ⟨fF,2,none⟩ = some (iQ):=(aM dV.out 2).trans rfl;have IE:=ay dV.out 0;have IG:=ay dV.out 1;have II:=ay dV.out 2))
                      go_roundg k1
                      case measure=>have:=uz.out;omega
                      case rel=>exact ⟨(zP),(wrap64 (uL + 1)),(gG),(fH),(Ql),(.slice aaj Ql.length aak),(by first | rfl | (simp;done) | (simp [*];done) | (simp [B.aV];done) | (simp [B.aW];done)),(by first | rfl | (simp;done) | (simp [*];done) | (simp [B.aV];done) | (simp [B.aW];done)),H',⟨by have:=uz.out;omega⟩,⟨by (with_reducible repeat (first | apply Kd.eY | apply Kd.fJ | apply Kd.fV));exact Kd.pF (Kd.uh (p:=⟨fF,2,none⟩) (Kd.uj SB.out dV.out (by decide)) (fun _ hk=>hk.2) (.slice aaj Ql.length aak)) (fun _ hk=>trivial)⟩,⟨by (with_reducible repeat (first | refine aG ?_ _ | refine aI ?_ | refine aA ?_ _));refine oh ?_ jT.out _;(with_reducible repeat (first | refine aG ?_ _ | refine aI ?_ | refine aA ?_ _));exact dJ.out⟩,⟨by (with_reducible repeat (first | refine aG ?_ _ | refine aI ?_ | refine aA ?_ _));refine oh ?_ gU.out _;(with_reducible repeat (first | refine aG ?_ _ | refine aI ?_ | refine aA ?_ _));exact dA.out⟩,⟨by (with_reducible repeat (first | refine aG ?_ _ | refine aI ?_ | refine aA ?_ _));refine bV (cs:=#[.string (a0.extract (a1:Int).toNat ((wrap64 (a1 + eO)):Int).toNat),.string (⟨#[]⟩:ByteArray),iQ]) ?_ 2 _ rfl;(with_reducible repeat (first | refine aG ?_ _ | refine aI ?_ | refine aA ?_ _));exact dV.out⟩,⟨by repeat (first | (with_reducible first | exact HB.out | apply ak | apply ah | apply au | refine aR ?_ iW.out | refine aR ?_ kD.out | refine aR ?_ nP.out) | exact HB.out)⟩⟩
                    · rw [if_neg Kv] at H
                      exact absurd H (by simp)
                · rw [if_neg c19] at H
                  have aaf:(t127 == 0) = false:=beq_eq_false_iff_ne.mpr c19
                  have aag:(t127 != 0) = true:=bne_iff_ne.mpr c19
                  simp only [Option.some.injEq,Prod.mk.injEq] at H
                  obtain ⟨rfl,rfl,rfl,rfl⟩:=H
                  go_wp2_with (first | ((with_reducible refine aQ (f:=125) rfl ?_);refine bQ (some 43) rfl rfl Try.func125 (by kernel_rfl) rfl #[.string a0,.int .i64 dS] rfl (by (try simp only [List.map_toArray,List.map_cons,List.map_nil]);first | done | rfl | (simp only [List.length_drop,List.length_take];rfl) | (simp only [ByteArray.size_append,Int.natCast_add];rfl) | (rw [B.dQ] <;> first | rfl | omega | (simp only [decide_eq_false_iff_not,decide_eq_true_eq,Int.not_lt,Nat.not_lt,gt_iff_lt] at * <;> omega))) ?_;(with_reducible refine (bF.calls k1 a0 dS Gx zP t127 _ Vx.out).mono ?_);rintro e w33 ⟨rfl,hb⟩;refine ⟨_,rfl,?_⟩;have dZ:=aj.mk (Kd.j4 (by (with_reducible repeat (first | apply Kd.eY | apply Kd.fJ | apply Kd.fV));exact dP.out) hb);have gZ:=aj.mk (dO (g:=fM) (o:=.cells #[.int .i64 eO,.int .i64 iP,.int .i64 jO] 157 (0,0)) (by (with_reducible repeat (first | refine aG ?_ _ | refine aI ?_ | refine aA ?_ _));exact dJ.out) hb);have je:=aj.mk (dO (g:=dD) (o:=.cells #[.string gG,.string fH,.slice none 0 0] 148 (0,0)) (by (with_reducible repeat (first | refine aG ?_ _ | refine aI ?_ | refine aA ?_ _));exact dA.out) hb);have jH:=aj.mk (dO (g:=fF) (o:=.cells #[.string (a0.extract (a1:Int).toNat ((wrap64 (a1 + eO)):Int).toNat),.string (⟨#[]⟩:ByteArray),iQ] 148 (0,0)) (by (with_reducible repeat (first | refine aG ?_ _ | refine aI ?_ | refine aA ?_ _));exact dV.out) hb);have qO:=aj.mk (bE (by repeat (first | (with_reducible first | exact HB.out | apply ak | apply ah | apply au | refine aR ?_ iW.out | refine aR ?_ kD.out | refine aR ?_ nP.out) | exact HB.out)) hb);clear dP;clear dJ;clear dA;clear dV;clear HB;have dP:=dZ;have dJ:=gZ;have dA:=je;have dV:=jH;have HB:=qO;clear dZ gZ je jH qO;(try clear hb);(try clear hb2);(try clear hk);(try clear hi);have agt:=jS.out;have agu:=fG.out;have agv:=gU.out;have agw:=fq.out;have acg:w33.cell? ⟨dD,0,none⟩ = some (.string gG):=(aM dA.out 0).trans rfl;have ach:w33.cell? ⟨dD,1,none⟩ = some (.string fH):=(aM dA.out 1).trans rfl;have aci:w33.cell? ⟨dD,2,none⟩ = some (.slice none 0 0):=(aM dA.out 2).trans rfl;have acj:=ay dA.out 0;have acn:=ay dA.out 1;have aco:=ay dA.out 2))
                  refine bodyPost_ret (jN rfl _ _ dD 148 #[.string (⟨#[]⟩:ByteArray),.string (⟨#[]⟩:ByteArray),.slice none 0 0] (0,0) _ rfl (by (with_reducible repeat (first | refine aG ?_ _ | refine aI ?_ | refine aA ?_ _));refine bV (cs:=#[.string (⟨#[]⟩:ByteArray),.string (⟨#[]⟩:ByteArray),.slice none 0 0]) ?_ 2 _ rfl;(with_reducible repeat (first | refine aG ?_ _ | refine aI ?_ | refine aA ?_ _));refine bV (cs:=#[.string (⟨#[]⟩:ByteArray),.string fH,.slice none 0 0]) ?_ 1 _ rfl;(with_reducible repeat (first | refine aG ?_ _ | refine aI ?_ | refine aA ?_ _));refine bV (cs:=#[.string gG,.string fH,.slice none 0 0]) ?_ 0 _ rfl;(with_reducible repeat (first | refine aG ?_ _ | refine aI ?_ | refine aA ?_ _));exact dA.out) Try.underlying148 rfl (by kernel_rfl)) rfl ?_
                  exact ⟨_,by first | rfl | (simp [aJ,aK] <;> rfl) | (simp [*,aJ,aK] <;> rfl),by first | exact Kd.jD _ _ _ _ _ | exact Kd.kV _ _ _ _ _ | exact Kd.kW _ _ _ _ _ | exact Kd.kT _ _ _ _ _ | exact Kd.kU _ _ _ _ _,by repeat (first | (with_reducible first | exact HB.out | apply ak | apply ah | apply au | refine aR ?_ iW.out | refine aR ?_ kD.out | refine aR ?_ nP.out) | exact HB.out)⟩
              · rw [if_neg c17] at H
                have SA:decide (uL < iP) = false:=decide_eq_false c17
                clear c17
                by_cases c37:0 ≤ dS
                · rw [if_pos c37] at H
                  have agx:=eq_true c37
                  have agy:decide (0 ≤ dS) = true:=decide_eq_true c37
                  clear c37
                  by_cases Kz:dS ≤ a2
                  · rw [if_pos Kz] at H
                    have SC:=eq_true Kz
                    have agz:decide (dS ≤ a2) = true:=decide_eq_true Kz
                    clear Kz
                    by_cases c39:a2 ≤ (a0.size:Int)
                    · rw [if_pos c39] at H
                      have agA:=eq_true c39
                      have agB:decide (a2 ≤ (a0.size:Int)) = true:=decide_eq_true c39
                      clear c39
                      simp only [Option.some.injEq,Prod.mk.injEq] at H
                      obtain ⟨rfl,rfl,rfl,rfl⟩:=H
                      have agC:=nQ.out
                      have agD:=jT.out
                      have agE:=fq.out
                      have agF:=gU.out
                      have Qm:wr.cell? ⟨fF,0,none⟩ = some (.string (a0.extract (a1:Int).toNat ((wrap64 (a1 + eO)):Int).toNat)):=(aM dV.out 0).trans rfl
                      have Qo:wr.cell? ⟨fF,1,none⟩ = some (.string (⟨#[]⟩:ByteArray)):=(aM dV.out 1).trans rfl
                      have Qp:wr.cell? ⟨fF,2,none⟩ = some (iQ):=(aM dV.out 2).trans rfl
                      have Qq:=ay dV.out 0
                      have Qr:=ay dV.out 1
                      have Qs:=ay dV.out 2
                      try go_wp2
                      have dZ:aj (Kd.R Kd.string 9 (wr.setCell ⟨fF,1,none⟩ (.string (a0.extract (dS:Int).toNat (a2:Int).toNat))) w.heap.size (fun _=>True) iQ ig):=⟨by (with_reducible repeat (first | apply Kd.eY | apply Kd.fJ | apply Kd.fV));exact Kd.pF (Kd.uh (p:=⟨fF,1,none⟩) (Kd.uj dP.out dV.out (by decide)) (fun _ hk=>hk.2) (.string (a0.extract (dS:Int).toNat (a2:Int).toNat))) (fun _ hk=>trivial)⟩
                      have gZ:aj ((wr.setCell ⟨fF,1,none⟩ (.string (a0.extract (dS:Int).toNat (a2:Int).toNat))).heap[fM]? = some (.cells #[.int .i64 eO,.int .i64 iP,.int .i64 jO] 157 (0,0))):=⟨by (with_reducible repeat (first | refine aG ?_ _ | refine aI ?_ | refine aA ?_ _));refine oh ?_ jT.out _;(with_reducible repeat (first | refine aG ?_ _ | refine aI ?_ | refine aA ?_ _));exact dJ.out⟩
                      have je:aj ((wr.setCell ⟨fF,1,none⟩ (.string (a0.extract (dS:Int).toNat (a2:Int).toNat))).heap[dD]? = some (.cells #[.string gG,.string fH,.slice none 0 0] 148 (0,0))):=⟨by (with_reducible repeat (first | refine aG ?_ _ | refine aI ?_ | refine aA ?_ _));refine oh ?_ gU.out _;(with_reducible repeat (first | refine aG ?_ _ | refine aI ?_ | refine aA ?_ _));exact dA.out⟩
                      have jH:aj ((wr.setCell ⟨fF,1,none⟩ (.string (a0.extract (dS:Int).toNat (a2:Int).toNat))).heap[fF]? = some (.cells #[.string (a0.extract (a1:Int).toNat ((wrap64 (a1 + eO)):Int).toNat),.string (a0.extract (dS:Int).toNat (a2:Int).toNat),iQ] 148 (0,0))):=⟨by (with_reducible repeat (first | refine aG ?_ _ | refine aI ?_ | refine aA ?_ _));refine bV (cs:=#[.string (a0.extract (a1:Int).toNat ((wrap64 (a1 + eO)):Int).toNat),.string (⟨#[]⟩:ByteArray),iQ]) ?_ 1 _ rfl;(with_reducible repeat (first | refine aG ?_ _ | refine aI ?_ | refine aA ?_ _));exact dV.out⟩
                      have qO:aj (Below w.heap.size w (wr.setCell ⟨fF,1,none⟩ (.string (a0.extract (dS:Int).toNat (a2:Int).toNat)))):=⟨by repeat (first | (with_reducible first | exact HB.out | apply ak | apply ah | apply au | refine aR ?_ iW.out | refine aR ?_ kD.out | refine aR ?_ nP.out) | exact HB.out)⟩
                      (try clear dP)
                      (try clear dJ)
                      (try clear dA)
                      (try clear dV)
                      (try clear HB)
                      generalize (wr.setCell ⟨fF,1,none⟩ (.string (a0.extract (dS:Int).toNat (a2:Int).toNat))) = w43 at dZ gZ je jH qO ⊢
                      have dP:=dZ
                      have dJ:=gZ
                      have dA:=je
                      have dV:=jH
                      have HB:=qO
                      clear dZ gZ je jH qO
                      have dZ:=aj.mk (Kd.fV dP.out)
                      have gZ:=aj.mk (aI dJ.out)
                      have je:=aj.mk (aI dA.out)
                      have jH:=aj.mk (aI dV.out)
                      have qO:=aj.mk (au HB.out)
                      clear dP
                      clear dJ
                      clear dA
                      clear dV
                      clear HB
                      have dP:=dZ
                      have dJ:=gZ
                      have dA:=je
                      have dV:=jH
                      have HB:=qO
                      clear dZ gZ je jH qO
                      obtain ⟨VB,VD,aal⟩:=Kd.wT dP.out
                      (first | subst aal | (injection aal with f1_ f2_ f3_;have f4_:=f1_.symm;have f5_:=f3_.symm;clear f1_ f2_ f3_;subst f4_;subst f5_))
                      refine MJ (n:=9) (S:=fun w'=>w'.cell? ⟨fF,0,none⟩ = some (.string (a0.extract (a1:Int).toNat ((wrap64 (a1 + eO)):Int).toNat)) ∧ w'.cell? ⟨fF,1,none⟩ = some (.string (a0.extract (dS:Int).toNat (a2:Int).toNat)) ∧ w'.cell? ⟨fF,2,none⟩ = some (.slice VB ig.length VD) ∧ w'.cell? ⟨fM,0,none⟩ = some (.int .i64 eO) ∧ w'.cell? ⟨fM,1,none⟩ = some (.int .i64 iP) ∧ w'.cell? ⟨fM,2,none⟩ = some (.int .i64 jO)) (ds:=[]) #[false,false,false,false,false,false,false,false,false] (by kernel_rfl) rfl rfl ⟨(aM dV.out 0).trans rfl,(aM dV.out 1).trans rfl,(aM dV.out 2).trans rfl,(aM dJ.out 0).trans rfl,(aM dJ.out 1).trans rfl,(aM dJ.out 2).trans rfl⟩ (fun hHeld=>?_);refine Az bW.Z9 bW.Vz (fun wG HW_=>?_)
                      generalize w43.drew = w44 at dP dJ dA dV HB hHeld ⊢
                      refine lI (i:=1) (N:=some 69) (v:=?_) (a':=?_) #[false,true,false,false,false,false,false,false,false] rfl rfl (jG wG.out (by kernel_rfl)) (fun _ _ _ h=>h) (Or.inl ⟨by rfl,?_⟩) ?_ ?_
                      rotate_left
                      · intro w'
                        go_simp
                        with_reducible rfl
                      rotate_left
                      · simp only [Act.put,List.setIfInBounds_toArray,List.set_cons_zero,List.set_cons_succ,gQ,iy]
                        rfl
                      refine lI (i:=4) (N:=some 72) (v:=?_) (a':=?_) #[false,true,false,false,true,false,false,false,false] rfl rfl (jG wG.out (by kernel_rfl)) (fun _ _ _ h=>h) (Or.inl ⟨by rfl,?_⟩) ?_ ?_
                      rotate_left
                      · intro w'
                        go_simp
                        with_reducible rfl
                      rotate_left
                      · simp only [Act.put,List.setIfInBounds_toArray,List.set_cons_zero,List.set_cons_succ,gQ,iy]
                        rfl
                      refine EC (i:=0) (N:=some 68) (v:=?_) (a':=?_) #[true,true,false,false,true,false,false,false,false] rfl rfl (yS wG.out HW_.out (by kernel_rfl)) (fun _ _ _ h=>h) (Or.inl ⟨by rfl,?_⟩) hHeld ?_ ?_
                      rotate_left
                      · rintro w' ⟨s0,s1,s2,s3,s4,s5⟩
                        go_simp
                        with_reducible rfl
                      rotate_left
                      · simp only [Act.put,List.setIfInBounds_toArray,List.set_cons_zero,List.set_cons_succ,gQ,iy]
                        rfl
                      refine EC (i:=2) (N:=some 70) (v:=?_) (a':=?_) #[true,true,true,false,true,false,false,false,false] rfl rfl (yS wG.out HW_.out (by kernel_rfl)) (fun _ _ _ h=>h) (Or.inl ⟨by rfl,?_⟩) hHeld ?_ ?_
                      rotate_left
                      · rintro w' ⟨s0,s1,s2,s3,s4,s5⟩
                        go_simp
                        with_reducible rfl
                      rotate_left
                      · simp only [Act.put,List.setIfInBounds_toArray,List.set_cons_zero,List.set_cons_succ,gQ,iy]
                        rfl
                      refine lI (i:=3) (N:=some 71) (v:=?_) (a':=?_) #[true,true,true,true,true,false,false,false,false] rfl rfl (jG wG.out (by kernel_rfl)) (fun _ _ _ h=>h) (Or.inl ⟨by rfl,?_⟩) ?_ ?_
                      rotate_left
                      · intro w'
                        go_simp
                        with_reducible rfl
                      rotate_left
                      · simp only [Act.put,List.setIfInBounds_toArray,List.set_cons_zero,List.set_cons_succ,gQ,iy]
                        rfl
                      refine EC (i:=5) (N:=some 73) (v:=?_) (a':=?_) #[true,true,true,true,true,true,false,false,false] rfl rfl (yS wG.out HW_.out (by kernel_rfl)) (fun _ _ _ h=>h) (Or.inl ⟨by rfl,?_⟩) hHeld ?_ ?_
                      rotate_left
                      · rintro w' ⟨s0,s1,s2,s3,s4,s5⟩
                        go_simp
                        with_reducible rfl
                      rotate_left
                      · simp only [Act.put,List.setIfInBounds_toArray,List.set_cons_zero,List.set_cons_succ,gQ,iy]
                        rfl
                      refine lI (i:=6) (N:=some 74) (v:=?_) (a':=?_) #[true,true,true,true,true,true,true,false,false] rfl rfl (jG wG.out (by kernel_rfl)) (fun _ _ _ h=>h) (Or.inl ⟨by rfl,?_⟩) ?_ ?_
                      rotate_left
                      · intro w'
                        go_simp
                        with_reducible rfl
                      rotate_left
                      · simp only [Act.put,List.setIfInBounds_toArray,List.set_cons_zero,List.set_cons_succ,gQ,iy]
                        rfl
                      refine Vl (i:=7) (N:=none) #[true,true,true,true,true,true,true,true,false] rfl rfl (Gq wG.out (by kernel_rfl)) (by decide) (fun K hK=>?_)
                      have ahl:w44.cell? ⟨dD,0,none⟩ = some (.string gG):=(aM dA.out 0).trans rfl
                      have agG:=ay dA.out 0
                      have acp:=fG.out
                      have acr:=fq.out
                      have acs:=jS.out
                      have acu:=gU.out
                      have ahm:w44.cell? ⟨dD,1,none⟩ = some (.string fH):=(aM dA.out 1).trans rfl
                      have agH:=ay dA.out 1
                      have acv:=fG.out
                      have acw:=fq.out
                      have acy:=jS.out
                      have acz:=gU.out
                      have ahn:w44.cell? ⟨dD,2,none⟩ = some (.slice none 0 0):=(aM dA.out 2).trans rfl
                      have agI:=ay dA.out 2
                      have acA:=fG.out
                      have acB:=fq.out
                      have acC:=jS.out
                      have acD:=gU.out
                      refine Zi (w1:=?_) (by rfl) rfl ?_ ?_
                      rotate_left
                      · go_simp
                        rfl
                      refine hK.out _ _ ⟨((cell_far (p:=⟨dD,_,none⟩) fq.out _).trans (((cell_far (p:=⟨dD,_,none⟩) fq.out _).trans (((cell_far (p:=⟨dD,_,none⟩) fq.out _).trans (hHeld.1)))))),((cell_far (p:=⟨dD,_,none⟩) fq.out _).trans (((cell_far (p:=⟨dD,_,none⟩) fq.out _).trans (((cell_far (p:=⟨dD,_,none⟩) fq.out _).trans (hHeld.2.1)))))),((cell_far (p:=⟨dD,_,none⟩) fq.out _).trans (((cell_far (p:=⟨dD,_,none⟩) fq.out _).trans (((cell_far (p:=⟨dD,_,none⟩) fq.out _).trans (hHeld.2.2.1)))))),((cell_far (p:=⟨dD,_,none⟩) fG.out _).trans (((cell_far (p:=⟨dD,_,none⟩) fG.out _).trans (((cell_far (p:=⟨dD,_,none⟩) fG.out _).trans (hHeld.2.2.2.1)))))),((cell_far (p:=⟨dD,_,none⟩) fG.out _).trans (((cell_far (p:=⟨dD,_,none⟩) fG.out _).trans (((cell_far (p:=⟨dD,_,none⟩) fG.out _).trans (hHeld.2.2.2.2.1)))))),((cell_far (p:=⟨dD,_,none⟩) fG.out _).trans (((cell_far (p:=⟨dD,_,none⟩) fG.out _).trans (((cell_far (p:=⟨dD,_,none⟩) fG.out _).trans (hHeld.2.2.2.2.2))))))⟩ (fun hHeld=>?_)
                      clear hK K
                      refine lI (i:=8) (N:=some 9) (v:=?_) (a':=?_) #[true,true,true,true,true,true,true,true,true] rfl rfl (jG wG.out (by kernel_rfl)) (fun _ _ _ h=>h) (Or.inl ⟨by rfl,?_⟩) ?_ ?_
                      rotate_left
                      · intro w'
                        go_simp
                        with_reducible rfl
                      rotate_left
                      · simp only [Act.put,List.setIfInBounds_toArray,List.set_cons_zero,List.set_cons_succ,gQ,iy]
                        rfl
                      refine Sc (Ih wG.out (by kernel_rfl)) ?_
                      try go_wp2
                      refine bodyPost_ret (jN rfl _ _ dD 148 #[.string (a0.extract (a1:Int).toNat ((wrap64 (a1 + eO)):Int).toNat),.string (a0.extract (dS:Int).toNat (a2:Int).toNat),.slice VB ig.length VD] (0,0) _ rfl (by (with_reducible repeat (first | refine aG ?_ _ | refine aI ?_ | refine aA ?_ _));refine bV (cs:=#[.string (a0.extract (a1:Int).toNat ((wrap64 (a1 + eO)):Int).toNat),.string (a0.extract (dS:Int).toNat (a2:Int).toNat),.slice none 0 0]) ?_ 2 _ rfl;(with_reducible repeat (first | refine aG ?_ _ | refine aI ?_ | refine aA ?_ _));refine bV (cs:=#[.string (a0.extract (a1:Int).toNat ((wrap64 (a1 + eO)):Int).toNat),.string fH,.slice none 0 0]) ?_ 1 _ rfl;(with_reducible repeat (first | refine aG ?_ _ | refine aI ?_ | refine aA ?_ _));refine bV (cs:=#[.string gG,.string fH,.slice none 0 0]) ?_ 0 _ rfl;(with_reducible repeat (first | refine aG ?_ _ | refine aI ?_ | refine aA ?_ _));exact dA.out) Try.underlying148 rfl (by kernel_rfl)) rfl ?_
                      exact ⟨_,by first | rfl | (simp [aJ,aK] <;> rfl) | (simp [*,aJ,aK] <;> rfl),by (with_reducible repeat (first | apply Kd.eY | apply Kd.fJ | apply Kd.fV));exact Kd.pF (Kd.uh (p:=⟨dD,2,none⟩) (Kd.uh (p:=⟨dD,1,none⟩) (Kd.uh (p:=⟨dD,0,none⟩) (Kd.uj dP.out dA.out (by decide)) (fun _ hk=>hk.2) (.string (a0.extract (a1:Int).toNat ((wrap64 (a1 + eO)):Int).toNat))) (fun _ hk=>hk.2) (.string (a0.extract (dS:Int).toNat (a2:Int).toNat))) (fun _ hk=>hk.2) (.slice VB ig.length VD)) (fun _ hk=>trivial),by repeat (first | (with_reducible first | exact HB.out | apply ak | apply ah | apply au | refine aR ?_ iW.out | refine aR ?_ kD.out | refine aR ?_ nP.out) | exact HB.out)⟩
                    · rw [if_neg c39] at H
                      exact absurd H (by simp)
                  · rw [if_neg Kz] at H
                    exact absurd H (by simp)
                · rw [if_neg c37] at H
                  exact absurd H (by simp)
        · rw [if_neg c8] at H
          exact absurd H (by simp)
      · rw [if_neg c7] at H
        exact absurd H (by simp)
    · rw [if_neg c6] at H
      exact absurd H (by simp)
  · rw [if_neg c5] at H
    have pK:decide (eO ≤ (wrap64 (a2 - a1))) = false:=decide_eq_false c5
    (try (have vE:decide (eO ≤ ((a2 - a1))) = false:=by have h_:decide (eO ≤ (wrap64 (a2 - a1))) = false:=decide_eq_false c5;rw [B.dQ (by omega) (by omega)] at h_;exact h_))
    clear c5
    simp only [Option.some.injEq,Prod.mk.injEq] at H
    obtain ⟨rfl,rfl,rfl,rfl⟩:=H
    go_enter Try.func121,Try.ntmps121
    go_wp2_with (first | ((with_reducible refine gI (N:=7) rfl ?_);refine fT ?hg (N:=7) ?hd (cs:=#[.int .i64 eO,.int .i64 iP,.int .i64 jO]) (t:=157) ?hr ?_;(case hd=>rfl);(case hg=>rfl);(case hr=>first | (go_simp;done) | (go_simp;rfl));intro fM hg w49 gW hb;have dZ:=aj.mk (bE (by repeat (first | (with_reducible first | exact HB.out | apply ak | apply ah | apply au) | exact HB.out)) hb);have gZ:=aj.mk (gW);have je:=aj.mk ((by rw [hg];exact (bL (by repeat (first | (with_reducible first | exact HB.out | apply ak | apply ah | apply au) | exact HB.out))):w.heap.size ≤ fM));have jH:=aj.mk ((by rw [hg];exact (bL (by repeat (first | (with_reducible first | exact HB.out | apply ak | apply ah | apply au) | exact HB.out))):w.heap.size ≤ fM));clear HB;have HB:=dZ;have dJ:=gZ;have aac:=je;have iW:=jH;clear dZ gZ je jH;clear hb gW hg) | ((with_reducible refine gI (N:=8) rfl ?_);refine fT ?hg (N:=8) ?hd (cs:=#[.string (⟨#[]⟩:ByteArray),.string (⟨#[]⟩:ByteArray),.slice none 0 0]) (t:=148) ?hr ?_;(case hd=>rfl);(case hg=>rfl);(case hr=>first | (go_simp;done) | (go_simp;rfl));intro dD hg w50 gW hb;have dZ:=aj.mk (dO (g:=fM) (o:=.cells #[.int .i64 eO,.int .i64 iP,.int .i64 jO] 157 (0,0)) (by (with_reducible repeat (first | refine aG ?_ _ | refine aI ?_ | refine aA ?_ _));exact dJ.out) hb);have gZ:=aj.mk (bE (by repeat (first | (with_reducible first | exact HB.out | apply ak | apply ah | apply au | refine aR ?_ iW.out) | exact HB.out)) hb);have je:=aj.mk (gW);have jH:=aj.mk ((by rw [hg];exact (bL (by repeat (first | (with_reducible first | exact HB.out | apply ak | apply ah | apply au | refine aR ?_ iW.out) | exact HB.out))):w.heap.size ≤ dD));have qO:=aj.mk ((by rw [hg];exact (bL (by repeat (first | (with_reducible first | exact HB.out | apply ak | apply ah | apply au | refine aR ?_ iW.out) | exact HB.out))):w.heap.size ≤ dD));have Nh:=aj.mk ((by rw [hg];exact Nat.ne_of_lt (jF (g:=fM) (o:=.cells #[.int .i64 eO,.int .i64 iP,.int .i64 jO] 157 (0,0)) (by (with_reducible repeat (first | refine aG ?_ _ | refine aI ?_ | refine aA ?_ _));exact dJ.out)):fM ≠ dD));have Ni:=aj.mk ((by rw [hg];exact Nat.ne_of_gt (jF (g:=fM) (o:=.cells #[.int .i64 eO,.int .i64 iP,.int .i64 jO] 157 (0,0)) (by (with_reducible repeat (first | refine aG ?_ _ | refine aI ?_ | refine aA ?_ _));exact dJ.out)):dD ≠ fM));clear dJ;clear HB;have dJ:=dZ;have HB:=gZ;have dA:=je;have aad:=jH;have kD:=qO;have fG:=Nh;have jS:=Ni;clear dZ gZ je jH qO Nh Ni;clear hb gW hg) | ((with_reducible refine gI (N:=10) rfl ?_);refine fT ?hg (N:=10) ?hd (cs:=#[.string (⟨#[]⟩:ByteArray),.string (⟨#[]⟩:ByteArray),.slice none 0 0]) (t:=148) ?hr ?_;(case hd=>rfl);(case hg=>rfl);(case hr=>first | (go_simp;done) | (go_simp;rfl));intro fF hg W9 gW hb;have dZ:=aj.mk (dO (g:=fM) (o:=.cells #[.int .i64 eO,.int .i64 iP,.int .i64 jO] 157 (0,0)) (by (with_reducible repeat (first | refine aG ?_ _ | refine aI ?_ | refine aA ?_ _));exact dJ.out) hb);have gZ:=aj.mk (dO (g:=dD) (o:=.cells #[.string (⟨#[]⟩:ByteArray),.string (⟨#[]⟩:ByteArray),.slice none 0 0] 148 (0,0)) (by (with_reducible repeat (first | refine aG ?_ _ | refine aI ?_ | refine aA ?_ _));exact dA.out) hb);have je:=aj.mk (bE (by repeat (first | (with_reducible first | exact HB.out | apply ak | apply ah | apply au | refine aR ?_ iW.out | refine aR ?_ kD.out) | exact HB.out)) hb);have jH:=aj.mk (gW);have qO:=aj.mk ((by rw [hg];exact (bL (by repeat (first | (with_reducible first | exact HB.out | apply ak | apply ah | apply au | refine aR ?_ iW.out | refine aR ?_ kD.out) | exact HB.out))):w.heap.size ≤ fF));have Nh:=aj.mk ((by rw [hg];exact (bL (by repeat (first | (with_reducible first | exact HB.out | apply ak | apply ah | apply au | refine aR ?_ iW.out | refine aR ?_ kD.out) | exact HB.out))):w.heap.size ≤ fF));have Ni:=aj.mk ((by rw [hg];exact Nat.ne_of_lt (jF (g:=fM) (o:=.cells #[.int .i64 eO,.int .i64 iP,.int .i64 jO] 157 (0,0)) (by (with_reducible repeat (first | refine aG ?_ _ | refine aI ?_ | refine aA ?_ _));exact dJ.out)):fM ≠ fF));have n7_:=aj.mk ((by rw [hg];exact Nat.ne_of_gt (jF (g:=fM) (o:=.cells #[.int .i64 eO,.int .i64 iP,.int .i64 jO] 157 (0,0)) (by (with_reducible repeat (first | refine aG ?_ _ | refine aI ?_ | refine aA ?_ _));exact dJ.out)):fF ≠ fM));have n8_:=aj.mk ((by rw [hg];exact Nat.ne_of_lt (jF (g:=dD) (o:=.cells #[.string (⟨#[]⟩:ByteArray),.string (⟨#[]⟩:ByteArray),.slice none 0 0] 148 (0,0)) (by (with_reducible repeat (first | refine aG ?_ _ | refine aI ?_ | refine aA ?_ _));exact dA.out)):dD ≠ fF));have n9_:=aj.mk ((by rw [hg];exact Nat.ne_of_gt (jF (g:=dD) (o:=.cells #[.string (⟨#[]⟩:ByteArray),.string (⟨#[]⟩:ByteArray),.slice none 0 0] 148 (0,0)) (by (with_reducible repeat (first | refine aG ?_ _ | refine aI ?_ | refine aA ?_ _));exact dA.out)):fF ≠ dD));clear dJ;clear dA;clear HB;have dJ:=dZ;have dA:=gZ;have HB:=je;have dV:=jH;have aae:=qO;have nP:=Nh;have jT:=Ni;have nQ:=n7_;have gU:=n8_;have fq:=n9_;clear dZ gZ je jH qO Nh Ni n7_ n8_ n9_;clear hb gW hg;have agJ:=fG.out;have agK:=jS.out;have agL:=jT.out;have agM:=nQ.out;have acE:W9.cell? ⟨fM,0,none⟩ = some (.int .i64 eO):=(aM dJ.out 0).trans rfl;have acF:W9.cell? ⟨fM,1,none⟩ = some (.int .i64 iP):=(aM dJ.out 1).trans rfl;have acG:W9.cell? ⟨fM,2,none⟩ = some (.int .i64 jO):=(aM dJ.out 2).trans rfl;have acH:=ay dJ.out 0;have acI:=ay dJ.out 1;have acJ:=ay dJ.out 2;have agN:=gU.out;have agO:=fq.out;have acK:W9.cell? ⟨dD,0,none⟩ = some (.string (⟨#[]⟩:ByteArray)):=(aM dA.out 0).trans rfl;have acL:W9.cell? ⟨dD,1,none⟩ = some (.string (⟨#[]⟩:ByteArray)):=(aM dA.out 1).trans rfl;have acM:W9.cell? ⟨dD,2,none⟩ = some (.slice none 0 0):=(aM dA.out 2).trans rfl;have acN:=ay dA.out 0;have acO:=ay dA.out 1;have acP:=ay dA.out 2))
    refine bodyPost_ret (jN rfl _ _ dD 148 #[.string (⟨#[]⟩:ByteArray),.string (⟨#[]⟩:ByteArray),.slice none 0 0] (0,0) _ rfl (by (with_reducible repeat (first | refine aG ?_ _ | refine aI ?_ | refine aA ?_ _));refine bV (cs:=#[.string (⟨#[]⟩:ByteArray),.string (⟨#[]⟩:ByteArray),.slice none 0 0]) ?_ 2 _ rfl;(with_reducible repeat (first | refine aG ?_ _ | refine aI ?_ | refine aA ?_ _));refine bV (cs:=#[.string (⟨#[]⟩:ByteArray),.string (⟨#[]⟩:ByteArray),.slice none 0 0]) ?_ 1 _ rfl;(with_reducible repeat (first | refine aG ?_ _ | refine aI ?_ | refine aA ?_ _));refine bV (cs:=#[.string (⟨#[]⟩:ByteArray),.string (⟨#[]⟩:ByteArray),.slice none 0 0]) ?_ 0 _ rfl;(with_reducible repeat (first | refine aG ?_ _ | refine aI ?_ | refine aA ?_ _));exact dA.out) Try.underlying148 rfl (by kernel_rfl)) rfl ?_
    exact ⟨_,by first | rfl | (simp [aJ,aK] <;> rfl) | (simp [*,aJ,aK] <;> rfl),by first | exact Kd.jD _ _ _ _ _ | exact Kd.kV _ _ _ _ _ | exact Kd.kW _ _ _ _ _ | exact Kd.kT _ _ _ _ _ | exact Kd.kU _ _ _ _ _,by repeat (first | (with_reducible first | exact HB.out | apply ak | apply ah | apply au | refine aR ?_ iW.out | refine aR ?_ kD.out | refine aR ?_ nP.out) | exact HB.out)⟩
def dL.l0 : Nat → ByteArray → Option (Bool)
  | 0,_=>none
  | k + 1,x0=>if x0.toList = ([]:List UInt8) then (some true) else (if 0 < (x0.size:Int) then (if (wrap64 (1 + (wrap64 (bt x0 0)))) > (x0.size:Int) then (some false) else (if 0 ≤ (wrap64 (1 + (wrap64 (bt x0 0)))) then (if (wrap64 (1 + (wrap64 (bt x0 0)))) ≤ (x0.size:Int) then (dL.l0 k (x0.extract ((wrap64 (1 + (wrap64 (bt x0 0)))):Int).toNat x0.size)) else (none)) else (none))) else (none))
def dL.f (k:Nat) (a0:ByteArray):Option (Bool):=if a0.toList = ([]:List UInt8) then (some false) else (dL.l0 k a0)
set_option maxHeartbeats 8000000 in
set_option maxRecDepth 100000 in
theorem dL.calls (k:Nat) (a0:ByteArray) (r:Bool) (w:World) (h:dL.f k a0 = some r) :
    Calls Try.prog 122 #[.string a0] w fun e w'=>e = .returned (.bool r) ∧ aY w w':=by
  have H:(if a0.toList = ([]:List UInt8) then (some false) else (dL.l0 k a0)) = some r:=h
  clear h
  by_cases c2:a0.toList = ([]:List UInt8)
  · rw [if_pos c2] at H
    have wF:(a0.toList == ([]:List UInt8)) = true:=beq_iff_eq.mpr c2
    have JO:(a0.toList != ([]:List UInt8)) = false:=bne_eq_false_iff_eq.mpr c2
    have aam:a0.toList.isEmpty = true:=List.isEmpty_iff.mpr c2
    clear c2
    obtain rfl:=Option.some.inj H
    go_enter Try.func122,Try.ntmps122
    go_wp2
    go_ret
    exact ⟨by first | rfl | (simp;done) | (simp [*];done),by repeat (first | exact aY.refl _ | apply aY.step)⟩
  · rw [if_neg c2] at H
    have wF:(a0.toList == ([]:List UInt8)) = false:=beq_eq_false_iff_ne.mpr c2
    have JO:(a0.toList != ([]:List UInt8)) = true:=bne_iff_ne.mpr c2
    have aam:a0.toList.isEmpty = false:=Bool.eq_false_iff.mpr (fun h_=>c2 (List.isEmpty_iff.mp h_))
    have H':=aj.mk H
    clear H
    go_enter Try.func122,Try.ntmps122
    go_wp2
    go_loopg [0] k (fun kq v0 w'=>∃ (bM:ByteArray),v0 = .string bM ∧ aj (dL.l0 kq bM = some r) ∧ aj (kq ≤ k) ∧ aY w w')
    case atStart=>exact ⟨(a0),(by first | rfl | (simp;done) | (simp [*];done) | (simp [B.aV];done) | (simp [B.aW];done)),H',⟨Nat.le_refl _⟩,by repeat (first | exact aY.refl _ | apply aY.step)⟩
    case round =>
      clear H'
      try clear c1
      try clear c2
      try clear wF
      try clear JO
      try clear aam
      try clear p2
      obtain ⟨bM,rfl,HA,uz,⟨m1,rfl⟩⟩:=hrel
      cases gk with
      | zero=>exact absurd HA.out (by simp [dL.l0])
      | succ k1 =>
        have H:=HA.out
        clear HA
        simp only [dL.l0] at H
        by_cases c3:bM.toList = ([]:List UInt8)
        · rw [if_pos c3] at H
          have qM:(bM.toList == ([]:List UInt8)) = true:=beq_iff_eq.mpr c3
          have Ct:(bM.toList != ([]:List UInt8)) = false:=bne_eq_false_iff_eq.mpr c3
          have M0:bM.toList.isEmpty = true:=List.isEmpty_iff.mpr c3
          clear c3
          obtain rfl:=Option.some.inj H
          go_wp2
          go_ret
          exact ⟨by first | rfl | (simp;done) | (simp [*];done),by repeat (first | exact aY.refl _ | apply aY.step)⟩
        · rw [if_neg c3] at H
          have qM:(bM.toList == ([]:List UInt8)) = false:=beq_eq_false_iff_ne.mpr c3
          have Ct:(bM.toList != ([]:List UInt8)) = true:=bne_iff_ne.mpr c3
          have M0:bM.toList.isEmpty = false:=Bool.eq_false_iff.mpr (fun h_=>c3 (List.isEmpty_iff.mp h_))
          by_cases c4:0 < (bM.size:Int)
          · rw [if_pos c4] at H
            have qL:decide (0 < (bM.size:Int)) = true:=decide_eq_true c4
            have JQ:decide (0 < bM.size) = true:=decide_eq_true (by omega)
            clear c4
            by_cases c6:(wrap64 (1 + (wrap64 (bt bM 0)))) > (bM.size:Int)
            · rw [if_pos c6] at H
              have zN:decide ((bM.size:Int) < (wrap64 (1 + (wrap64 (bt bM 0))))) = true:=decide_eq_true c6
              (try (have MV:decide ((bM.size:Int) < ((1 + ((bt bM 0))))) = true:=by have h_:decide ((bM.size:Int) < (wrap64 (1 + (wrap64 (bt bM 0))))) = true:=decide_eq_true c6;rw [B.dQ (by omega) (by omega)] at h_;rw [B.dQ (by omega) (by omega)] at h_;exact h_))
              clear c6
              obtain rfl:=Option.some.inj H
              have p5:0 ≤ (0:Int):=(by omega)
              have q5:0 < bM.size:=(by have:(0:Int) < (bM.size:Int):=of_decide_eq_true (by first | (with_reducible assumption) | assumption);omega)
              have hx5:∀ h:0 < bM.size,((bM[0]'h).toNat:Int) = bt bM 0:=nO bM 0
              clear p5
              have qi5:(0 < (bM.size:Int)) = True:=eq_true (of_decide_eq_true (by first | (with_reducible assumption) | assumption))
              replace q5:=eq_true q5
              go_wp2
              go_ret
              exact ⟨by first | rfl | (simp;done) | (simp [*];done),by repeat (first | exact aY.refl _ | apply aY.step)⟩
            · rw [if_neg c6] at H
              have zN:decide ((bM.size:Int) < (wrap64 (1 + (wrap64 (bt bM 0))))) = false:=decide_eq_false c6
              (try (have MV:decide ((bM.size:Int) < ((1 + ((bt bM 0))))) = false:=by have h_:decide ((bM.size:Int) < (wrap64 (1 + (wrap64 (bt bM 0))))) = false:=decide_eq_false c6;rw [B.dQ (by omega) (by omega)] at h_;rw [B.dQ (by omega) (by omega)] at h_;exact h_))
              clear c6
              obtain ⟨Qt,J5⟩:∃ j_:Int,(wrap64 (1 + (wrap64 (bt bM 0)))) = j_:=⟨_,rfl⟩
              replace H:(if 0 ≤ (Qt) then (if (Qt) ≤ (bM.size:Int) then (dL.l0 k1 (bM.extract ((Qt):Int).toNat bM.size)) else (none)) else (none)) = some r:=by first | (rw [J5] at H;exact H) | (simp only [J5] at H ⊢;exact H)
              (try rw [J5] at zN)
              (try rw [J5] at MV)
              have agP:(IntKind.i64.wrap (1 + (wrap64 (bt bM 0)))) = Qt:=(gQ _).trans J5
              by_cases c8:0 ≤ (Qt)
              · rw [if_pos c8] at H
                have rW:=eq_true c8
                have rX:decide (0 ≤ (Qt)) = true:=decide_eq_true c8
                clear c8
                by_cases c9:(Qt) ≤ (bM.size:Int)
                · rw [if_pos c9] at H
                  have uD:=eq_true c9
                  have EM:decide ((Qt) ≤ (bM.size:Int)) = true:=decide_eq_true c9
                  clear c9
                  have H':=aj.mk H
                  clear H
                  have p5:0 ≤ (0:Int):=(by omega)
                  have q5:0 < bM.size:=(by have:(0:Int) < (bM.size:Int):=of_decide_eq_true (by first | (with_reducible assumption) | assumption);omega)
                  have hx5:∀ h:0 < bM.size,((bM[0]'h).toNat:Int) = bt bM 0:=nO bM 0
                  clear p5
                  have qi5:(0 < (bM.size:Int)) = True:=eq_true (of_decide_eq_true (by first | (with_reducible assumption) | assumption))
                  replace q5:=eq_true q5
                  go_wp2
                  go_roundg k1
                  case measure=>have:=uz.out;omega
                  case rel=>exact ⟨(bM.extract ((Qt):Int).toNat bM.size),(by first | rfl | (simp;done) | (simp only [← J5] <;> (first | rfl | simp)) | (simp [*];done)),H',⟨by have:=uz.out;omega⟩,by repeat (first | exact aY.refl _ | apply aY.step)⟩
                · rw [if_neg c9] at H
                  exact absurd H (by simp)
              · rw [if_neg c8] at H
                exact absurd H (by simp)
          · rw [if_neg c4] at H
            exact absurd H (by simp)
def aD.y7 (k:Int):Option (Int × Int × Int) :=
  if k = 1 then some (4,0,0) else if k = 28 then some (16,0,0) else if k = 2 then some (0,1,0) else if k = 5 then some (0,1,0) else if k = 12 then some (0,1,0) else if k = 6 then some (0,2,20) else if k = 15 then some (2,1,0) else if k = 33 then some (6,1,0) else none
theorem aD.wV (k:Int):Mi.sO k bY.tab = (aD.y7 k).map fun s=>bY.agg s.1 s.2.1 s.2.2:=by
  unfold aD.y7 bY.tab
  simp only [Mi.sO]
  repeat' split
  all_goals rfl
def aD.fin (k:Nat) (kind:Int) (d:ByteArray) (is:Bool):Option (ByteArray × Int) :=
  if is = true then (if kind = 16 then ((dL.f k d).bind fun b=>if b = true then (if (d.size:Int) > 65535 then some (⟨#[]⟩,4) else some (d,0)) else some (⟨#[]⟩,4)) else (if (d.size:Int) > 65535 then some (⟨#[]⟩,4) else some (d,0))) else some (⟨#[]⟩,4)
def aD.g (k:Nat) (a0:ByteArray) (a1 a2 a3:Int) (s:Int × Int × Int):Option (ByteArray × Int) :=
  (bW.f k a0 a1 (wrap64 (a1 + a2)) s.1 s.2.1 s.2.2).bind fun p=>if p.1.size + (strings_Join.cat p.2.2.1).size + p.2.1.size ≤ 140737488355328 then (if p.2.2.1.length ≤ 1000000 then aD.fin k a3 (p.1 ++ strings_Join.cat p.2.2.1 ++ p.2.1) p.2.2.2 else none) else none
def aD.f (k:Nat) (a0:ByteArray) (a1 a2 a3:Int):Option (ByteArray × Int) :=
  (eU.f a0 a1 a2).bind fun t=>if t.2 = true then (match aD.y7 a3 with | some s=>aD.g k a0 a1 a2 a3 s | none=>aD.fin k a3 t.1 true) else some (⟨#[]⟩,2)
theorem aD.AQ {k:Nat} {kind:Int} {d:ByteArray} {r:ByteArray × Int} (h:aD.fin k kind d true = some r) (hk:kind = 16) :
    ∃ b,dL.f k d = some b ∧ (if b = true then (if (d.size:Int) > 65535 then some ((⟨#[]⟩:ByteArray),(4:Int)) else some (d,0)) else some (⟨#[]⟩,4)) = some r:=by
  unfold aD.fin at h
  rw [if_pos rfl,if_pos hk] at h
  exact zbm h
theorem aD.qB {k:Nat} {kind:Int} {d:ByteArray} {r:ByteArray × Int} (h:aD.fin k kind d true = some r) (hk:¬ kind = 16) :
    (if (d.size:Int) > 65535 then some ((⟨#[]⟩:ByteArray),(4:Int)) else some (d,0)) = some r:=by
  unfold aD.fin at h
  rw [if_pos rfl,if_neg hk] at h
  exact h
theorem aD.VE {k:Nat} {kind:Int} {d:ByteArray} {r:ByteArray × Int} (h:aD.fin k kind d false = some r):r = (⟨#[]⟩,4):=by
  unfold aD.fin at h
  rw [if_neg Bool.false_ne_true] at h
  exact (Option.some.inj h).symm
theorem aD.slc {v:Value} {l:List ByteArray} {base:Nat} {ok:Nat → Prop} {w:World} (hr:Kd.R Kd.string 9 w base ok v l):∃ A n c,v = .slice A n c:=by
  rcases (Kd.um hr).2 with ⟨rfl,_⟩ | ⟨g,cap,cur,rfl,_⟩
  · exact ⟨_,_,_,rfl⟩
  · exact ⟨_,_,_,rfl⟩
theorem aD.lW {b:Bool} {d r1:ByteArray} {r2:Int} (h:(if b = true then (if (d.size:Int) > 65535 then some ((⟨#[]⟩:ByteArray),(4:Int)) else some (d,0)) else some (⟨#[]⟩,4)) = some (r1,r2)) :
    (b = true → 65535 < (d.size:Int) → r1 = ⟨#[]⟩ ∧ r2 = 4) ∧ (b = true → (d.size:Int) ≤ 65535 → r1 = d ∧ r2 = 0) ∧ (b = false → r1 = ⟨#[]⟩ ∧ r2 = 4):=by
  refine ⟨fun h1 h2=>?_,fun h1 h2=>?_,fun h1=>?_⟩
  · rw [if_pos h1,if_pos h2] at h;cases h;exact ⟨rfl,rfl⟩
  · rw [if_pos h1,if_neg (by omega)] at h;cases h;exact ⟨rfl,rfl⟩
  · rw [h1,if_neg Bool.false_ne_true] at h;cases h;exact ⟨rfl,rfl⟩
theorem aD.qC {d r1:ByteArray} {r2:Int} (h:(if (d.size:Int) > 65535 then some ((⟨#[]⟩:ByteArray),(4:Int)) else some (d,0)) = some (r1,r2)) :
    (65535 < (d.size:Int) → r1 = ⟨#[]⟩ ∧ r2 = 4) ∧ ((d.size:Int) ≤ 65535 → r1 = d ∧ r2 = 0):=by
  refine ⟨fun h2=>?_,fun h2=>?_⟩
  · rw [if_pos h2] at h;cases h;exact ⟨rfl,rfl⟩
  · rw [if_neg (by omega)] at h;cases h;exact ⟨rfl,rfl⟩
set_option maxHeartbeats 8000000 in
set_option maxRecDepth 100000 in
theorem aD.calls (k:Nat) (a0:ByteArray) (a1 a2 a3:Int) (r1:ByteArray) (r2:Int) (w:World) (h:aD.f k a0 a1 a2 a3 = some (r1,r2)) :
    Calls Try.prog 111 #[.string a0,.int .i64 a1,.int .i64 a2,.int .i64 a3] w fun e w'=>e = .returned (.tuple #[.string r1,.int .i64 r2]) ∧ Below w.heap.size w w':=by
  have HB:=aj.mk (Below.refl w.heap.size w)
  obtain ⟨⟨t1,t2⟩,ht,h'⟩:=zbm h
  clear h
  have HT:=aj.mk ht
  clear ht
  cases t2 with
  | false =>
    rw [if_neg Bool.false_ne_true] at h'
    obtain ⟨rfl,rfl⟩:=Prod.mk.injEq .. ▸ Option.some.inj h'
    go_enter Try.func111,Try.ntmps111
    go_wp2_with (first | (go_at_call 97;refine (eU.calls _ _ _ _ _ _ HT.out).mono ?_;rintro e w1 ⟨rfl,hd1⟩))
    go_ret2
    exact ⟨rfl,hd1.below⟩
  | true =>
    replace h':(match aD.y7 a3 with | some s=>aD.g k a0 a1 a2 a3 s | none=>aD.fin k a3 t1 true) = some (r1,r2):=h'
    cases hsh:aD.y7 a3 with
    | none =>
      rw [hsh] at h'
      have HH:=aj.mk (show aD.fin k a3 t1 true = some (r1,r2) from h')
      clear h'
      have hfn:Mi.sO a3 bY.tab = none:=by rw [aD.wV,hsh];rfl
      go_enter Try.func111,Try.ntmps111
      go_wp2_with (first
        | (go_at_call 97;refine (eU.calls _ _ _ _ _ _ HT.out).mono ?_;rintro e w1 ⟨rfl,hd1⟩)
        | (go_at_call 120;refine (bY.calls _).mono ?_;rintro e w2 ⟨g,rfl,hin⟩;have hl:=Mi.look (P:=Try.prog) hin.at_ 159 3 157 Try.underlying159 Try.underlying3 _ (Try.zeroValue157 w2) a3;rw [hfn] at hl;have hB2:=aj.mk ((HB.out.trans hd1.below).trans (hin.NJ.mono hd1.below.size));clear hin)
        | (go_at_call 122;obtain ⟨b,hb,hx⟩:=aD.AQ HH.out (by assumption);have hx:=aj.mk hx;refine (dL.calls _ _ _ _ hb).mono ?_;rintro e w3 ⟨rfl,hd3⟩))
      all_goals
        go_ret2
        first
          | (have hq:=(aD.lW hx.out).1 (by assumption) (by assumption);obtain ⟨rfl,rfl⟩:=hq;exact ⟨rfl,(ak hB2.out _).trans (hd3.below.mono (by have:=hB2.out.size;simp only [World.alloc,Array.size_push];omega))⟩)
          | (have hq:=(aD.lW hx.out).2.1 (by assumption) (by assumption);obtain ⟨rfl,rfl⟩:=hq;exact ⟨rfl,(ak hB2.out _).trans (hd3.below.mono (by have:=hB2.out.size;simp only [World.alloc,Array.size_push];omega))⟩)
          | (have hq:=(aD.lW hx.out).2.2 (by first | assumption | simpa using ‹¬ b = true›);obtain ⟨rfl,rfl⟩:=hq;exact ⟨rfl,(ak hB2.out _).trans (hd3.below.mono (by have:=hB2.out.size;simp only [World.alloc,Array.size_push];omega))⟩)
          | (have hq:=(aD.qC (aD.qB HH.out (by assumption))).1 (by assumption);obtain ⟨rfl,rfl⟩:=hq;exact ⟨rfl,ak hB2.out _⟩)
          | (have hq:=(aD.qC (aD.qB HH.out (by assumption))).2 (by assumption);obtain ⟨rfl,rfl⟩:=hq;exact ⟨rfl,ak hB2.out _⟩)
    | some s =>
      obtain ⟨s0,s1,s2⟩:=s
      rw [hsh] at h'
      replace h':aD.g k a0 a1 a2 a3 (s0,s1,s2) = some (r1,r2):=h'
      unfold aD.g at h'
      obtain ⟨⟨p1,p2,p3,p4⟩,hp,h'⟩:=zbm h'
      replace h':(if p1.size + (strings_Join.cat p3).size + p2.size ≤ 140737488355328 then (if p3.length ≤ 1000000 then aD.fin k a3 (p1 ++ strings_Join.cat p3 ++ p2) p4 else none) else none) = some (r1,r2):=h'
      have hp:=aj.mk (show bW.f k a0 a1 (wrap64 (a1 + a2)) s0 s1 s2 = some (p1,p2,p3,p4) from hp)
      by_cases z1:p1.size + (strings_Join.cat p3).size + p2.size ≤ 140737488355328
      · rw [if_pos z1] at h'
        by_cases z2:p3.length ≤ 1000000
        · rw [if_pos z2] at h'
          have HH:=aj.mk h'
          have z1:=aj.mk z1
          have z2:=aj.mk z2
          clear h'
          have hfn:Mi.sO a3 bY.tab = some (bY.agg s0 s1 s2):=by rw [aD.wV,hsh];rfl
          cases p4
          all_goals
            go_enter Try.func111,Try.ntmps111
            go_wp2_with (first
              | (go_at_call 97;refine (eU.calls _ _ _ _ _ _ HT.out).mono ?_;rintro e w1 ⟨rfl,hd1⟩)
              | (go_at_call 120;refine (bY.calls _).mono ?_;rintro e w2 ⟨g,rfl,hin⟩;have hl:=Mi.look (P:=Try.prog) hin.at_ 159 3 157 Try.underlying159 Try.underlying3 _ (Try.zeroValue157 w2) a3;rw [hfn] at hl;replace hl:=show _ = Result.ok (Value.tuple #[.agg #[.int .i64 s0,.int .i64 s1,.int .i64 s2],.bool true]) w2 from hl;have hB2:=aj.mk ((HB.out.trans hd1.below).trans (hin.NJ.mono hd1.below.size));clear hin)
              | (go_at_call 121;refine (bW.calls _ _ _ _ _ _ _ _ _ _ _ _ hp.out).mono ?_;rintro e w3 ⟨v,rfl,hv,hb3⟩;obtain ⟨vA,vn,vc,rfl⟩:=aD.slc hv;have hB3:=aj.mk ((ak hB2.out _).trans (hb3.mono (by have:=hB2.out.size;simp only [World.alloc,Array.size_push];omega)));have hv:=aj.mk hv;clear hb3)
              | (go_at_call 113;refine (iI.calls _ _ _ p3 _ _ _ (Kd.eY hv.out _) z2.out z1.out).mono ?_;rintro e w4 ⟨rfl,hb4⟩;have hB4:=aj.mk ((ak hB3.out _).trans (hb4.mono (by have:=hB3.out.size;simp only [World.alloc,Array.size_push];omega)));clear hb4)
              | (go_at_call 122;obtain ⟨b,hb,hx⟩:=aD.AQ HH.out (by assumption);have hx:=aj.mk hx;refine (dL.calls _ _ _ _ hb).mono ?_;rintro e w5 ⟨rfl,hd3⟩))
            all_goals
              go_ret2
              first
                | (have hq:=aD.VE HH.out;cases hq;exact ⟨rfl,hB4.out⟩)
                | (have hq:=(aD.lW hx.out).1 (by first | assumption | (simp only [ByteArray.size_append,Int.natCast_add];assumption)) (by first | assumption | (simp only [ByteArray.size_append,Int.natCast_add];assumption));obtain ⟨rfl,rfl⟩:=hq;exact ⟨rfl,hB4.out.trans (hd3.below.mono hB4.out.size)⟩)
                | (have hq:=(aD.lW hx.out).2.1 (by first | assumption | (simp only [ByteArray.size_append,Int.natCast_add];assumption)) (by first | assumption | (simp only [ByteArray.size_append,Int.natCast_add];assumption));obtain ⟨rfl,rfl⟩:=hq;exact ⟨rfl,hB4.out.trans (hd3.below.mono hB4.out.size)⟩)
                | (have hq:=(aD.lW hx.out).2.2 (by first | assumption | simpa using ‹¬ b = true›);obtain ⟨rfl,rfl⟩:=hq;exact ⟨rfl,hB4.out.trans (hd3.below.mono hB4.out.size)⟩)
                | (have hq:=(aD.qC (aD.qB HH.out (by first | assumption | (simp only [ByteArray.size_append,Int.natCast_add];assumption)))).1 (by first | assumption | (simp only [ByteArray.size_append,Int.natCast_add];assumption));obtain ⟨rfl,rfl⟩:=hq;exact ⟨rfl,hB4.out⟩)
                | (have hq:=(aD.qC (aD.qB HH.out (by first | assumption | (simp only [ByteArray.size_append,Int.natCast_add];assumption)))).2 (by first | assumption | (simp only [ByteArray.size_append,Int.natCast_add];assumption));obtain ⟨rfl,rfl⟩:=hq;exact ⟨rfl,hB4.out⟩)
        · rw [if_neg z2] at h';cases h'
      · rw [if_neg z1] at h';cases h'
def iR.f (k:Nat) (a0:Int) (a1:ByteArray):Option (Bool):=if (a1.size:Int) > 65535 then (some false) else ((aD.f k a1 0 (a1.size:Int) a0).bind fun EW=>(if EW.2 = 0 then (some (EW.1.toList == a1.toList)) else (some false)))
set_option maxHeartbeats 8000000 in
set_option maxRecDepth 100000 in
theorem iR.calls (k:Nat) (a0:Int) (a1:ByteArray) (r:Bool) (w:World) (h:iR.f k a0 a1 = some r) :
    Calls Try.prog 94 #[.int .i64 a0,.string a1] w fun e w'=>e = .returned (.bool r) ∧ Below w.heap.size w w':=by
  have HB:=aj.mk (Below.refl w.heap.size w)
  have H:(if (a1.size:Int) > 65535 then (some false) else ((aD.f k a1 0 (a1.size:Int) a0).bind fun EW=>(if EW.2 = 0 then (some (EW.1.toList == a1.toList)) else (some false)))) = some r:=h
  clear h
  by_cases c3:(a1.size:Int) > 65535
  · rw [if_pos c3] at H
    have qM:decide (65535 < (a1.size:Int)) = true:=decide_eq_true c3
    have Ct:decide (65535 < a1.size) = true:=decide_eq_true (by omega)
    clear c3
    obtain rfl:=Option.some.inj H
    go_enter Try.func94,Try.ntmps94
    go_wp2
    go_ret
    exact ⟨by first | rfl | (simp [aJ,aK] <;> rfl) | (simp [*,aJ,aK] <;> rfl),by repeat (first | (with_reducible first | exact HB.out | apply ak | apply ah | apply au) | exact HB.out)⟩
  · rw [if_neg c3] at H
    have qM:decide (65535 < (a1.size:Int)) = false:=decide_eq_false c3
    have Ct:decide (65535 < a1.size) = false:=decide_eq_false (by omega)
    clear c3
    replace H:=zbm H
    obtain ⟨⟨t131,EX⟩,EN,H⟩:=H
    replace H:(if EX = 0 then (some (t131.toList == a1.toList)) else (some false)) = some r:=H
    have A4:=aj.mk EN
    clear EN
    by_cases c5:EX = 0
    · rw [if_pos c5] at H
      have pK:(EX == 0) = true:=beq_iff_eq.mpr c5
      have vE:(EX != 0) = false:=bne_eq_false_iff_eq.mpr c5
      clear c5
      obtain rfl:=Option.some.inj H
      go_enter Try.func94,Try.ntmps94
      go_wp2_with (first | ((with_reducible refine aQ (f:=111) rfl ?_);refine bQ (some 15) rfl rfl Try.func111 (by kernel_rfl) rfl #[.string a1,.int .i64 0,.int .i64 (a1.size:Int),.int .i64 a0] rfl (by (try simp only [List.map_toArray,List.map_cons,List.map_nil]);first | done | rfl | (simp only [List.length_drop,List.length_take];rfl) | (simp only [ByteArray.size_append,Int.natCast_add];rfl) | (rw [B.dQ] <;> first | rfl | omega | (simp only [decide_eq_false_iff_not,decide_eq_true_eq,Int.not_lt,Nat.not_lt,gt_iff_lt] at * <;> omega))) ?_;(with_reducible refine (aD.calls k a1 0 (a1.size:Int) a0 t131 EX _ A4.out).mono ?_);rintro e w6 ⟨rfl,hb⟩;refine ⟨_,rfl,?_⟩;have dZ:=aj.mk (bE (by repeat (first | (with_reducible first | exact HB.out | apply ak | apply ah | apply au) | exact HB.out)) hb);clear HB;have HB:=dZ;clear dZ;(try clear hb);(try clear hb2);(try clear hk);(try clear hi)))
      go_ret
      exact ⟨by first | rfl | (simp [aJ,aK] <;> rfl) | (simp [*,aJ,aK] <;> rfl),by repeat (first | (with_reducible first | exact HB.out | apply ak | apply ah | apply au) | exact HB.out)⟩
    · rw [if_neg c5] at H
      have pK:(EX == 0) = false:=beq_eq_false_iff_ne.mpr c5
      have vE:(EX != 0) = true:=bne_iff_ne.mpr c5
      obtain rfl:=Option.some.inj H
      go_enter Try.func94,Try.ntmps94
      go_wp2_with (first | ((with_reducible refine aQ (f:=111) rfl ?_);refine bQ (some 15) rfl rfl Try.func111 (by kernel_rfl) rfl #[.string a1,.int .i64 0,.int .i64 (a1.size:Int),.int .i64 a0] rfl (by (try simp only [List.map_toArray,List.map_cons,List.map_nil]);first | done | rfl | (simp only [List.length_drop,List.length_take];rfl) | (simp only [ByteArray.size_append,Int.natCast_add];rfl) | (rw [B.dQ] <;> first | rfl | omega | (simp only [decide_eq_false_iff_not,decide_eq_true_eq,Int.not_lt,Nat.not_lt,gt_iff_lt] at * <;> omega))) ?_;(with_reducible refine (aD.calls k a1 0 (a1.size:Int) a0 t131 EX _ A4.out).mono ?_);rintro e w7 ⟨rfl,hb⟩;refine ⟨_,rfl,?_⟩;have dZ:=aj.mk (bE (by repeat (first | (with_reducible first | exact HB.out | apply ak | apply ah | apply au) | exact HB.out)) hb);clear HB;have HB:=dZ;clear dZ;(try clear hb);(try clear hb2);(try clear hk);(try clear hi)))
      go_ret
      exact ⟨by first | rfl | (simp [aJ,aK] <;> rfl) | (simp [*,aJ,aK] <;> rfl),by repeat (first | (with_reducible first | exact HB.out | apply ak | apply ah | apply au) | exact HB.out)⟩
def dn.f (k:Nat) (a0:Int) (a1:ByteArray):Option (ByteArray × ByteArray × List ByteArray × Bool) :=
  (iR.f k a0 a1).bind fun c=>if c = true then (match aD.y7 a0 with | some s=>bW.f k a1 0 (a1.size:Int) s.1 s.2.1 s.2.2 | none=>some (a1,⟨#[]⟩,[],true)) else some (⟨#[]⟩,⟨#[]⟩,[],false)
theorem dn.three {w w1:World} {g B:Nat} {a b c a' b' c':Value} (bk:w1.heap[g]? = some (.cells #[a',b',c'] 148 (0,0))) :
    (((w1.setCell ⟨g,0,none⟩ a).setCell ⟨g,1,none⟩ b).setCell ⟨g,2,none⟩ c).heap[g]? = some (.cells #[a,b,c] 148 (0,0)) ∧
    (Below B w w1 → B ≤ g → Below B w (((w1.setCell ⟨g,0,none⟩ a).setCell ⟨g,1,none⟩ b).setCell ⟨g,2,none⟩ c)) ∧
    (∀ v l base ok,Kd.R Kd.string 9 w1 base ok v l → Kd.R Kd.string 9 (((w1.setCell ⟨g,0,none⟩ a).setCell ⟨g,1,none⟩ b).setCell ⟨g,2,none⟩ c) base ok v l):=by
  have b1:=bV bk 0 a (cs':=#[a,b',c']) rfl
  have b2:=bV b1 1 b (cs':=#[a,b,c']) rfl
  have b3:=bV b2 2 c (cs':=#[a,b,c]) rfl
  refine ⟨b3,fun h hg=>((h.setCell hg _).setCell hg _).setCell hg _,fun v l base ok h=>?_⟩
  exact Kd.ME (Kd.ME (Kd.ME h bk (by decide) 0 a) b1 (by decide) 1 b) b2 (by decide) 2 c
theorem dn.facts {w1:World} {g:Nat} {a b c:Value} (bk:w1.heap[g]? = some (.cells #[a,b,c] 148 (0,0))) :
    (w1.cell? ⟨g,0,none⟩ = some a ∧ w1.cell? ⟨g,1,none⟩ = some b ∧ w1.cell? ⟨g,2,none⟩ = some c) ∧ w1.frozen? ⟨g,0,none⟩ = false ∧ w1.frozen? ⟨g,1,none⟩ = false ∧ w1.frozen? ⟨g,2,none⟩ = false :=
  ⟨⟨aM bk 0,aM bk 1,aM bk 2⟩,ay bk 0,ay bk 1,ay bk 2⟩
set_option maxHeartbeats 8000000 in
set_option maxRecDepth 100000 in
theorem dn.calls (k:Nat) (a0:Int) (a1:ByteArray) (r1 r2:ByteArray) (r3:List ByteArray) (r4:Bool) (w:World) (h:dn.f k a0 a1 = some (r1,r2,r3,r4)) :
    Calls Try.prog 112 #[.int .i64 a0,.string a1] w fun e w'=>∃ v2_:Value,e = .returned (.tuple #[.agg #[.string r1,.string r2,v2_],.bool r4]) ∧ Kd.R Kd.string 9 w' w.heap.size (fun _=>True) v2_ r3 ∧ Below w.heap.size w w':=by
  obtain ⟨c,hc,h'⟩:=zbm h
  clear h
  have HC:=aj.mk hc
  clear hc
  cases c with
  | false =>
    rw [if_neg Bool.false_ne_true] at h'
    cases h'
    go_enter Try.func112,Try.ntmps112
    go_wp2_with (first
      | (go_at_call 94;refine (iR.calls _ _ _ _ _ HC.out).mono ?_;rintro e w1 ⟨rfl,hd1⟩;have bk:=dO (uf w _) hd1;obtain ⟨⟨k0,k1,k2⟩,f0,f1,f2⟩:=dn.facts bk;have bk:=aj.mk bk;have hB1:=aj.mk ((ak (Below.refl w.heap.size w) _).trans (hd1.mono (by simp only [World.alloc,Array.size_push];omega)));clear hd1))
    refine bodyPost_ret (jN rfl _ _ w.heap.size 148 #[.string ⟨#[]⟩,.string ⟨#[]⟩,.slice none 0 0] (0,0) _ rfl (dn.three (w:=w) (B:=0) bk.out).1 Try.underlying148 rfl (by kernel_rfl)) rfl ?_
    exact ⟨_,rfl,Kd.jD _ _ _ _ _,(dn.three bk.out).2.1 hB1.out (Nat.le_refl _)⟩
  | true =>
    replace h':(match aD.y7 a0 with | some s=>bW.f k a1 0 (a1.size:Int) s.1 s.2.1 s.2.2 | none=>some (a1,⟨#[]⟩,[],true)) = some (r1,r2,r3,r4):=h'
    cases hsh:aD.y7 a0 with
    | none =>
      rw [hsh] at h'
      cases h'
      have hfn:Mi.sO a0 bY.tab = none:=by rw [aD.wV,hsh];rfl
      go_enter Try.func112,Try.ntmps112
      go_wp2_with (first
        | (go_at_call 94;refine (iR.calls _ _ _ _ _ HC.out).mono ?_;rintro e w1 ⟨rfl,hd1⟩;have bk:=dO (uf w _) hd1;obtain ⟨⟨k0,k1,k2⟩,f0,f1,f2⟩:=dn.facts bk;have bk:=aj.mk bk;have hB1:=aj.mk ((ak (Below.refl w.heap.size w) _).trans (hd1.mono (by simp only [World.alloc,Array.size_push];omega)));clear hd1)
        | (go_at_call 120;refine (bY.calls _).mono ?_;rintro e w2 ⟨g,rfl,hin⟩;clear k0 k1 k2 f0 f1 f2;have hl:=Mi.look (P:=Try.prog) hin.at_ 159 3 157 Try.underlying159 Try.underlying3 _ (Try.zeroValue157 w2) a0;rw [hfn] at hl;replace hl:=show _ = Result.ok (Value.tuple #[.agg #[.int .i64 0,.int .i64 0,.int .i64 0],.bool false]) w2 from hl;have hB2:=aj.mk (hB1.out.trans (hin.NJ.mono hB1.out.size));have bk:=aj.mk (aA (dO bk.out hin.NJ) (.cells #[.int .i64 0,.int .i64 0,.int .i64 0] 157 (0,0)));obtain ⟨⟨k0,k1,k2⟩,f0,f1,f2⟩:=dn.facts bk.out;clear hin))
      refine bodyPost_ret (jN rfl _ _ w.heap.size 148 #[.string a1,.string ⟨#[]⟩,.slice none 0 0] (0,0) _ rfl (dn.three (w:=w) (B:=0) bk.out).1 Try.underlying148 rfl (by kernel_rfl)) rfl ?_
      exact ⟨_,rfl,Kd.jD _ _ _ _ _,(dn.three bk.out).2.1 (ak hB2.out _) (Nat.le_refl _)⟩
    | some s =>
      obtain ⟨s0,s1,s2⟩:=s
      rw [hsh] at h'
      have hp:=aj.mk (show bW.f k a1 0 (a1.size:Int) s0 s1 s2 = some (r1,r2,r3,r4) from h')
      clear h'
      have hfn:Mi.sO a0 bY.tab = some (bY.agg s0 s1 s2):=by rw [aD.wV,hsh];rfl
      go_enter Try.func112,Try.ntmps112
      go_wp2_with (first
        | (go_at_call 94;refine (iR.calls _ _ _ _ _ HC.out).mono ?_;rintro e w1 ⟨rfl,hd1⟩;have bk:=dO (uf w _) hd1;obtain ⟨⟨k0,k1,k2⟩,f0,f1,f2⟩:=dn.facts bk;have bk:=aj.mk bk;have hB1:=aj.mk ((ak (Below.refl w.heap.size w) _).trans (hd1.mono (by simp only [World.alloc,Array.size_push];omega)));clear hd1)
        | (go_at_call 120;refine (bY.calls _).mono ?_;rintro e w2 ⟨g,rfl,hin⟩;clear k0 k1 k2 f0 f1 f2;have hl:=Mi.look (P:=Try.prog) hin.at_ 159 3 157 Try.underlying159 Try.underlying3 _ (Try.zeroValue157 w2) a0;rw [hfn] at hl;replace hl:=show _ = Result.ok (Value.tuple #[.agg #[.int .i64 s0,.int .i64 s1,.int .i64 s2],.bool true]) w2 from hl;have hB2:=aj.mk (hB1.out.trans (hin.NJ.mono hB1.out.size));have bk:=aj.mk (aA (dO bk.out hin.NJ) (.cells #[.int .i64 s0,.int .i64 s1,.int .i64 s2] 157 (0,0)));obtain ⟨⟨k0,k1,k2⟩,f0,f1,f2⟩:=dn.facts bk.out;clear hin)
        | (go_at_call 121;refine (bW.calls _ _ _ _ _ _ _ _ _ _ _ _ hp.out).mono ?_;rintro e w3 ⟨v,rfl,hv,hb3⟩;clear k0 k1 k2 f0 f1 f2;obtain ⟨vA,vn,vc,rfl⟩:=aD.slc hv;have hB3:=aj.mk ((ak hB2.out _).trans (hb3.mono (by have:=hB2.out.size;simp only [World.alloc,Array.size_push];omega)));have hv:=aj.mk (Kd.ug hv (by have:=hB2.out.size;simp only [World.alloc,Array.size_push];omega:w.heap.size ≤ _));have bk:=aj.mk (dO bk.out hb3);obtain ⟨⟨k0,k1,k2⟩,f0,f1,f2⟩:=dn.facts bk.out;clear hb3))
      refine bodyPost_ret (jN rfl _ _ w.heap.size 148 #[.string r1,.string r2,.slice vA vn vc] (0,0) _ rfl (dn.three (w:=w) (B:=0) bk.out).1 Try.underlying148 rfl (by kernel_rfl)) rfl ?_
      exact ⟨_,rfl,(dn.three (w:=w) (B:=0) bk.out).2.2 _ _ _ _ hv.out,(dn.three bk.out).2.1 hB3.out (Nat.le_refl _)⟩
def eG.all (k:Nat):List ByteArray → Option (List ByteArray)
  | []=>some []
  | x :: l=>(mE.f k x).bind fun y=>(eG.all k l).bind fun m=>some (y :: m)
def eG.fin (p1 p2:ByteArray) (m:List ByteArray):Option ByteArray :=
  if p1.size + (strings_Join.cat m).size + p2.size ≤ 140737488355328 then (if m.length ≤ 1000000 then some (p1 ++ strings_Join.cat m ++ p2) else none) else none
def eG.f (k:Nat) (a0:Int) (a1:ByteArray):Option ByteArray :=
  (dn.f k a0 a1).bind fun p=>(eG.all k p.2.2.1).bind fun m=>eG.fin p.1 p.2.1 m
theorem eG.y8 {k:Nat}:∀ {l m:List ByteArray},eG.all k l = some m → m.length = l.length
  | [],m,h=>by cases h;rfl
  | x :: l,m,h=>by
    rw [eG.all] at h
    obtain ⟨y,_,h⟩:=zbm h
    obtain ⟨m',h',h⟩:=zbm h
    cases h
    rw [List.length_cons,List.length_cons,eG.y8 h']
set_option maxHeartbeats 8000000 in
set_option maxRecDepth 100000 in
theorem eG.calls (k:Nat) (a0:Int) (a1:ByteArray) (r:ByteArray) (w:World) (h:eG.f k a0 a1 = some r) :
    Calls Try.prog 95 #[.int .i64 a0,.string a1] w fun e w'=>e = .returned (.string r) ∧ Below w.heap.size w w':=by
  obtain ⟨⟨p1,p2,l,p4⟩,hp,h'⟩:=zbm h
  clear h
  obtain ⟨m,hm,h'⟩:=zbm h'
  replace hm:eG.all k l = some m:=hm
  replace h':eG.fin p1 p2 m = some r:=h'
  have hml:=eG.y8 hm
  have HP:=aj.mk hp
  have HM:=aj.mk hm
  have HF:=aj.mk h'
  have HL:=aj.mk hml
  clear hp hm h' hml
  go_enter Try.func95,Try.ntmps95
  go_wp2_with (first
    | (go_at_call 112;refine (dn.calls _ _ _ _ _ _ _ _ HP.out).mono ?_;rintro e w1 ⟨v,rfl,hv,hb1⟩;obtain ⟨vA,vn,vc,rfl⟩:=aD.slc hv;obtain ⟨rfl,_,hcc⟩:=Kd.pG hv;have hmx:=aj.mk (Kd.Zf hcc);clear hcc;have hv2:=aj.mk (Kd.eY hv (.cells #[.string p1,.string p2,.slice vA l.length vc] 148 (0,0)));have hb2:=aj.mk (ak hb1 (.cells #[.string p1,.string p2,.slice vA l.length vc] 148 (0,0)));have bk2:=aj.mk (uf w1 (.cells #[.string p1,.string p2,.slice vA l.length vc] 148 (0,0)));have hge:=aj.mk hb1.size;clear hv hb1))
  generalize hw1:w1.alloc (.cells #[.string p1,.string p2,.slice vA l.length vc] 148 (0,0)) = w2 at *
  generalize hg:w1.heap.size = g at *
  clear hw1 hg
  go_loopw [18] (fun v18 wr=>∃ (j:Nat) (cur:List ByteArray),v18 = .int .i64 j ∧ j ≤ l.length ∧ aj (cur.length = l.length ∧ ∃ mm,eG.all k (cur.drop j) = some mm ∧ m = cur.take j ++ mm) ∧ aj (wr.heap[g]? = some (.cells #[.string p1,.string p2,.slice vA l.length vc] 148 (0,0))) ∧ aj (Kd.R Kd.string 9 wr w.heap.size (fun _=>True) (.slice vA l.length vc) cur) ∧ aj (Below w.heap.size w wr)) (fun v18 _=>l.length - (intOf v18).toNat)
  case atStart=>exact ⟨0,l,rfl,Nat.zero_le _,⟨rfl,m,HM.out,rfl⟩,bk2,hv2,hb2⟩
  case round =>
    clear HM hv2 hb2 bk2
    obtain ⟨j,cur,rfl,hj,hc,bk,hR,hB⟩:=hrel
    by_cases hlt:j < l.length
    · obtain ⟨hcl,mm,hmm,hmt⟩:=hc.out
      have hjc:j < cur.length:=by omega
      rw [List.drop_eq_getElem_cons hjc,eG.all] at hmm
      obtain ⟨y,hy,hmm⟩:=zbm hmm
      obtain ⟨m',hm',hmm⟩:=zbm hmm
      obtain rfl:mm = y :: m':=(Option.some.inj hmm).symm
      have hnew:=aj.mk (show (cur.set j y).length = l.length ∧ ∃ mm,eG.all k ((cur.set j y).drop (j + 1)) = some mm ∧ m = (cur.set j y).take (j + 1) ++ mm from by
        refine ⟨by rw [List.length_set];exact hcl,m',?_,?_⟩
        · rw [List.drop_set_of_lt (by omega)];exact hm'
        · have e:(cur.set j y).take (j + 1) = cur.take j ++ [y]:=by
            rw [List.take_succ_eq_append_getElem (by rw [List.length_set];exact hjc),List.getElem_set_self,List.take_set_of_le (Nat.le_refl j)]
          rw [hmt,e,List.append_assoc];rfl)
      obtain ⟨gr,cap,e0,_,_,cells,hcells⟩:=Kd.Vi hR.out (by omega)
      injection e0 with e1 e2 e3
      subst e1 e3
      have hne:=aj.mk (show g ≠ gr from Ve bk.out hcells (by decide))
      have hxc:=Kd.Cm ByteArray.empty hR.out (j:Int) (by omega) (by omega)
      have hxe:pz ByteArray.empty cur (j:Int) = cur[j]:=by
        unfold pz
        rw [Int.toNat_natCast,List.getD_eq_getElem?_getD,List.getElem?_eq_getElem hjc]
        rfl
      rw [hxe,Int.toNat_natCast] at hxc
      have HY:=aj.mk hy
      have c0:=hxc.1
      have c1:=(dn.facts bk.out).1.2.2
      have hlt2:=aj.mk hlt
      have p0:(0 ≤ (j:Int)) = True:=eq_true (by omega)
      have q0:((j:Int) < (l.length:Int)) = True:=eq_true (by omega)
      generalize cur[j] = x at *
      clear hmm hm' hmt hy hxe hxc hcells hc e2 hlt hjc hcl
      go_wp2
      go_region_with (first | (go_at_call 92;refine (mE.calls _ _ _ _ HY.out).mono ?_;rintro e w3 ⟨rfl,hb3⟩;have bk3:=dO (aI bk.out) hb3;have Xa:=Kd.j4 (Kd.fV hR.out) hb3;have hB3:=aj.mk ((ji hB.out).trans (hb3.mono hB.out.size));have d0:=(Kd.Cm ByteArray.empty Xa (j:Int) (by omega) (by have:=hlt2.out;omega)).1;have d1:=(Kd.Cm ByteArray.empty Xa (j:Int) (by omega) (by have:=hlt2.out;omega)).2;rw [Int.toNat_natCast] at d0 d1;have d2:=(dn.facts bk3).1.2.2;have bk3:=aj.mk bk3;have Xa:=aj.mk Xa;clear hb3))
      all_goals
        have hfin:=Kd.Vk Xa.out (j:Int) y
        rw [Int.toNat_natCast] at hfin
        have bk4:=aj.mk (oh (p:=⟨gr,j,none⟩) bk3.out hne.out (.string y))
        have hR4:=aj.mk hfin.1
        have hB4:=aj.mk (hB3.out.grown hfin.2 hB3.out.size (fun k e=>by cases e;exact Kd.Vh Xa.out gr rfl))
        clear hfin
        generalize w3.setCell ⟨gr,j,none⟩ (.string y) = w4 at *
        clear c0 c1 d0 d1 d2 p0 q0
        have hw:=(show wrap64 ((j:Int) + 1) = ((j + 1:Nat):Int) from by have hlt:=hlt2.out;have hm9:=hmx.out;rw [B.dQ (by omega) (by omega)];omega)
        have hw:=aj.mk hw
        go_wp2
        go_roundw
        case rel=>have hlt:=hlt2.out;have hm9:=hmx.out;exact ⟨j + 1,cur.set j y,by rw [hw.out],hlt2.out,hnew,bk4,hR4,hB4⟩
        case measure=>have hlt:=hlt2.out;have hm9:=hmx.out;rw [hw.out];simp only [intOf];omega
    · obtain rfl:j = l.length:=by omega
      have hcm:m = cur:=by
        obtain ⟨hcl,mm,hmm,hmt⟩:=hc.out
        rw [← hcl,List.drop_length] at hmm
        cases hmm
        rw [hmt,← hcl,List.take_length,List.append_nil]
      subst hcm
      have q0:((l.length:Int) < (l.length:Int)) = False:=eq_false (by omega)
      obtain ⟨⟨k0,k1,k2⟩,_,_,_⟩:=dn.facts bk.out
      have hF:=HF.out
      unfold eG.fin at hF
      by_cases z1:p1.size + (strings_Join.cat m).size + p2.size ≤ 140737488355328
      · rw [if_pos z1] at hF
        by_cases z2:m.length ≤ 1000000
        · rw [if_pos z2] at hF
          obtain rfl:=Option.some.inj hF
          have z1:=aj.mk z1
          have z2:=aj.mk z2
          clear hF HF
          go_wp2_with (first
            | (go_at_call 113;refine (iI.calls _ _ _ m _ _ _ hR.out z2.out z1.out).mono ?_;rintro e w4 ⟨rfl,hb4⟩;have hB4:=aj.mk (hB.out.trans (hb4.mono hB.out.size));clear hb4))
          go_ret
          exact ⟨rfl,hB4.out⟩
        · rw [if_neg z2] at hF;cases hF
      · rw [if_neg z1] at hF;cases hF
end Go.Proofs.Ytdkkgecdhapfhaa.ZQ
namespace Go.Proofs.Ytdkkgecdhapfhaa.ZQ
open Go.RowKit Go.Proofs.YtdkkgecdhapfhaaW.bD Go.Proofs.YtdkkgecdhapfhaaW.dM Go.Proofs.YtdkkgecdhapfhaaW.eH
attribute [local go_sem] jl jm j5 j6 iF iG jo jq
theorem VF (d:Nat) (w:World) (x0 y0:Int) (x1 y1:Int) (x2 y2:Int) :
    (Op.equalIn (d + 2) 142 (.agg #[.int .i64 x0,.int .i64 x1,.int .i64 x2]) (.agg #[.int .i64 y0,.int .i64 y1,.int .i64 y2])).run Try.prog w = .ok (x0 == y0 && (x1 == y1 && (x2 == y2))) w:=by
  refine B.MO Try.underlying142 (by kernel_rfl) (by kernel_rfl) ?_
  show (Op.eqItems _ 3 1 _ _ [0,1,2]).run _ _ = _
  refine B.EG (by go_simp;rfl) (by go_simp;rfl) (by go_simp) ?_
  refine B.EG (by go_simp;rfl) (by go_simp;rfl) (by go_simp) ?_
  exact B.MN (by go_simp;rfl) (by go_simp;rfl) (by go_simp)
end Go.Proofs.Ytdkkgecdhapfhaa.ZQ

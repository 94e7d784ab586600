/- A part of the proof of ChainAlias: cut, joined and given short names by a program of this session (wip/tools/pack.py); Lean checks it. No condition. -/
import Derived.Test.YtfokaoeinpnagaaPCAasj
import Derived.WalkSpells
import Derived.Lib.Builder
import Derived.Lib.AppendStr
import Derived.Lib.UnsafeStr
import Derived.Test.YtfokaoeinpnagaaProg
import Derived.Shelf.Strings.OnBuilder
import Derived.KernelRfl
import Derived.Laws.Externs
import Derived.LaidEqlPtr
import Derived.Test.YtfokaoeinpnagaaPCAasd
set_option linter.unusedSectionVars false
set_option linter.unusedSimpArgs false
set_option linter.unusedVariables false
namespace Go.Proofs.Ytfokaoeinpnagaa.ZQ
open Go.RowKit Go.Proofs.YtfokaoeinpnagaaW.bE Go.Proofs.YtfokaoeinpnagaaW.dB Go.Proofs.YtfokaoeinpnagaaW.dU
attribute [local go_sem] jA jB kG kH iI iJ jC jD
mutual
def bM.l0 : Nat → ByteArray → List ByteArray → Option (List ByteArray × Bool)
 | 0,_,_=>none
 | k + 1,x0,x4=>if (x0.size:Int) > 0 then (bM.j1 k x0 x4 (x0.toList != ([0]:List UInt8))) else (bM.j1 k x0 x4 false)
def bM.j1 : Nat → ByteArray → List ByteArray → Bool → Option (List ByteArray × Bool)
 | 0,_,_,_=>none
 | k + 1,x0,x4,x15=>if x15 = true then (if 0 < (x0.size:Int) then (if (wrap64 (bt x0 0)) < 1 then (some (([]:List ByteArray),false)) else (if (wrap64 (bt x0 0)) > 63 then (some (([]:List ByteArray),false)) else (if (wrap64 ((wrap64 (bt x0 0)) + 1)) ≥ (x0.size:Int) then (some (([]:List ByteArray),false)) else (if 1 ≤ (wrap64 (1 + (wrap64 (bt x0 0)))) then (if (wrap64 (1 + (wrap64 (bt x0 0)))) ≤ (x0.size:Int) then (if x4.length < 8796093022208 then (if 0 ≤ (wrap64 (1 + (wrap64 (bt x0 0)))) then (bM.l0 k (x0.extract ((wrap64 (1 + (wrap64 (bt x0 0)))):Int).toNat x0.size) (x4 ++ [x0.extract 1 ((wrap64 (1 + (wrap64 (bt x0 0)))):Int).toNat])) else (none)) else (none)) else (none)) else (none))))) else (none)) else (some (x4,(x0.toList == ([0]:List UInt8))))
end
def bM.f (k:Nat) (a0:ByteArray):Option (List ByteArray × Bool):=if (a0.size:Int) > 255 then (some (([]:List ByteArray),false)) else (bM.l0 k a0 ([]:List ByteArray))
def bM.T8 : Bool × List (List Nat × List Nat):=(true,[([],[]),([],[]),([],[]),([2],[2]),([1,3],[1,3]),([4],[4]),([0,5],[0,5]),([],[]),([],[]),([8],[8]),([7,9],[7,9]),([6,6,0,1,2,3,4,5,6],[0,6]),([10,11,0,1,2,3,4,5,6,7,8,9,10,11],[1,7,10])])
def bM.B8 : List Nat:=[0,0,0,4,14,30,63,0,0,256,896,127,4095]
theorem bM.afL : ng .any (opsOf Try.f87 8) = bM.T8:=by kernel_rfl
theorem bM.aaA : qK bM.T8.2 bM.B8 = true:=by kernel_rfl
set_option maxHeartbeats 8000000 in
set_option maxRecDepth 100000 in
theorem bM.calls (k:Nat) (a0:ByteArray) (r1:List ByteArray) (r2:Bool) (w:World) (h:bM.f k a0 = some (r1,r2)) :
  Calls Try.prog 87 #[.string a0] w fun e w'=>∃ Ny:Value,e = .returned (.tuple #[Ny,.bool r2]) ∧ Kd.R Kd.string 9 w' w.heap.size (fun _=>True) Ny r1 ∧ Below w.heap.size w w':=by
 have HB:=aj.mk (Below.refl w.heap.size w)
 have H:(if (a0.size:Int) > 255 then (some (([]:List ByteArray),false)) else (bM.l0 k a0 ([]:List ByteArray))) = some (r1,r2):=h
 clear h
 by_cases c2:(a0.size:Int) > 255
 ·rw [if_pos c2] at H
  have wV:decide (255 < (a0.size:Int)) = true:=decide_eq_true c2
  have Ka:decide (255 < a0.size) = true:=decide_eq_true (by omega)
  clear c2
  simp only [Option.some.injEq,Prod.mk.injEq] at H
  obtain ⟨rfl,rfl⟩:=H
  go_enter Try.func87,Try.ntmps87
  go_wp2
  go_ret2
  exact ⟨_,by first | rfl | (simp [aI,aJ] <;> rfl) | (simp [*,aI,aJ] <;> rfl),by first | exact Kd.jM _ _ _ _ _ | exact Kd.lD _ _ _ _ _ | exact Kd.lF _ _ _ _ _ | exact Kd.lu _ _ _ _ _ | exact Kd.lC _ _ _ _ _,by repeat (first | (with_reducible first | exact HB.out | apply ak | apply ah | apply au) | exact HB.out)⟩
 ·rw [if_neg c2] at H
  have wV:decide (255 < (a0.size:Int)) = false:=decide_eq_false c2
  have Ka:decide (255 < a0.size) = false:=decide_eq_false (by omega)
  clear c2
  have H':=aj.mk H
  clear H
  go_enter Try.func87,Try.ntmps87
  go_wp2
  go_loopg [0,4] k (fun kq v0 v4 w'=>∃ (bL:ByteArray) (qU:List ByteArray),v0 = .string bL ∧ aj (bM.l0 kq bL qU = some (r1,r2)) ∧ aj (kq ≤ k) ∧ aj (Kd.R Kd.string 9 w' w.heap.size (fun _=>True) v4 qU) ∧ aj (Below w.heap.size w w'))
  case atStart=>exact ⟨(a0),(([]:List ByteArray)),(by first | rfl | (simp;done) | (simp [*];done) | (simp [B.aX];done) | (simp [B.aY];done)),H',⟨Nat.le_refl _⟩,⟨by first | exact Kd.jM _ _ _ _ _ | exact Kd.lD _ _ _ _ _ | exact Kd.lF _ _ _ _ _ | exact Kd.lu _ _ _ _ _ | exact Kd.lC _ _ _ _ _⟩,⟨by repeat (first | (with_reducible first | exact HB.out | apply ak | apply ah | apply au) | exact HB.out)⟩⟩
  case round =>
   clear H'
   try clear c2
   try clear wV
   try clear Ka
   try clear p2
   obtain ⟨bL,qU,rfl,HA,wB,qV,HB⟩:=hrel
   cases gk with
   | zero=>exact absurd HA.out (by simp [bM.l0])
   | succ k1 =>
    have H:=HA.out
    clear HA
    simp only [bM.l0] at H
    have HC3:=aj.mk H
    clear H
    go_upto_region 4 with (fail)
    go_cut [15] (fun v15 wc=>∃ (kq:Nat) (IB:Bool),v15 = .bool IB ∧ aj (bM.j1 kq bL qU IB = some (r1,r2)) ∧ aj (kq ≤ k1) ∧ aj (Kd.R Kd.string 9 wc w.heap.size (fun _=>True) u4 qU) ∧ aj (Below w.heap.size w wc))
    case first =>
     have H:=HC3.out
     clear HC3
     by_cases c4:(bL.size:Int) > 0
     ·rw [if_pos c4] at H
      have qW:decide (0 < (bL.size:Int)) = true:=decide_eq_true c4
      have Ke:decide (0 < bL.size) = true:=decide_eq_true (by omega)
      clear c4
      (first | rw [qW] | rw [Nz] | (simp only [gV,iB];rw [qW]) | skip)
      have H':=aj.mk H
      clear H
      go_wp2
      go_meet
      case rel=>exact ⟨_,((bL.toList != ([0]:List UInt8))),(by first | rfl | (simp;done) | (simp [*];done) | (simp [B.aX];done) | (simp [B.aY];done)),H',⟨by have:=wB.out;first | omega | exact Nat.le_refl _⟩,⟨by (with_reducible repeat (first | apply Kd.fJ | apply Kd.gy | apply Kd.gI));exact qV.out⟩,⟨by repeat (first | (with_reducible first | exact HB.out | apply ak | apply ah | apply au) | exact HB.out)⟩⟩
     ·rw [if_neg c4] at H
      have qW:decide (0 < (bL.size:Int)) = false:=decide_eq_false c4
      have Ke:decide (0 < bL.size) = false:=decide_eq_false (by omega)
      clear c4
      (first | rw [qW] | rw [Nz] | (simp only [gV,iB];rw [qW]) | skip)
      have H':=aj.mk H
      clear H
      go_wp2
      go_meet
      case rel=>exact ⟨_,(false),(by first | rfl | (simp;done) | (simp [*];done) | (simp [B.aX];done) | (simp [B.aY];done)),H',⟨by have:=wB.out;first | omega | exact Nat.le_refl _⟩,⟨by (with_reducible repeat (first | apply Kd.fJ | apply Kd.gy | apply Kd.gI));exact qV.out⟩,⟨by repeat (first | (with_reducible first | exact HB.out | apply ak | apply ah | apply au) | exact HB.out)⟩⟩
    case rest =>
     clear HC3
     try clear c2
     try clear wV
     try clear Ka
     try clear p2
     try clear c4
     try clear qW
     try clear Ke
     try clear Nz
     try clear p2
     obtain ⟨kq,IB,rfl,HA,HJ2,qV,HB⟩:=hcut
     cases kq with
     | zero=>exact absurd HA.out (by simp [bM.j1])
     | succ kj2 =>
      have H:=HA.out
      clear HA
      simp only [bM.j1] at H
      by_cases c5:IB = true
      ·subst c5
       have H1:(if 0 < (bL.size:Int) then (if (wrap64 (bt bL 0)) < 1 then (some (([]:List ByteArray),false)) else (if (wrap64 (bt bL 0)) > 63 then (some (([]:List ByteArray),false)) else (if (wrap64 ((wrap64 (bt bL 0)) + 1)) ≥ (bL.size:Int) then (some (([]:List ByteArray),false)) else (if 1 ≤ (wrap64 (1 + (wrap64 (bt bL 0)))) then (if (wrap64 (1 + (wrap64 (bt bL 0)))) ≤ (bL.size:Int) then (if qU.length < 8796093022208 then (if 0 ≤ (wrap64 (1 + (wrap64 (bt bL 0)))) then (bM.l0 kj2 (bL.extract ((wrap64 (1 + (wrap64 (bt bL 0)))):Int).toNat bL.size) (qU ++ [bL.extract 1 ((wrap64 (1 + (wrap64 (bt bL 0)))):Int).toNat])) else (none)) else (none)) else (none)) else (none))))) else (none)) = some (r1,r2):=by rw [if_pos rfl] at H;exact H
       clear H
       have H:=H1
       clear H1
       by_cases c6:0 < (bL.size:Int)
       ·rw [if_pos c6] at H
        have Ab:decide (0 < (bL.size:Int)) = true:=decide_eq_true c6
        have NA:decide (0 < bL.size) = true:=decide_eq_true (by omega)
        clear c6
        by_cases c8:(wrap64 (bt bL 0)) < 1
        ·rw [if_pos c8] at H
         have vG:decide ((wrap64 (bt bL 0)) < 1) = true:=decide_eq_true c8
         (try (have vH:decide (((bt bL 0)) < 1) = true:=by have h_:decide ((wrap64 (bt bL 0)) < 1) = true:=decide_eq_true c8;rw [B.dX (by omega) (by omega)] at h_;exact h_))
         clear c8
         simp only [Option.some.injEq,Prod.mk.injEq] at H
         obtain ⟨rfl,rfl⟩:=H
         have p7:0 ≤ (0:Int):=(by omega)
         have q7:0 < bL.size:=(by have:(0:Int) < (bL.size:Int):=of_decide_eq_true (by first | (with_reducible assumption) | assumption);omega)
         have hx7:∀ h:0 < bL.size,((bL[0]'h).toNat:Int) = bt bL 0:=nW bL 0
         clear p7
         have qi7:(0 < (bL.size:Int)) = True:=eq_true (of_decide_eq_true (by first | (with_reducible assumption) | assumption))
         replace q7:=eq_true q7
         go_wp2
         go_ret2
         exact ⟨_,by first | rfl | (simp [aI,aJ] <;> rfl) | (simp [*,aI,aJ] <;> rfl),by first | exact Kd.jM _ _ _ _ _ | exact Kd.lD _ _ _ _ _ | exact Kd.lF _ _ _ _ _ | exact Kd.lu _ _ _ _ _ | exact Kd.lC _ _ _ _ _,by repeat (first | (with_reducible first | exact HB.out | apply ak | apply ah | apply au) | exact HB.out)⟩
        ·rw [if_neg c8] at H
         have vG:decide ((wrap64 (bt bL 0)) < 1) = false:=decide_eq_false c8
         (try (have vH:decide (((bt bL 0)) < 1) = false:=by have h_:decide ((wrap64 (bt bL 0)) < 1) = false:=decide_eq_false c8;rw [B.dX (by omega) (by omega)] at h_;exact h_))
         clear c8
         by_cases c9:(wrap64 (bt bL 0)) > 63
         ·rw [if_pos c9] at H
          have uy:decide (63 < (wrap64 (bt bL 0))) = true:=decide_eq_true c9
          (try (have EN:decide (63 < ((bt bL 0))) = true:=by have h_:decide (63 < (wrap64 (bt bL 0))) = true:=decide_eq_true c9;rw [B.dX (by omega) (by omega)] at h_;exact h_))
          clear c9
          simp only [Option.some.injEq,Prod.mk.injEq] at H
          obtain ⟨rfl,rfl⟩:=H
          have p7:0 ≤ (0:Int):=(by omega)
          have q7:0 < bL.size:=(by have:(0:Int) < (bL.size:Int):=of_decide_eq_true (by first | (with_reducible assumption) | assumption);omega)
          have hx7:∀ h:0 < bL.size,((bL[0]'h).toNat:Int) = bt bL 0:=nW bL 0
          clear p7
          have qi7:(0 < (bL.size:Int)) = True:=eq_true (of_decide_eq_true (by first | (with_reducible assumption) | assumption))
          replace q7:=eq_true q7
          go_wp2
          go_ret2
          exact ⟨_,by first | rfl | (simp [aI,aJ] <;> rfl) | (simp [*,aI,aJ] <;> rfl),by first | exact Kd.jM _ _ _ _ _ | exact Kd.lD _ _ _ _ _ | exact Kd.lF _ _ _ _ _ | exact Kd.lu _ _ _ _ _ | exact Kd.lC _ _ _ _ _,by repeat (first | (with_reducible first | exact HB.out | apply ak | apply ah | apply au) | exact HB.out)⟩
         ·rw [if_neg c9] at H
          have uy:decide (63 < (wrap64 (bt bL 0))) = false:=decide_eq_false c9
          (try (have EN:decide (63 < ((bt bL 0))) = false:=by have h_:decide (63 < (wrap64 (bt bL 0))) = false:=decide_eq_false c9;rw [B.dX (by omega) (by omega)] at h_;exact h_))
          clear c9
          by_cases c10:(wrap64 ((wrap64 (bt bL 0)) + 1)) ≥ (bL.size:Int)
          ·rw [if_pos c10] at H
           have rG:decide ((bL.size:Int) ≤ (wrap64 ((wrap64 (bt bL 0)) + 1))) = true:=decide_eq_true c10
           (try (have Ba:decide ((bL.size:Int) ≤ ((((bt bL 0)) + 1))) = true:=by have h_:decide ((bL.size:Int) ≤ (wrap64 ((wrap64 (bt bL 0)) + 1))) = true:=decide_eq_true c10;rw [B.dX (by omega) (by omega)] at h_;rw [B.dX (by omega) (by omega)] at h_;exact h_))
           clear c10
           simp only [Option.some.injEq,Prod.mk.injEq] at H
           obtain ⟨rfl,rfl⟩:=H
           have p7:0 ≤ (0:Int):=(by omega)
           have q7:0 < bL.size:=(by have:(0:Int) < (bL.size:Int):=of_decide_eq_true (by first | (with_reducible assumption) | assumption);omega)
           have hx7:∀ h:0 < bL.size,((bL[0]'h).toNat:Int) = bt bL 0:=nW bL 0
           clear p7
           have qi7:(0 < (bL.size:Int)) = True:=eq_true (of_decide_eq_true (by first | (with_reducible assumption) | assumption))
           replace q7:=eq_true q7
           go_wp2
           go_ret2
           exact ⟨_,by first | rfl | (simp [aI,aJ] <;> rfl) | (simp [*,aI,aJ] <;> rfl),by first | exact Kd.jM _ _ _ _ _ | exact Kd.lD _ _ _ _ _ | exact Kd.lF _ _ _ _ _ | exact Kd.lu _ _ _ _ _ | exact Kd.lC _ _ _ _ _,by repeat (first | (with_reducible first | exact HB.out | apply ak | apply ah | apply au) | exact HB.out)⟩
          ·rw [if_neg c10] at H
           have rG:decide ((bL.size:Int) ≤ (wrap64 ((wrap64 (bt bL 0)) + 1))) = false:=decide_eq_false c10
           (try (have Ba:decide ((bL.size:Int) ≤ ((((bt bL 0)) + 1))) = false:=by have h_:decide ((bL.size:Int) ≤ (wrap64 ((wrap64 (bt bL 0)) + 1))) = false:=decide_eq_false c10;rw [B.dX (by omega) (by omega)] at h_;rw [B.dX (by omega) (by omega)] at h_;exact h_))
           clear c10
           by_cases c11:1 ≤ (wrap64 (1 + (wrap64 (bt bL 0))))
           ·rw [if_pos c11] at H
            have NC:=eq_true c11
            have aaB:decide (1 ≤ (wrap64 (1 + (wrap64 (bt bL 0))))) = true:=decide_eq_true c11
            by_cases c12:(wrap64 (1 + (wrap64 (bt bL 0)))) ≤ (bL.size:Int)
            ·rw [if_pos c12] at H
             have uz:=eq_true c12
             have uD:decide ((wrap64 (1 + (wrap64 (bt bL 0)))) ≤ (bL.size:Int)) = true:=decide_eq_true c12
             by_cases c13:qU.length < 8796093022208
             ·rw [if_pos c13] at H
              have aaC:=aj.mk c13
              clear c13
              obtain ⟨y101,hy101⟩:∃ y_:List ByteArray,y_ = (qU ++ [bL.extract 1 ((wrap64 (1 + (wrap64 (bt bL 0)))):Int).toNat]):=⟨_,rfl⟩
              replace H:(if 0 ≤ (wrap64 (1 + (wrap64 (bt bL 0)))) then (bM.l0 kj2 (bL.extract ((wrap64 (1 + (wrap64 (bt bL 0)))):Int).toNat bL.size) y101) else (none)) = some (r1,r2):=by first | (rw [hy101];with_reducible exact H) | (have GJ:=(Option.bind_some _ _).symm.trans H;rw [hy101];with_reducible exact GJ) | (have GJ:=(Option.bind_some _ _).symm.trans H;with_reducible exact GJ) | with_reducible exact H | (rw [hy101];exact H) | exact H
              have TW:=aj.mk hy101
              clear hy101
              obtain ⟨CP,qd⟩:∃ j_:Int,(wrap64 (1 + (wrap64 (bt bL 0)))) = j_:=⟨_,rfl⟩
              replace H:(if 0 ≤ (CP) then (bM.l0 kj2 (bL.extract ((CP):Int).toNat bL.size) y101) else (none)) = some (r1,r2):=by first | (rw [qd] at H;exact H) | (simp only [qd] at H ⊢;exact H)
              (try rw [qd] at NC)
              (try rw [qd] at aaB)
              (try rw [qd] at c11)
              (try rw [qd] at uz)
              (try rw [qd] at uD)
              (try rw [qd] at c12)
              (try rw [qd] at TW)
              have afM:(IntKind.i64.wrap (1 + (wrap64 (bt bL 0)))) = CP:=(gV _).trans qd
              by_cases c15:0 ≤ (CP)
              ·rw [if_pos c15] at H
               have ahd:=eq_true c15
               have ahe:decide (0 ≤ (CP)) = true:=decide_eq_true c15
               clear c15
               have IC:=eq_true (of_decide_eq_true (by first | (with_reducible assumption) | assumption):(CP) ≤ (bL.size:Int))
               have H':=aj.mk H
               clear H
               have p7:0 ≤ (0:Int):=(by omega)
               have q7:0 < bL.size:=(by have:(0:Int) < (bL.size:Int):=of_decide_eq_true (by first | (with_reducible assumption) | assumption);omega)
               have hx7:∀ h:0 < bL.size,((bL[0]'h).toNat:Int) = bt bL 0:=nW bL 0
               clear p7
               have qi7:(0 < (bL.size:Int)) = True:=eq_true (of_decide_eq_true (by first | (with_reducible assumption) | assumption))
               replace q7:=eq_true q7
               try go_wp2
               have eP:=aj.mk (Kd.gI qV.out)
               have iE:=aj.mk (au HB.out)
               clear qV
               clear HB
               have qV:=eP
               have HB:=iE
               clear eP iE
               refine Nl (n:=13) (S:=fun w'=>True) (ds:=[]) #[false,false,false,false,false,false,false,false,false,false,false,false,false] (by kernel_rfl) rfl rfl trivial (fun hHeld=>?_);refine A9 bM.afL bM.aaA (fun wW HW_=>?_)
               generalize wc.drew = w17 at qV HB hHeld ⊢
               refine lU (i:=0) (N:=some 32) (v:=?_) (a':=?_) #[true,false,false,false,false,false,false,false,false,false,false,false,false] rfl rfl (jP wW.out (by kernel_rfl)) (fun _ _ _ h=>h) (Or.inl ⟨by rfl,?_⟩) ?_ ?_
               rotate_left
               ·intro w'
                go_simp
                with_reducible rfl
               rotate_left
               ·simp only [Act.put,List.setIfInBounds_toArray,List.set_cons_zero,List.set_cons_succ,gV,iB]
                rfl
               refine lU (i:=1) (N:=some 33) (v:=?_) (a':=?_) #[true,true,false,false,false,false,false,false,false,false,false,false,false] rfl rfl (jP wW.out (by kernel_rfl)) (fun _ _ _ h=>h) (Or.inl ⟨by rfl,?_⟩) ?_ ?_
               rotate_left
               ·intro w'
                go_simp
                with_reducible rfl
               rotate_left
               ·simp only [Act.put,List.setIfInBounds_toArray,List.set_cons_zero,List.set_cons_succ,gV,iB]
                rfl
               refine lU (i:=2) (N:=some 34) (v:=?_) (a':=?_) #[true,true,true,false,false,false,false,false,false,false,false,false,false] rfl rfl (jP wW.out (by kernel_rfl)) (fun _ _ _ h=>h) (Or.inl ⟨by rfl,?_⟩) ?_ ?_
               rotate_left
               ·intro w'
                go_simp
                with_reducible rfl
               rotate_left
               ·simp only [Act.put,List.setIfInBounds_toArray,List.set_cons_zero,List.set_cons_succ,gV,iB]
                rfl
               refine lU (i:=3) (N:=some 35) (v:=?_) (a':=?_) #[true,true,true,true,false,false,false,false,false,false,false,false,false] rfl rfl (jP wW.out (by kernel_rfl)) (fun _ _ _ h=>h) (Or.inl ⟨by rfl,?_⟩) ?_ ?_
               rotate_left
               ·intro w'
                go_simp
                with_reducible rfl
               rotate_left
               ·simp only [Act.put,List.setIfInBounds_toArray,List.set_cons_zero,List.set_cons_succ,gV,iB]
                rfl
               refine lU (i:=4) (N:=some 36) (v:=?_) (a':=?_) #[true,true,true,true,true,false,false,false,false,false,false,false,false] rfl rfl (jP wW.out (by kernel_rfl)) (fun _ _ _ h=>h) (Or.inl ⟨by rfl,?_⟩) ?_ ?_
               rotate_left
               ·intro w'
                go_simp
                with_reducible rfl
               rotate_left
               ·simp only [Act.put,List.setIfInBounds_toArray,List.set_cons_zero,List.set_cons_succ,gV,iB]
                rfl
               refine lU (i:=7) (N:=some 39) (v:=?_) (a':=?_) #[true,true,true,true,true,false,false,true,false,false,false,false,false] rfl rfl (jP wW.out (by kernel_rfl)) (fun _ _ _ h=>h) (Or.inl ⟨by rfl,?_⟩) ?_ ?_
               rotate_left
               ·intro w'
                go_simp
                with_reducible rfl
               rotate_left
               ·simp only [Act.put,List.setIfInBounds_toArray,List.set_cons_zero,List.set_cons_succ,gV,iB]
                rfl
               refine lU (i:=8) (N:=some 40) (v:=?_) (a':=?_) #[true,true,true,true,true,false,false,true,true,false,false,false,false] rfl rfl (jP wW.out (by kernel_rfl)) (fun _ _ _ h=>h) (Or.inl ⟨by rfl,?_⟩) ?_ ?_
               rotate_left
               ·intro w'
                go_simp
                with_reducible rfl
               rotate_left
               ·simp only [Act.put,List.setIfInBounds_toArray,List.set_cons_zero,List.set_cons_succ,gV,iB]
                rfl
               refine lU (i:=9) (N:=some 41) (v:=?_) (a':=?_) #[true,true,true,true,true,false,false,true,true,true,false,false,false] rfl rfl (jP wW.out (by kernel_rfl)) (fun _ _ _ h=>h) (Or.inl ⟨by rfl,?_⟩) ?_ ?_
               rotate_left
               ·intro w'
                go_simp
                with_reducible rfl
               rotate_left
               ·simp only [Act.put,List.setIfInBounds_toArray,List.set_cons_zero,List.set_cons_succ,gV,iB]
                rfl
               refine lU (i:=10) (N:=some 42) (v:=?_) (a':=?_) #[true,true,true,true,true,false,false,true,true,true,true,false,false] rfl rfl (jP wW.out (by kernel_rfl)) (fun _ _ _ h=>h) (Or.inl ⟨by rfl,?_⟩) ?_ ?_
               rotate_left
               ·intro w'
                go_simp
                with_reducible rfl
               rotate_left
               ·simp only [Act.put,List.setIfInBounds_toArray,List.set_cons_zero,List.set_cons_succ,gV,iB]
                rfl
               refine Ww (i:=5) (N:=some 37) #[true,true,true,true,true,true,false,true,true,true,true,false,false] rfl rfl (GI wW.out (by kernel_rfl)) (by decide) (fun K hK=>?_)
               refine Wx (w1:=?_) (v:=?_) (by rfl) rfl ?_ ?_
               rotate_left 2
               ·go_simp
                constructor
                ·rfl
                ·rfl
               refine hK.out _ _ trivial (fun hHeld=>?_)
               clear hK K
               refine TS (a':=?_) ?_ ?_
               rotate_left
               ·show Act.put _ (some 37) _ = _
                simp only [Act.put,List.setIfInBounds_toArray,List.set_cons_zero,List.set_cons_succ,gV,iB]
                rfl
               refine Ww (i:=6) (N:=some 38) #[true,true,true,true,true,true,true,true,true,true,true,false,false] rfl rfl (GI wW.out (by kernel_rfl)) (by decide) (fun K hK=>?_)
               refine Kd.zZ Kd.string (w0:=w) w.heap.size (by rfl) (.tmp 32) (.tmp 37) 25 9 (.string ⟨#[]⟩) 16 rfl Try.underlying25 Iz rfl (by decide) (by omega) u4 qU (bL.extract 1 ((CP):Int).toNat) [.string (bL.extract 1 ((CP):Int).toNat)] (fun _=>True) (fun _=>False) rfl rfl ?aP (fun _ hk=>hk.elim) ?aF ?aO ?aB ?aS ?aL ?_
               (case aP=>exact rfl)
               (case aB=>exact (by repeat (first | (with_reducible first | exact HB.out | apply ak | apply ah | apply au) | exact HB.out)))
               (case aF=>exact (fun _ _=>trivial))
               (case aO=>exact (by (with_reducible repeat (first | apply Kd.fJ | apply Kd.gy | apply Kd.gI));exact qV.out))
               (case aS=>exact (bK (by repeat (first | (with_reducible first | exact HB.out | apply ak | apply ah | apply au) | exact HB.out))))
               (case aL=>have:=aaC.out;omega)
               intro aio w18 ho hb hg hat
               rw [← TW.out] at ho
               have eP:=aj.mk (hb)
               have iE:=aj.mk (ho)
               clear HB
               clear qV
               have HB:=eP
               have aaD:=iE
               clear eP iE
               clear ho hb hg hat
               refine hK.out _ _ trivial (fun hHeld=>?_)
               clear hK K
               refine TS (a':=?_) ?_ ?_
               rotate_left
               ·show Act.put _ (some 38) _ = _
                simp only [Act.put,List.setIfInBounds_toArray,List.set_cons_zero,List.set_cons_succ,gV,iB]
                rfl
               refine lU (i:=11) (N:=some 4) (v:=?_) (a':=?_) #[true,true,true,true,true,true,true,true,true,true,true,true,false] rfl rfl (jP wW.out (by kernel_rfl)) (fun _ _ _ h=>h) (Or.inl ⟨by rfl,?_⟩) ?_ ?_
               rotate_left
               ·intro w'
                go_simp
                with_reducible rfl
               rotate_left
               ·simp only [Act.put,List.setIfInBounds_toArray,List.set_cons_zero,List.set_cons_succ,gV,iB]
                rfl
               refine lU (i:=12) (N:=some 0) (v:=?_) (a':=?_) #[true,true,true,true,true,true,true,true,true,true,true,true,true] rfl rfl (jP wW.out (by kernel_rfl)) (fun _ _ _ h=>h) (Or.inl ⟨by rfl,?_⟩) ?_ ?_
               rotate_left
               ·intro w'
                go_simp
                with_reducible rfl
               rotate_left
               ·simp only [Act.put,List.setIfInBounds_toArray,List.set_cons_zero,List.set_cons_succ,gV,iB]
                rfl
               refine TR (Iw wW.out (by kernel_rfl)) ?_
               try go_wp2
               go_roundg kj2
               case measure=>have:=wB.out;have:=HJ2.out;omega
               case rel=>exact ⟨(bL.extract ((CP):Int).toNat bL.size),(y101),(by first | rfl | (simp;done) | (simp only [← qd] <;> (first | rfl | simp)) | (simp [*];done)),H',⟨by have:=wB.out;have:=HJ2.out;omega⟩,⟨by (with_reducible repeat (first | apply Kd.fJ | apply Kd.gy | apply Kd.gI));exact aaD.out⟩,⟨by repeat (first | (with_reducible first | exact HB.out | apply ak | apply ah | apply au) | exact HB.out)⟩⟩
              ·rw [if_neg c15] at H
               exact absurd H (by simp)
             ·rw [if_neg c13] at H
              exact absurd H (by simp)
            ·rw [if_neg c12] at H
             exact absurd H (by simp)
           ·rw [if_neg c11] at H
            exact absurd H (by simp)
       ·rw [if_neg c6] at H
        exact absurd H (by simp)
      ·replace c5:=Bool.eq_false_iff.mpr c5
       subst c5
       have H1:(some (qU,(bL.toList == ([0]:List UInt8)))) = some (r1,r2):=by rw [if_neg (show ¬ (false = true) by decide)] at H;exact H
       clear H
       have H:=H1
       clear H1
       simp only [Option.some.injEq,Prod.mk.injEq] at H
       obtain ⟨rfl,rfl⟩:=H
       go_wp2
       go_ret2
       exact ⟨_,by first | rfl | (simp [aI,aJ] <;> rfl) | (simp [*,aI,aJ] <;> rfl),by (with_reducible repeat (first | apply Kd.fJ | apply Kd.gy | apply Kd.gI));exact qV.out,by repeat (first | (with_reducible first | exact HB.out | apply ak | apply ah | apply au) | exact HB.out)⟩
def iQ.f (k:Nat) (a0:ByteArray):Option (Bool):=(bM.f k a0).bind fun ND=>(some ND.2)
set_option maxHeartbeats 8000000 in
set_option maxRecDepth 100000 in
theorem iQ.calls (k:Nat) (a0:ByteArray) (r:Bool) (w:World) (h:iQ.f k a0 = some r) :
  Calls Try.prog 70 #[.string a0] w fun e w'=>e = .returned (.bool r) ∧ Below w.heap.size w w':=by
 have HB:=aj.mk (Below.refl w.heap.size w)
 have H:((bM.f k a0).bind fun ND=>(some ND.2)) = some r:=h
 clear h
 replace H:=zbm H
 obtain ⟨⟨afN,t105⟩,NG,H⟩:=H
 replace H:(some t105) = some r:=H
 have A2:=aj.mk NG
 clear NG
 obtain rfl:=Option.some.inj H
 go_enter Try.func70,Try.ntmps70
 go_wp2_with (first | ((with_reducible refine aU (f:=87) rfl ?_);refine bP (some 7) rfl rfl Try.func87 (by kernel_rfl) rfl #[.string a0] rfl (by (try simp only [List.map_toArray,List.map_cons,List.map_nil]);first | done | rfl | (simp only [List.length_drop,List.length_take];rfl) | (simp only [ByteArray.size_append,Int.natCast_add];rfl) | (rw [B.dX] <;> first | rfl | omega | (simp only [decide_eq_false_iff_not,decide_eq_true_eq,Int.not_lt,Nat.not_lt,gt_iff_lt] at * <;> omega))) ?_;(with_reducible refine (bM.calls k a0 afN t105 _ A2.out).mono ?_);rintro e w3 ⟨aip,rfl,ho0,hb⟩;refine ⟨_,rfl,?_⟩;have eP:=aj.mk (Kd.uf ho0 (bK (by repeat (first | (with_reducible first | exact HB.out | apply ak | apply ah | apply au) | exact HB.out))));have iE:=aj.mk (bI (by repeat (first | (with_reducible first | exact HB.out | apply ak | apply ah | apply au) | exact HB.out)) hb);clear HB;have ahf:=eP;have HB:=iE;clear eP iE;(try clear hb);(try clear hb2);(try clear hk);(try clear hi);(try clear ho0)))
 go_ret
 exact ⟨by first | rfl | (simp [aI,aJ] <;> rfl) | (simp [*,aI,aJ] <;> rfl),by repeat (first | (with_reducible first | exact HB.out | apply ak | apply ah | apply au) | exact HB.out)⟩
def mR.f (a0:Int):Option (Int):=if a0 ≥ 65 then (if a0 ≤ 90 then (some ((a0 + 32) % 256)) else (some a0)) else (some a0)
set_option maxHeartbeats 8000000 in
set_option maxRecDepth 100000 in
theorem mR.calls (a0:Int) (r:Int) (w:World) (h:mR.f a0 = some r) :
  Calls Try.prog 88 #[.int .u8 a0] w fun e w'=>e = .returned (.int .u8 r) ∧ aW w w':=by
 have H:(if a0 ≥ 65 then (if a0 ≤ 90 then (some ((a0 + 32) % 256)) else (some a0)) else (some a0)) = some r:=h
 clear h
 by_cases c2:a0 ≥ 65
 ·rw [if_pos c2] at H
  have wV:decide (65 ≤ a0) = true:=decide_eq_true c2
  clear c2
  by_cases c3:a0 ≤ 90
  ·rw [if_pos c3] at H
   have qX:decide (a0 ≤ 90) = true:=decide_eq_true c3
   clear c3
   obtain rfl:=Option.some.inj H
   go_enter Try.func88,Try.ntmps88
   go_wp2
   go_ret
   exact ⟨by first | rfl | (simp;done) | (simp [*];done),by repeat (first | exact aW.refl _ | apply aW.step)⟩
  ·rw [if_neg c3] at H
   have qX:decide (a0 ≤ 90) = false:=decide_eq_false c3
   clear c3
   obtain rfl:=Option.some.inj H
   go_enter Try.func88,Try.ntmps88
   go_wp2
   go_ret
   exact ⟨by first | rfl | (simp;done) | (simp [*];done),by repeat (first | exact aW.refl _ | apply aW.step)⟩
 ·rw [if_neg c2] at H
  have wV:decide (65 ≤ a0) = false:=decide_eq_false c2
  clear c2
  obtain rfl:=Option.some.inj H
  go_enter Try.func88,Try.ntmps88
  go_wp2
  go_ret
  exact ⟨by first | rfl | (simp;done) | (simp [*];done),by repeat (first | exact aW.refl _ | apply aW.step)⟩
def iX.f (a0:ByteArray):Option ByteArray:=if a0.size ≤ 140737488355328 then some (B.jU a0) else none
theorem iX.small (c:Int) (h0:0 ≤ c) (h1:c ≤ 255):mR.f c = some (B.iC c):=by
 unfold mR.f B.iC
 by_cases h2:65 ≤ c
 ·by_cases h3:c ≤ 90
  ·rw [if_pos (by omega),if_pos h3,if_pos ⟨h2,h3⟩];congr 1;omega
  ·rw [if_pos (by omega),if_neg h3,if_neg (by omega)]
 ·rw [if_neg (by omega),if_neg (by omega)]
set_option maxHeartbeats 8000000 in
set_option maxRecDepth 100000 in
theorem iX.calls (a0:ByteArray) (r:ByteArray) (w:World) (h:iX.f a0 = some r) :
  Calls Try.prog 71 #[.string a0] w fun e w'=>e = .returned (.string r) ∧ Below w.heap.size w w':=by
 unfold iX.f at h
 by_cases hs:a0.size ≤ 140737488355328
 ·rw [if_pos hs] at h
  obtain rfl:=Option.some.inj h
  clear h
  have kc:=fun (W:World)=>Lib.run_convert_string_bytes (P:=Try.prog) W 9 151 5 a0 Try.underlying9 Try.underlying151 Try.underlying5
  have hb0:=aj.mk (B.y8 (Below.refl w.heap.size w) (Nat.le_refl _) 5 a0)
  have hr0:=aj.mk (B.y7 w 5 a0)
  go_enter Try.func71,Try.ntmps71
  go_wp2
  generalize Lib.bytesWorld w 5 a0 = w1 at hb0 hr0 ⊢
  generalize grownCap w a0.size 0 5 = C
  have hz:=aj.mk (B.numsOf_length a0)
  have hg:=aj.mk (Nat.le_refl w.heap.size)
  generalize hgg:w.heap.size = g at hb0 hr0 hg ⊢
  have hg':=aj.mk hgg
  clear hgg
  go_loopw [10] (fun v wr=>∃ k:Nat,k ≤ a0.size ∧ v = .int .i64 k ∧ aj (B.wu wr g (B.iW k (B.numsOf a0))) ∧ aj (Below g w wr)) (fun v _=>a0.size - (intOf v).toNat)
  case atStart=>exact ⟨0,Nat.zero_le _,rfl,⟨by rw [B.y5];exact hr0.out⟩,hb0⟩
  case round =>
   obtain ⟨k,hk,rfl,hrow,hbel⟩:=hrel
   clear hr0 hb0 kc
   by_cases hlt:k < a0.size
   ·have hkl:k < (B.numsOf a0).length:=by rw [hz.out];exact hlt
    have hc:=(hrow.out k (by rw [B.gQ];exact hkl))
    rw [B.EG k _ hkl,B.numsOf_at] at hc
    obtain ⟨hc1,hc2⟩:=hc
    have hrange:=B.AY a0 k
    have hsm:=aj.mk (iX.small (bt a0 k) hrange.1 hrange.2)
    have hset:=aj.mk (B.rowAt_set hrow.out k (B.iC (bt a0 k)) (by rw [B.gQ];exact hkl))
    have hset':=aj.mk (show B.wu (wr.setCell ⟨g,k,none⟩ (.int .u8 (B.iC (bt a0 k)))) g (B.iW (k + 1) (B.numsOf a0)) by
     have h1:=hset.out
     rw [← B.numsOf_at,B.vE k _ hkl] at h1
     rw [← B.numsOf_at]
     exact h1)
    have lH:=aj.mk (hbel.out.setCell (p:=⟨g,k,none⟩) (Nat.le_refl _) (.int .u8 (B.iC (bt a0 k))))
    clear hset hrow hbel hkl
    generalize bt a0 k = c at *
    go_wp2_with (go_at_call 88;(with_reducible refine (mR.calls c _ _ hsm.out).mono ?_);rintro e w' ⟨rfl,⟨nd,rfl⟩⟩)
    go_roundw
    case rel=>exact ⟨k + 1,by omega,by go_num,⟨fun j hj=>hset'.out j hj⟩,⟨by first | exact lH.out | exact ⟨lH.out.os,lH.out.tape,lH.out.output,lH.out.size,lH.out.block⟩⟩⟩
    case measure=>simp [intOf];omega
   ·obtain rfl:k = a0.size:=by omega
    have hl:(B.iW a0.size (B.numsOf a0)).length = a0.size:=by rw [B.gQ];exact hz.out
    have kd:=fun (dst:TypeId) (hd:Try.prog.underlying dst = some .string)=>run_convert_bytes_arg (P:=Try.prog) wr 151 5 Try.underlying151 Try.underlying5 g 0 a0.size C (B.iW a0.size (B.numsOf a0)) hl (fun i hi=>by rw [Nat.zero_add];exact (hrow.out i (by rw [hl];exact hi)).1) dst hd
    replace kd:=kd 9 Try.underlying9
    have he:=aj.mk (show strOfNums (B.iW a0.size (B.numsOf a0)) = B.jU a0 by
     have:=B.AX (B.numsOf a0)
     rw [hz.out] at this
     rw [this];rfl)
    generalize strOfNums (B.iW a0.size (B.numsOf a0)) = q at kd he
    clear hrow hl hlt
    have he':=he.out
    clear he
    subst he'
    go_wp2
    go_ret
    exact ⟨rfl,by rw [hg'.out];exact hbel.out⟩
 ·rw [if_neg hs] at h
  exact absurd h (by simp)
def mU.f (k:Nat) (a0:ByteArray):Option (ByteArray):=(iQ.f k a0).bind fun Kg=>(if Kg = true then ((iX.f a0).bind fun t109=>(some t109)) else (some (⟨#[]⟩:ByteArray)))
set_option maxHeartbeats 8000000 in
set_option maxRecDepth 100000 in
theorem mU.calls (k:Nat) (a0:ByteArray) (r:ByteArray) (w:World) (h:mU.f k a0 = some r) :
  Calls Try.prog 48 #[.string a0] w fun e w'=>e = .returned (.string r) ∧ Below w.heap.size w w':=by
 have HB:=aj.mk (Below.refl w.heap.size w)
 have H:((iQ.f k a0).bind fun Kg=>(if Kg = true then ((iX.f a0).bind fun t109=>(some t109)) else (some (⟨#[]⟩:ByteArray)))) = some r:=h
 clear h
 replace H:=zbm H
 obtain ⟨Kg,NG,H⟩:=H
 replace H:(if Kg = true then ((iX.f a0).bind fun t109=>(some t109)) else (some (⟨#[]⟩:ByteArray))) = some r:=H
 have A2:=aj.mk NG
 clear NG
 by_cases c3:Kg = true
 ·subst c3
  have H1:((iX.f a0).bind fun t109=>(some t109)) = some r:=by rw [if_pos rfl] at H;exact H
  clear H
  have H:=H1
  clear H1
  replace H:=zbm H
  obtain ⟨t109,EO,H⟩:=H
  replace H:(some t109) = some r:=H
  have A4:=aj.mk EO
  clear EO
  obtain rfl:=Option.some.inj H
  go_enter Try.func48,Try.ntmps48
  go_wp2_with (first | ((with_reducible refine aU (f:=70) rfl ?_);refine bP (some 4) rfl rfl Try.func70 (by kernel_rfl) rfl #[.string a0] rfl (by (try simp only [List.map_toArray,List.map_cons,List.map_nil]);first | done | rfl | (simp only [List.length_drop,List.length_take];rfl) | (simp only [ByteArray.size_append,Int.natCast_add];rfl) | (rw [B.dX] <;> first | rfl | omega | (simp only [decide_eq_false_iff_not,decide_eq_true_eq,Int.not_lt,Nat.not_lt,gt_iff_lt] at * <;> omega))) ?_;(with_reducible refine (iQ.calls k a0 true _ A2.out).mono ?_);rintro e w5 ⟨rfl,hb⟩;refine ⟨_,rfl,?_⟩;have eP:=aj.mk (bI (by repeat (first | (with_reducible first | exact HB.out | apply ak | apply ah | apply au) | exact HB.out)) hb);clear HB;have HB:=eP;clear eP;(try clear hb);(try clear hb2);(try clear hk);(try clear hi)) | ((with_reducible refine aU (f:=71) rfl ?_);refine bP (some 7) rfl rfl Try.func71 (by kernel_rfl) rfl #[.string a0] rfl (by (try simp only [List.map_toArray,List.map_cons,List.map_nil]);first | done | rfl | (simp only [List.length_drop,List.length_take];rfl) | (simp only [ByteArray.size_append,Int.natCast_add];rfl) | (rw [B.dX] <;> first | rfl | omega | (simp only [decide_eq_false_iff_not,decide_eq_true_eq,Int.not_lt,Nat.not_lt,gt_iff_lt] at * <;> omega))) ?_;(with_reducible refine (iX.calls a0 t109 _ A4.out).mono ?_);rintro e w6 ⟨rfl,hb⟩;refine ⟨_,rfl,?_⟩;have eP:=aj.mk (bI (by repeat (first | (with_reducible first | exact HB.out | apply ak | apply ah | apply au) | exact HB.out)) hb);clear HB;have HB:=eP;clear eP;(try clear hb);(try clear hb2);(try clear hk);(try clear hi)))
  go_ret
  exact ⟨by first | rfl | (simp [aI,aJ] <;> rfl) | (simp [*,aI,aJ] <;> rfl),by repeat (first | (with_reducible first | exact HB.out | apply ak | apply ah | apply au) | exact HB.out)⟩
 ·replace c3:=Bool.eq_false_iff.mpr c3
  subst c3
  have H1:(some (⟨#[]⟩:ByteArray)) = some r:=by rw [if_neg (show ¬ (false = true) by decide)] at H;exact H
  clear H
  have H:=H1
  clear H1
  obtain rfl:=Option.some.inj H
  go_enter Try.func48,Try.ntmps48
  go_wp2_with (first | ((with_reducible refine aU (f:=70) rfl ?_);refine bP (some 4) rfl rfl Try.func70 (by kernel_rfl) rfl #[.string a0] rfl (by (try simp only [List.map_toArray,List.map_cons,List.map_nil]);first | done | rfl | (simp only [List.length_drop,List.length_take];rfl) | (simp only [ByteArray.size_append,Int.natCast_add];rfl) | (rw [B.dX] <;> first | rfl | omega | (simp only [decide_eq_false_iff_not,decide_eq_true_eq,Int.not_lt,Nat.not_lt,gt_iff_lt] at * <;> omega))) ?_;(with_reducible refine (iQ.calls k a0 false _ A2.out).mono ?_);rintro e w7 ⟨rfl,hb⟩;refine ⟨_,rfl,?_⟩;have eP:=aj.mk (bI (by repeat (first | (with_reducible first | exact HB.out | apply ak | apply ah | apply au) | exact HB.out)) hb);clear HB;have HB:=eP;clear eP;(try clear hb);(try clear hb2);(try clear hk);(try clear hi)))
  go_ret
  exact ⟨by first | rfl | (simp [aI,aJ] <;> rfl) | (simp [*,aI,aJ] <;> rfl),by repeat (first | (with_reducible first | exact HB.out | apply ak | apply ah | apply au) | exact HB.out)⟩
end Go.Proofs.Ytfokaoeinpnagaa.ZQ
namespace Go.Proofs.Ytfokaoeinpnagaa.ZQ
open Go.RowKit Go.Proofs.YtfokaoeinpnagaaW.bE Go.Proofs.YtfokaoeinpnagaaW.dB Go.Proofs.YtfokaoeinpnagaaW.dU
attribute [local go_sem] jA jB kG kH iI iJ jC jD
mutual
def aM.j0 : Nat → ByteArray → List ByteArray → Bool → Option (List ByteArray × Bool)
 | 0,_,_,_=>none
 | k + 1,x0,x4,QJ=>if QJ = true then (some (([]:List ByteArray),false)) else (aM.l0 k x0 x4 0)
def aM.l0 : Nat → ByteArray → List ByteArray → Int → Option (List ByteArray × Bool)
 | 0,_,_,_=>none
 | k + 1,x0,x4,x5=>if x5 < (x0.size:Int) then (if 0 ≤ x5 then (if (wrap64 (bt x0 x5)) = 0 then (some (x4,(x5 == (wrap64 ((x0.size:Int) - 1))))) else (if (wrap64 (bt x0 x5)) > 63 then (some (([]:List ByteArray),false)) else (if (wrap64 (bt x0 x5)) ≥ (wrap64 ((x0.size:Int) - x5)) then (some (([]:List ByteArray),false)) else (if 0 ≤ (wrap64 (x5 + 1)) then (if (wrap64 (x5 + 1)) ≤ (wrap64 ((wrap64 (x5 + 1)) + (wrap64 (bt x0 x5)))) then (if (wrap64 ((wrap64 (x5 + 1)) + (wrap64 (bt x0 x5)))) ≤ (x0.size:Int) then (if x4.length < 8796093022208 then (aM.l0 k x0 (x4 ++ [x0.extract ((wrap64 (x5 + 1)):Int).toNat ((wrap64 ((wrap64 (x5 + 1)) + (wrap64 (bt x0 x5)))):Int).toNat]) (wrap64 ((wrap64 (x5 + 1)) + (wrap64 (bt x0 x5))))) else (none)) else (none)) else (none)) else (none))))) else (none)) else (some (([]:List ByteArray),false))
end
def aM.f (k:Nat) (a0:ByteArray):Option (List ByteArray × Bool):=if (a0.size:Int) < 1 then (aM.j0 k a0 ([]:List ByteArray) true) else (aM.j0 k a0 ([]:List ByteArray) (decide ((a0.size:Int) > 255)))
set_option maxHeartbeats 8000000 in
set_option maxRecDepth 100000 in
theorem aM.calls (k:Nat) (a0:ByteArray) (r1:List ByteArray) (r2:Bool) (w:World) (h:aM.f k a0 = some (r1,r2)) :
  Calls Try.prog 46 #[.string a0] w fun e w'=>∃ Ny:Value,e = .returned (.tuple #[Ny,.bool r2]) ∧ Kd.R Kd.string 9 w' w.heap.size (fun _=>True) Ny r1 ∧ Below w.heap.size w w':=by
 have HB:=aj.mk (Below.refl w.heap.size w)
 have H:(if (a0.size:Int) < 1 then (aM.j0 k a0 ([]:List ByteArray) true) else (aM.j0 k a0 ([]:List ByteArray) (decide ((a0.size:Int) > 255)))) = some (r1,r2):=h
 clear h
 have WA:=aj.mk H
 clear H
 go_enter Try.func46,Try.ntmps46
 go_upto_region 2 with (fail)
 go_cut [14] (fun v14 wc=>∃ (kq:Nat) (bO:Bool),v14 = .bool bO ∧ aj (aM.j0 kq a0 ([]:List ByteArray) bO = some (r1,r2)) ∧ aj (kq ≤ k) ∧ aj (Kd.R Kd.string 9 wc w.heap.size (fun _=>True) (.slice none 0 0) ([]:List ByteArray)) ∧ aj (Below w.heap.size w wc))
 case first =>
  have H:=WA.out
  clear WA
  by_cases c3:(a0.size:Int) < 1
  ·rw [if_pos c3] at H
   have qX:decide ((a0.size:Int) < 1) = true:=decide_eq_true c3
   have CQ:decide (a0.size < 1) = true:=decide_eq_true (by omega)
   clear c3
   (first | rw [qX] | rw [NH] | (simp only [gV,iB];rw [qX]) | skip)
   have H':=aj.mk H
   clear H
   go_wp2
   go_meet
   case rel=>exact ⟨_,(true),(by first | rfl | (simp;done) | (simp [*];done) | (simp [B.aX];done) | (simp [B.aY];done)),H',⟨by first | omega | exact Nat.le_refl _⟩,⟨by first | exact Kd.jM _ _ _ _ _ | exact Kd.lD _ _ _ _ _ | exact Kd.lF _ _ _ _ _ | exact Kd.lu _ _ _ _ _ | exact Kd.lC _ _ _ _ _⟩,⟨by repeat (first | (with_reducible first | exact HB.out | apply ak | apply ah | apply au) | exact HB.out)⟩⟩
  ·rw [if_neg c3] at H
   have qX:decide ((a0.size:Int) < 1) = false:=decide_eq_false c3
   have CQ:decide (a0.size < 1) = false:=decide_eq_false (by omega)
   clear c3
   (first | rw [qX] | rw [NH] | (simp only [gV,iB];rw [qX]) | skip)
   have H':=aj.mk H
   clear H
   go_wp2
   go_meet
   case rel=>exact ⟨_,(decide ((a0.size:Int) > 255)),(by first | rfl | (simp;done) | (simp [*];done) | (simp [B.aX];done) | (simp [B.aY];done)),H',⟨by first | omega | exact Nat.le_refl _⟩,⟨by first | exact Kd.jM _ _ _ _ _ | exact Kd.lD _ _ _ _ _ | exact Kd.lF _ _ _ _ _ | exact Kd.lu _ _ _ _ _ | exact Kd.lC _ _ _ _ _⟩,⟨by repeat (first | (with_reducible first | exact HB.out | apply ak | apply ah | apply au) | exact HB.out)⟩⟩
 case rest =>
  clear WA
  try clear p2
  try clear c3
  try clear qX
  try clear CQ
  try clear NH
  obtain ⟨kq,bO,rfl,HA,HJ1,qV,HB⟩:=hcut
  cases kq with
  | zero=>exact absurd HA.out (by simp [aM.j0])
  | succ kj1 =>
   have H:=HA.out
   clear HA
   simp only [aM.j0] at H
   by_cases c4:bO = true
   ·subst c4
    have H1:(some (([]:List ByteArray),false)) = some (r1,r2):=by rw [if_pos rfl] at H;exact H
    clear H
    have H:=H1
    clear H1
    simp only [Option.some.injEq,Prod.mk.injEq] at H
    obtain ⟨rfl,rfl⟩:=H
    go_wp2
    go_ret2
    exact ⟨_,by first | rfl | (simp [aI,aJ] <;> rfl) | (simp [*,aI,aJ] <;> rfl),by first | exact Kd.jM _ _ _ _ _ | exact Kd.lD _ _ _ _ _ | exact Kd.lF _ _ _ _ _ | exact Kd.lu _ _ _ _ _ | exact Kd.lC _ _ _ _ _,by repeat (first | (with_reducible first | exact HB.out | apply ak | apply ah | apply au) | exact HB.out)⟩
   ·replace c4:=Bool.eq_false_iff.mpr c4
    subst c4
    have H1:(aM.l0 kj1 a0 ([]:List ByteArray) 0) = some (r1,r2):=by rw [if_neg (show ¬ (false = true) by decide)] at H;exact H
    clear H
    have H:=H1
    clear H1
    have H':=aj.mk H
    clear H
    go_wp2
    go_loopg [4,5] kj1 (fun kq v4 v5 w'=>∃ (EP:List ByteArray) (eZ:Int),v5 = .int .i64 eZ ∧ aj (aM.l0 kq a0 EP eZ = some (r1,r2)) ∧ aj (kq ≤ kj1) ∧ aj (Kd.R Kd.string 9 w' w.heap.size (fun _=>True) v4 EP) ∧ aj (Below w.heap.size w w'))
    case atStart=>exact ⟨(([]:List ByteArray)),(0),(by first | rfl | (simp;done) | (simp [*];done) | (simp [B.aX];done) | (simp [B.aY];done)),H',⟨Nat.le_refl _⟩,⟨by (with_reducible repeat (first | apply Kd.fJ | apply Kd.gy | apply Kd.gI));exact qV.out⟩,⟨by repeat (first | (with_reducible first | exact HB.out | apply ak | apply ah | apply au) | exact HB.out)⟩⟩
    case round =>
     clear H'
     try clear p2
     try clear c3
     try clear qX
     try clear CQ
     try clear NH
     try clear c4
     try clear p2
     obtain ⟨EP,eZ,rfl,HA,TY,qV,HB⟩:=hrel
     cases gk with
     | zero=>exact absurd HA.out (by simp [aM.l0])
     | succ k2 =>
      have H:=HA.out
      clear HA
      simp only [aM.l0] at H
      by_cases c5:eZ < (a0.size:Int)
      ·rw [if_pos c5] at H
       have qg:decide (eZ < (a0.size:Int)) = true:=decide_eq_true c5
       clear c5
       by_cases c6:0 ≤ eZ
       ·rw [if_pos c6] at H
        have Ab:decide (0 ≤ eZ) = true:=decide_eq_true c6
        clear c6
        by_cases c8:(wrap64 (bt a0 eZ)) = 0
        ·rw [if_pos c8] at H
         have vG:((wrap64 (bt a0 eZ)) == 0) = true:=beq_iff_eq.mpr c8
         have vH:((wrap64 (bt a0 eZ)) != 0) = false:=bne_eq_false_iff_eq.mpr c8
         (try (have NI:(((bt a0 eZ)) == 0) = true:=by have h_:((wrap64 (bt a0 eZ)) == 0) = true:=beq_iff_eq.mpr c8;rw [B.dX (by omega) (by omega)] at h_;exact h_))
         (try (have aaE:(((bt a0 eZ)) != 0) = false:=by have h_:((wrap64 (bt a0 eZ)) != 0) = false:=bne_eq_false_iff_eq.mpr c8;rw [B.dX (by omega) (by omega)] at h_;exact h_))
         clear c8
         simp only [Option.some.injEq,Prod.mk.injEq] at H
         obtain ⟨rfl,rfl⟩:=H
         have p7:0 ≤ (eZ:Int):=of_decide_eq_true (by first | (with_reducible assumption) | assumption)
         have q7:eZ < (a0.size:Int):=of_decide_eq_true (by first | (with_reducible assumption) | assumption)
         have hx7:=nW a0 eZ
         replace p7:=eq_true p7
         replace q7:=eq_true q7
         go_wp2
         go_ret2
         exact ⟨_,by first | rfl | (simp [aI,aJ] <;> rfl) | (simp [*,aI,aJ] <;> rfl),by (with_reducible repeat (first | apply Kd.fJ | apply Kd.gy | apply Kd.gI));exact qV.out,by repeat (first | (with_reducible first | exact HB.out | apply ak | apply ah | apply au) | exact HB.out)⟩
        ·rw [if_neg c8] at H
         have vG:((wrap64 (bt a0 eZ)) == 0) = false:=beq_eq_false_iff_ne.mpr c8
         have vH:((wrap64 (bt a0 eZ)) != 0) = true:=bne_iff_ne.mpr c8
         (try (have NI:(((bt a0 eZ)) == 0) = false:=by have h_:((wrap64 (bt a0 eZ)) == 0) = false:=beq_eq_false_iff_ne.mpr c8;rw [B.dX (by omega) (by omega)] at h_;exact h_))
         (try (have aaE:(((bt a0 eZ)) != 0) = true:=by have h_:((wrap64 (bt a0 eZ)) != 0) = true:=bne_iff_ne.mpr c8;rw [B.dX (by omega) (by omega)] at h_;exact h_))
         by_cases c9:(wrap64 (bt a0 eZ)) > 63
         ·rw [if_pos c9] at H
          have uy:decide (63 < (wrap64 (bt a0 eZ))) = true:=decide_eq_true c9
          (try (have EN:decide (63 < ((bt a0 eZ))) = true:=by have h_:decide (63 < (wrap64 (bt a0 eZ))) = true:=decide_eq_true c9;rw [B.dX (by omega) (by omega)] at h_;exact h_))
          clear c9
          simp only [Option.some.injEq,Prod.mk.injEq] at H
          obtain ⟨rfl,rfl⟩:=H
          have p7:0 ≤ (eZ:Int):=of_decide_eq_true (by first | (with_reducible assumption) | assumption)
          have q7:eZ < (a0.size:Int):=of_decide_eq_true (by first | (with_reducible assumption) | assumption)
          have hx7:=nW a0 eZ
          replace p7:=eq_true p7
          replace q7:=eq_true q7
          go_wp2
          go_ret2
          exact ⟨_,by first | rfl | (simp [aI,aJ] <;> rfl) | (simp [*,aI,aJ] <;> rfl),by first | exact Kd.jM _ _ _ _ _ | exact Kd.lD _ _ _ _ _ | exact Kd.lF _ _ _ _ _ | exact Kd.lu _ _ _ _ _ | exact Kd.lC _ _ _ _ _,by repeat (first | (with_reducible first | exact HB.out | apply ak | apply ah | apply au) | exact HB.out)⟩
         ·rw [if_neg c9] at H
          have uy:decide (63 < (wrap64 (bt a0 eZ))) = false:=decide_eq_false c9
          (try (have EN:decide (63 < ((bt a0 eZ))) = false:=by have h_:decide (63 < (wrap64 (bt a0 eZ))) = false:=decide_eq_false c9;rw [B.dX (by omega) (by omega)] at h_;exact h_))
          clear c9
          by_cases c10:(wrap64 (bt a0 eZ)) ≥ (wrap64 ((a0.size:Int) - eZ))
          ·rw [if_pos c10] at H
           have rG:decide ((wrap64 ((a0.size:Int) - eZ)) ≤ (wrap64 (bt a0 eZ))) = true:=decide_eq_true c10
           (try (have Ba:decide ((((a0.size:Int) - eZ)) ≤ ((bt a0 eZ))) = true:=by have h_:decide ((wrap64 ((a0.size:Int) - eZ)) ≤ (wrap64 (bt a0 eZ))) = true:=decide_eq_true c10;rw [B.dX (by omega) (by omega)] at h_;rw [B.dX (by omega) (by omega)] at h_;exact h_))
           clear c10
           simp only [Option.some.injEq,Prod.mk.injEq] at H
           obtain ⟨rfl,rfl⟩:=H
           have p7:0 ≤ (eZ:Int):=of_decide_eq_true (by first | (with_reducible assumption) | assumption)
           have q7:eZ < (a0.size:Int):=of_decide_eq_true (by first | (with_reducible assumption) | assumption)
           have hx7:=nW a0 eZ
           replace p7:=eq_true p7
           replace q7:=eq_true q7
           go_wp2
           go_ret2
           exact ⟨_,by first | rfl | (simp [aI,aJ] <;> rfl) | (simp [*,aI,aJ] <;> rfl),by first | exact Kd.jM _ _ _ _ _ | exact Kd.lD _ _ _ _ _ | exact Kd.lF _ _ _ _ _ | exact Kd.lu _ _ _ _ _ | exact Kd.lC _ _ _ _ _,by repeat (first | (with_reducible first | exact HB.out | apply ak | apply ah | apply au) | exact HB.out)⟩
          ·rw [if_neg c10] at H
           have rG:decide ((wrap64 ((a0.size:Int) - eZ)) ≤ (wrap64 (bt a0 eZ))) = false:=decide_eq_false c10
           (try (have Ba:decide ((((a0.size:Int) - eZ)) ≤ ((bt a0 eZ))) = false:=by have h_:decide ((wrap64 ((a0.size:Int) - eZ)) ≤ (wrap64 (bt a0 eZ))) = false:=decide_eq_false c10;rw [B.dX (by omega) (by omega)] at h_;rw [B.dX (by omega) (by omega)] at h_;exact h_))
           clear c10
           obtain ⟨l9,IE⟩:∃ j_:Int,(wrap64 (eZ + 1)) = j_:=⟨_,rfl⟩
           replace H:(if 0 ≤ (l9) then (if (l9) ≤ (wrap64 ((l9) + (wrap64 (bt a0 eZ)))) then (if (wrap64 ((l9) + (wrap64 (bt a0 eZ)))) ≤ (a0.size:Int) then (if EP.length < 8796093022208 then (aM.l0 k2 a0 (EP ++ [a0.extract ((l9):Int).toNat ((wrap64 ((l9) + (wrap64 (bt a0 eZ)))):Int).toNat]) (wrap64 ((l9) + (wrap64 (bt a0 eZ))))) else (none)) else (none)) else (none)) else (none)) = some (r1,r2):=by first | (rw [IE] at H;exact H) | (simp only [IE] at H ⊢;exact H)
           have afO:(IntKind.i64.wrap (eZ + 1)) = l9:=(gV _).trans IE
           by_cases c12:0 ≤ (l9)
           ·rw [if_pos c12] at H
            have uz:=eq_true c12
            have uD:decide (0 ≤ (l9)) = true:=decide_eq_true c12
            clear c12
            by_cases c13:(l9) ≤ (wrap64 ((l9) + (wrap64 (bt a0 eZ))))
            ·rw [if_pos c13] at H
             have ahg:=eq_true c13
             have ahh:decide ((l9) ≤ (wrap64 ((l9) + (wrap64 (bt a0 eZ))))) = true:=decide_eq_true c13
             by_cases c14:(wrap64 ((l9) + (wrap64 (bt a0 eZ)))) ≤ (a0.size:Int)
             ·rw [if_pos c14] at H
              have IG:=eq_true c14
              have T9:decide ((wrap64 ((l9) + (wrap64 (bt a0 eZ)))) ≤ (a0.size:Int)) = true:=decide_eq_true c14
              by_cases c15:EP.length < 8796093022208
              ·rw [if_pos c15] at H
               have aaF:=aj.mk c15
               clear c15
               obtain ⟨aaG,ER⟩:∃ y_:List ByteArray,y_ = (EP ++ [a0.extract ((l9):Int).toNat ((wrap64 ((l9) + (wrap64 (bt a0 eZ)))):Int).toNat]):=⟨_,rfl⟩
               replace H:(aM.l0 k2 a0 aaG (wrap64 ((l9) + (wrap64 (bt a0 eZ))))) = some (r1,r2):=by first | (rw [ER];with_reducible exact H) | (have GJ:=(Option.bind_some _ _).symm.trans H;rw [ER];with_reducible exact GJ) | (have GJ:=(Option.bind_some _ _).symm.trans H;with_reducible exact GJ) | with_reducible exact H | (rw [ER];exact H) | exact H
               have aaH:=aj.mk ER
               clear ER
               have H':=aj.mk H
               clear H
               have p7:0 ≤ (eZ:Int):=of_decide_eq_true (by first | (with_reducible assumption) | assumption)
               have q7:eZ < (a0.size:Int):=of_decide_eq_true (by first | (with_reducible assumption) | assumption)
               have hx7:=nW a0 eZ
               replace p7:=eq_true p7
               replace q7:=eq_true q7
               go_wp2_with (first | ((with_reducible refine oK (b:=.append) (xs:=#[.tmp 41,.tmp 50]) rfl ?_);(try (refine jE (by rfl) ?_;dsimp only));at_builtin;refine Kd.yT Kd.string (w0:=w) w.heap.size rfl (.tmp 41) (.tmp 50) 25 9 (.string ⟨#[]⟩) 16 rfl Try.underlying25 Iz rfl (by decide) (by omega) u4 EP (a0.extract ((l9):Int).toNat ((wrap64 ((l9) + (wrap64 (bt a0 eZ)))):Int).toNat) [.string (a0.extract ((l9):Int).toNat ((wrap64 ((l9) + (wrap64 (bt a0 eZ)))):Int).toNat)] (fun _=>True) (fun _=>False) rfl rfl ?aP (fun _ hk=>hk.elim) ?aF ?aO ?aB ?aS ?aL ?_;(case aP=>exact rfl);(case aB=>exact (by repeat (first | (with_reducible first | exact HB.out | apply ak | apply ah | apply au) | exact HB.out)));(case aF=>exact (fun _ _=>trivial));(case aO=>exact (by (with_reducible repeat (first | apply Kd.fJ | apply Kd.gy | apply Kd.gI));exact qV.out));(case aS=>exact (bK (by repeat (first | (with_reducible first | exact HB.out | apply ak | apply ah | apply au) | exact HB.out))));(case aL=>have:=aaF.out;omega);intro aiq w16 ho hb hg hat;rw [← aaH.out] at ho;have eP:=aj.mk (hb);have iE:=aj.mk (ho);clear HB;clear qV;have HB:=eP;have aaI:=iE;clear eP iE;clear ho hb hg hat))
               go_roundg k2
               case measure=>have:=HJ1.out;have:=TY.out;omega
               case rel=>exact ⟨(aaG),(wrap64 ((l9) + (wrap64 (bt a0 eZ)))),(by first | rfl | (simp;done) | (simp only [← IE] <;> (first | rfl | simp)) | (simp [*];done)),H',⟨by have:=HJ1.out;have:=TY.out;omega⟩,⟨by (with_reducible repeat (first | apply Kd.fJ | apply Kd.gy | apply Kd.gI));exact aaI.out⟩,⟨by repeat (first | (with_reducible first | exact HB.out | apply ak | apply ah | apply au) | exact HB.out)⟩⟩
              ·rw [if_neg c15] at H
               exact absurd H (by simp)
             ·rw [if_neg c14] at H
              exact absurd H (by simp)
            ·rw [if_neg c13] at H
             exact absurd H (by simp)
           ·rw [if_neg c12] at H
            exact absurd H (by simp)
       ·rw [if_neg c6] at H
        exact absurd H (by simp)
      ·rw [if_neg c5] at H
       have qg:decide (eZ < (a0.size:Int)) = false:=decide_eq_false c5
       clear c5
       simp only [Option.some.injEq,Prod.mk.injEq] at H
       obtain ⟨rfl,rfl⟩:=H
       go_wp2
       go_ret2
       exact ⟨_,by first | rfl | (simp [aI,aJ] <;> rfl) | (simp [*,aI,aJ] <;> rfl),by first | exact Kd.jM _ _ _ _ _ | exact Kd.lD _ _ _ _ _ | exact Kd.lF _ _ _ _ _ | exact Kd.lu _ _ _ _ _ | exact Kd.lC _ _ _ _ _,by repeat (first | (with_reducible first | exact HB.out | apply ak | apply ah | apply au) | exact HB.out)⟩
def dz.f (k:Nat) (a0:ByteArray):Option (Bool):=(aM.f k a0).bind fun NJ=>(some NJ.2)
set_option maxHeartbeats 8000000 in
set_option maxRecDepth 100000 in
theorem dz.calls (k:Nat) (a0:ByteArray) (r:Bool) (w:World) (h:dz.f k a0 = some r) :
  Calls Try.prog 24 #[.string a0] w fun e w'=>e = .returned (.bool r) ∧ Below w.heap.size w w':=by
 have HB:=aj.mk (Below.refl w.heap.size w)
 have H:((aM.f k a0).bind fun NJ=>(some NJ.2)) = some r:=h
 clear h
 replace H:=zbm H
 obtain ⟨⟨afP,aaJ⟩,NG,H⟩:=H
 replace H:(some aaJ) = some r:=H
 have A2:=aj.mk NG
 clear NG
 obtain rfl:=Option.some.inj H
 go_enter Try.func24,Try.ntmps24
 go_wp2_with (first | ((with_reducible refine aU (f:=46) rfl ?_);refine bP (some 7) rfl rfl Try.func46 (by kernel_rfl) rfl #[.string a0] rfl (by (try simp only [List.map_toArray,List.map_cons,List.map_nil]);first | done | rfl | (simp only [List.length_drop,List.length_take];rfl) | (simp only [ByteArray.size_append,Int.natCast_add];rfl) | (rw [B.dX] <;> first | rfl | omega | (simp only [decide_eq_false_iff_not,decide_eq_true_eq,Int.not_lt,Nat.not_lt,gt_iff_lt] at * <;> omega))) ?_;(with_reducible refine (aM.calls k a0 afP aaJ _ A2.out).mono ?_);rintro e w3 ⟨air,rfl,ho0,hb⟩;refine ⟨_,rfl,?_⟩;have eP:=aj.mk (Kd.uf ho0 (bK (by repeat (first | (with_reducible first | exact HB.out | apply ak | apply ah | apply au) | exact HB.out))));have iE:=aj.mk (bI (by repeat (first | (with_reducible first | exact HB.out | apply ak | apply ah | apply au) | exact HB.out)) hb);clear HB;have ahi:=eP;have HB:=iE;clear eP iE;(try clear hb);(try clear hb2);(try clear hk);(try clear hi);(try clear ho0)))
 go_ret
 exact ⟨by first | rfl | (simp [aI,aJ] <;> rfl) | (simp [*,aI,aJ] <;> rfl),by repeat (first | (with_reducible first | exact HB.out | apply ak | apply ah | apply au) | exact HB.out)⟩
def cu.f (a0:ByteArray):Option ByteArray:=if a0.size ≤ 140737488355328 then some (B.jU a0) else none
set_option maxHeartbeats 8000000 in
set_option maxRecDepth 100000 in
theorem cu.calls (a0:ByteArray) (r:ByteArray) (w:World) (h:cu.f a0 = some r) :
  Calls Try.prog 64 #[.string a0] w fun e w'=>e = .returned (.string r) ∧ Below w.heap.size w w':=by
 unfold cu.f at h
 by_cases hs:a0.size ≤ 140737488355328
 ·rw [if_pos hs] at h
  obtain rfl:=Option.some.inj h
  clear h
  have kc:=fun (W:World)=>Lib.run_convert_string_bytes (P:=Try.prog) W 9 151 5 a0 Try.underlying9 Try.underlying151 Try.underlying5
  have hb0:=aj.mk (B.y8 (Below.refl w.heap.size w) (Nat.le_refl _) 5 a0)
  have hr0:=aj.mk (B.y7 w 5 a0)
  go_enter Try.func64,Try.ntmps64
  go_wp2
  generalize Lib.bytesWorld w 5 a0 = w1 at hb0 hr0 ⊢
  generalize grownCap w a0.size 0 5 = C
  have hz:=aj.mk (B.numsOf_length a0)
  have hg:=aj.mk (Nat.le_refl w.heap.size)
  generalize hgg:w.heap.size = g at hb0 hr0 hg ⊢
  have hg':=aj.mk hgg
  clear hgg
  go_loopw [4] (fun v wr=>∃ k:Nat,k ≤ a0.size ∧ v = .int .i64 k ∧ aj (B.wu wr g (B.iW k (B.numsOf a0))) ∧ aj (Below g w wr)) (fun v _=>a0.size - (intOf v).toNat)
  case atStart=>exact ⟨0,Nat.zero_le _,rfl,⟨by rw [B.y5];exact hr0.out⟩,hb0⟩
  case round =>
   obtain ⟨k,hk,rfl,hrow,hbel⟩:=hrel
   clear hr0 hb0 kc
   by_cases hlt:k < a0.size
   ·have hkl:k < (B.numsOf a0).length:=by rw [hz.out];exact hlt
    have hc:=(hrow.out k (by rw [B.gQ];exact hkl))
    rw [B.EG k _ hkl,B.numsOf_at] at hc
    obtain ⟨hc1,hc2⟩:=hc
    have hrange:=B.AY a0 k
    have hset:=aj.mk (B.rowAt_set hrow.out k (B.iC (bt a0 k)) (by rw [B.gQ];exact hkl))
    have hset':=aj.mk (show B.wu (wr.setCell ⟨g,k,none⟩ (.int .u8 (B.iC (bt a0 k)))) g (B.iW (k + 1) (B.numsOf a0)) by
     have h1:=hset.out
     rw [← B.numsOf_at,B.vE k _ hkl] at h1
     rw [← B.numsOf_at]
     exact h1)
    have lH:=aj.mk (hbel.out.setCell (p:=⟨g,k,none⟩) (Nat.le_refl _) (.int .u8 (B.iC (bt a0 k))))
    have hsame:=aj.mk (show B.iC (bt a0 k) = bt a0 k → B.wu wr g (B.iW (k + 1) (B.numsOf a0)) by
     intro he j hj
     have h1:=hrow.out j (by rw [B.gQ] at hj ⊢;exact hj)
     rw [← B.vE k _ hkl,B.numsOf_at,he]
     by_cases e:j = k
     ·subst e
      rw [List.getD_eq_getElem?_getD,List.getElem?_set_self (by rw [B.gQ];exact hkl)]
      exact ⟨hc1,hc2⟩
     ·rw [List.getD_eq_getElem?_getD,List.getElem?_set_ne (fun h=>e h.symm),← List.getD_eq_getElem?_getD]
      exact h1)
    clear hset hrow hkl
    generalize bt a0 k = c at *
    by_cases c1:65 ≤ c
    ·by_cases c2:c ≤ 90
     ·have d1:decide (65 ≤ c) = true:=decide_eq_true c1
      have d2:decide (c ≤ 90) = true:=decide_eq_true c2
      have e1:B.iC c = c + 32:=by unfold B.iC;rw [if_pos ⟨c1,c2⟩]
      have e2:(c + 32) % 256 = c + 32:=by omega
      rw [e1] at hset' lH
      have e2':=aj.mk e2
      clear hsame hbel e1 e2 c1 c2
      go_wp2
      all_goals
       go_roundw
       case rel=>exact ⟨k + 1,by omega,by go_num,⟨fun j hj=>by first | exact hset'.out j hj | (rw [e2'.out];exact hset'.out j hj)⟩,⟨by first | exact lH.out | (rw [e2'.out];exact lH.out) | exact ⟨lH.out.os,lH.out.tape,lH.out.output,lH.out.size,lH.out.block⟩⟩⟩
       case measure=>simp [intOf];omega
     ·have d1:decide (65 ≤ c) = true:=decide_eq_true c1
      have d2:decide (c ≤ 90) = false:=decide_eq_false c2
      have e1:B.iC c = c:=by unfold B.iC;rw [if_neg (by omega)]
      have hr2:=aj.mk (hsame.out e1)
      clear hsame hset' lH e1 c1 c2
      go_wp2
      go_roundw
      case rel=>exact ⟨k + 1,by omega,by go_num,hr2,hbel⟩
      case measure=>simp [intOf];omega
    ·have d1:decide (65 ≤ c) = false:=decide_eq_false c1
     have e1:B.iC c = c:=by unfold B.iC;rw [if_neg (by omega)]
     have hr2:=aj.mk (hsame.out e1)
     clear hsame hset' lH e1 c1
     go_wp2
     go_roundw
     case rel=>exact ⟨k + 1,by omega,by go_num,hr2,hbel⟩
     case measure=>simp [intOf];omega
   ·obtain rfl:k = a0.size:=by omega
    have hl:(B.iW a0.size (B.numsOf a0)).length = a0.size:=by rw [B.gQ];exact hz.out
    have kd:=fun (dst:TypeId) (hd:Try.prog.underlying dst = some .string)=>run_convert_bytes_arg (P:=Try.prog) wr 151 5 Try.underlying151 Try.underlying5 g 0 a0.size C (B.iW a0.size (B.numsOf a0)) hl (fun i hi=>by rw [Nat.zero_add];exact (hrow.out i (by rw [hl];exact hi)).1) dst hd
    replace kd:=kd 9 Try.underlying9
    have he:=aj.mk (show strOfNums (B.iW a0.size (B.numsOf a0)) = B.jU a0 by
     have:=B.AX (B.numsOf a0)
     rw [hz.out] at this
     rw [this];rfl)
    generalize strOfNums (B.iW a0.size (B.numsOf a0)) = q at kd he
    clear hrow hl hlt
    have he':=he.out
    clear he
    subst he'
    go_wp2
    go_ret
    exact ⟨rfl,by rw [hg'.out];exact hbel.out⟩
 ·rw [if_neg hs] at h
  exact absurd h (by simp)
def gM.f (k:Nat) (a0:ByteArray):Option (ByteArray):=(dz.f k a0).bind fun t117=>(if t117 = true then ((cu.f a0).bind fun Ac=>(some Ac)) else (some (⟨#[]⟩:ByteArray)))
set_option maxHeartbeats 8000000 in
set_option maxRecDepth 100000 in
theorem gM.calls (k:Nat) (a0:ByteArray) (r:ByteArray) (w:World) (h:gM.f k a0 = some r) :
  Calls Try.prog 37 #[.string a0] w fun e w'=>e = .returned (.string r) ∧ Below w.heap.size w w':=by
 have HB:=aj.mk (Below.refl w.heap.size w)
 have H:((dz.f k a0).bind fun t117=>(if t117 = true then ((cu.f a0).bind fun Ac=>(some Ac)) else (some (⟨#[]⟩:ByteArray)))) = some r:=h
 clear h
 replace H:=zbm H
 obtain ⟨t117,NG,H⟩:=H
 replace H:(if t117 = true then ((cu.f a0).bind fun Ac=>(some Ac)) else (some (⟨#[]⟩:ByteArray))) = some r:=H
 have A2:=aj.mk NG
 clear NG
 by_cases c3:t117 = true
 ·subst c3
  have H1:((cu.f a0).bind fun Ac=>(some Ac)) = some r:=by rw [if_pos rfl] at H;exact H
  clear H
  have H:=H1
  clear H1
  replace H:=zbm H
  obtain ⟨Ac,EO,H⟩:=H
  replace H:(some Ac) = some r:=H
  have A4:=aj.mk EO
  clear EO
  obtain rfl:=Option.some.inj H
  go_enter Try.func37,Try.ntmps37
  go_wp2_with (first | ((with_reducible refine aU (f:=24) rfl ?_);refine bP (some 4) rfl rfl Try.func24 (by kernel_rfl) rfl #[.string a0] rfl (by (try simp only [List.map_toArray,List.map_cons,List.map_nil]);first | done | rfl | (simp only [List.length_drop,List.length_take];rfl) | (simp only [ByteArray.size_append,Int.natCast_add];rfl) | (rw [B.dX] <;> first | rfl | omega | (simp only [decide_eq_false_iff_not,decide_eq_true_eq,Int.not_lt,Nat.not_lt,gt_iff_lt] at * <;> omega))) ?_;(with_reducible refine (dz.calls k a0 true _ A2.out).mono ?_);rintro e w5 ⟨rfl,hb⟩;refine ⟨_,rfl,?_⟩;have eP:=aj.mk (bI (by repeat (first | (with_reducible first | exact HB.out | apply ak | apply ah | apply au) | exact HB.out)) hb);clear HB;have HB:=eP;clear eP;(try clear hb);(try clear hb2);(try clear hk);(try clear hi)) | ((with_reducible refine aU (f:=64) rfl ?_);refine bP (some 7) rfl rfl Try.func64 (by kernel_rfl) rfl #[.string a0] rfl (by (try simp only [List.map_toArray,List.map_cons,List.map_nil]);first | done | rfl | (simp only [List.length_drop,List.length_take];rfl) | (simp only [ByteArray.size_append,Int.natCast_add];rfl) | (rw [B.dX] <;> first | rfl | omega | (simp only [decide_eq_false_iff_not,decide_eq_true_eq,Int.not_lt,Nat.not_lt,gt_iff_lt] at * <;> omega))) ?_;(with_reducible refine (cu.calls a0 Ac _ A4.out).mono ?_);rintro e w6 ⟨rfl,hb⟩;refine ⟨_,rfl,?_⟩;have eP:=aj.mk (bI (by repeat (first | (with_reducible first | exact HB.out | apply ak | apply ah | apply au) | exact HB.out)) hb);clear HB;have HB:=eP;clear eP;(try clear hb);(try clear hb2);(try clear hk);(try clear hi)))
  go_ret
  exact ⟨by first | rfl | (simp [aI,aJ] <;> rfl) | (simp [*,aI,aJ] <;> rfl),by repeat (first | (with_reducible first | exact HB.out | apply ak | apply ah | apply au) | exact HB.out)⟩
 ·replace c3:=Bool.eq_false_iff.mpr c3
  subst c3
  have H1:(some (⟨#[]⟩:ByteArray)) = some r:=by rw [if_neg (show ¬ (false = true) by decide)] at H;exact H
  clear H
  have H:=H1
  clear H1
  obtain rfl:=Option.some.inj H
  go_enter Try.func37,Try.ntmps37
  go_wp2_with (first | ((with_reducible refine aU (f:=24) rfl ?_);refine bP (some 4) rfl rfl Try.func24 (by kernel_rfl) rfl #[.string a0] rfl (by (try simp only [List.map_toArray,List.map_cons,List.map_nil]);first | done | rfl | (simp only [List.length_drop,List.length_take];rfl) | (simp only [ByteArray.size_append,Int.natCast_add];rfl) | (rw [B.dX] <;> first | rfl | omega | (simp only [decide_eq_false_iff_not,decide_eq_true_eq,Int.not_lt,Nat.not_lt,gt_iff_lt] at * <;> omega))) ?_;(with_reducible refine (dz.calls k a0 false _ A2.out).mono ?_);rintro e w7 ⟨rfl,hb⟩;refine ⟨_,rfl,?_⟩;have eP:=aj.mk (bI (by repeat (first | (with_reducible first | exact HB.out | apply ak | apply ah | apply au) | exact HB.out)) hb);clear HB;have HB:=eP;clear eP;(try clear hb);(try clear hb2);(try clear hk);(try clear hi)))
  go_ret
  exact ⟨by first | rfl | (simp [aI,aJ] <;> rfl) | (simp [*,aI,aJ] <;> rfl),by repeat (first | (with_reducible first | exact HB.out | apply ak | apply ah | apply au) | exact HB.out)⟩
end Go.Proofs.Ytfokaoeinpnagaa.ZQ
namespace Go.Proofs.Ytfokaoeinpnagaa.ZQ
open Go.RowKit Go.Proofs.YtfokaoeinpnagaaW.bE Go.Proofs.YtfokaoeinpnagaaW.dB Go.Proofs.YtfokaoeinpnagaaW.dU Go.Proofs.Ytfokaoeinpnagaa.B
theorem nE {n:ByteArray}:n.toList = ([0]:List UInt8) ↔ n = root:=by
 have:root.toList = ([0]:List UInt8):=by rw [Lib.toList_data];rfl
 rw [← this,toList_inj]
theorem NK (d:Nat):∀ (k:Nat) (n:ByteArray) (acc:List ByteArray),n.size ≤ d → 1 ≤ n.size → d ≤ 255 → acc.length + d ≤ 1000 → 2 * d + 2 ≤ k →
  bM.l0 k n acc = some (match jV n.size n with | some l=>(acc ++ l,true) | none=>([],false)):=by
 induction d with
 | zero=>intro k n acc h1 h2;omega
 | succ d ih =>
  intro k n acc h1 h2 h3 h4 hk
  obtain ⟨k,rfl⟩:∃ m,k = m + 2:=⟨k - 2,by omega⟩
  rw [bM.l0,if_pos (by omega),bM.j1,za h2]
  by_cases hr:n = root
  ·have hb:(n.toList != ([0]:List UInt8)) = false:=bne_eq_false_iff_eq.mpr (nE.mpr hr)
   have hb2:(n.toList == ([0]:List UInt8)) = true:=beq_iff_eq.mpr (nE.mpr hr)
   rw [hb,if_neg Bool.false_ne_true,if_pos hr,hb2]
   simp
  ·have hb:(n.toList != ([0]:List UInt8)) = true:=bne_iff_ne.mpr fun h=>hr (nE.mp h)
   have hbr:=gB n 0
   rw [hb,if_pos rfl,if_pos (by omega),if_neg hr,dX (n:=bt n 0) (by omega) (by omega),dX (n:=bt n 0 + 1) (by omega) (by omega),dX (n:=1 + bt n 0) (by omega) (by omega)]
   by_cases c1:bt n 0 < 1
   ·rw [if_pos c1,if_neg (by omega)]
   ·rw [if_neg c1]
    by_cases c2:bt n 0 > 63
    ·rw [if_pos c2,if_neg (by omega)]
    ·rw [if_neg c2]
     by_cases c3:bt n 0 + 1 ≥ (n.size:Int)
     ·rw [if_pos c3,if_neg (by omega)]
     ·rw [if_neg c3,if_pos (by omega),if_pos (by omega),if_pos (by omega),if_pos (by omega),if_pos (by omega)]
      have e:(1 + bt n 0).toNat = 1 + (bt n 0).toNat:=by omega
      rw [e,ih k _ _ (by rw [ByteArray.size_extract];omega) (by rw [ByteArray.size_extract];omega) (by omega) (by simp;omega) (by omega)]
      cases jV (n.extract (1 + (bt n 0).toNat) n.size).size (n.extract (1 + (bt n 0).toNat) n.size) with
      | none=>rfl
      | some l=>simp
def CS (n:ByteArray):List ByteArray × Bool:=match uq n with | some l=>(l,true) | none=>([],false)
theorem NM (k:Nat) (hk:600 ≤ k) (n:ByteArray) (hs:n.size ≤ 1000000000):bM.f k n = some (CS n):=by
 unfold bM.f CS uq
 by_cases h:n.size ≤ 255
 ·rw [if_neg (by omega),if_pos h]
  by_cases h0:n.size = 0
  ·obtain ⟨k,rfl⟩:∃ m,k = m + 2:=⟨k - 2,by omega⟩
   have hb2:(n.toList == ([0]:List UInt8)) = false:=beq_eq_false_iff_ne.mpr fun h=>by rw [nE] at h;rw [h,iK] at h0;omega
   rw [bM.l0,if_neg (by omega),bM.j1,if_neg Bool.false_ne_true,hb2,jV,if_pos h0]
  ·rw [NK 255 k n [] h (by omega) (by omega) (by simp) (by omega),y9 255 n h]
   simp
 ·rw [if_pos (by omega),if_neg h]
theorem GK (n:ByteArray):(CS n).2 = jc n:=by
 unfold CS jc
 cases uq n <;> rfl
theorem ES (k:Nat) (hk:600 ≤ k) (n:ByteArray) (hs:n.size ≤ 1000000000):iQ.f k n = some (jc n):=by
 unfold iQ.f
 rw [NM k hk n hs]
 simp only [Option.bind_some,GK]
theorem WB (n:ByteArray) (hs:n.size ≤ 1000000000):iX.f n = some (jU n):=by unfold iX.f;rw [if_pos (by omega)]
theorem NP (n:ByteArray) (hs:n.size ≤ 1000000000):cu.f n = some (jU n):=by unfold cu.f;rw [if_pos (by omega)]
theorem zh (a b:ByteArray):(a.toList == b.toList) = decide (a = b):=by
 rw [Bool.eq_iff_iff]
 simp only [beq_iff_eq,decide_eq_true_eq]
 exact toList_inj
theorem NQ (n:ByteArray):n.extract 0 n.size = n:=ByteArray.extract_zero_size
theorem Kh (d:Nat):∀ (k:Nat) (n:ByteArray) (i:Nat) (acc:List ByteArray),i < n.size → n.size - i ≤ d → n.size ≤ 255 → acc.length + d ≤ 1000 → d + 2 ≤ k →
  ∃ o,aM.l0 k n acc i = some o ∧ (match jV (n.extract i n.size).size (n.extract i n.size) with | some l=>o = (acc ++ l,true) | none=>o.2 = false):=by
 induction d with
 | zero=>intro k n i acc h1 h2;omega
 | succ d ih =>
  intro k n i acc h1 h2 h3 h4 hk
  obtain ⟨k,rfl⟩:∃ m,k = m + 1:=⟨k - 1,by omega⟩
  have hz:(n.extract i n.size).size = n.size - i:=by rw [ByteArray.size_extract];omega
  have hb:bt (n.extract i n.size) 0 = bt n i:=by
   rw [mP (by omega) (by rw [hz];omega)]
   congr 1
  have hbr:=gB n i
  rw [aM.l0,if_pos (by omega),if_pos (by omega),za (by rw [hz];omega),hb,dX (n:=bt n i) (by omega) (by omega)]
  by_cases c0:bt n i = 0
  ·rw [if_pos c0]
   refine ⟨_,rfl,?_⟩
   by_cases hr:n.extract i n.size = root
   ·have h5:=congrArg ByteArray.size hr
    rw [hz,iK] at h5
    rw [if_pos hr,dX (by omega) (by omega)]
    have:(i:Int) = (n.size:Int) - 1:=by omega
    simp [this]
   ·have h5:n.size - i ≠ 1:=by
     intro h6
     refine hr (CJ (by rw [hz,iK];exact h6) fun j j0 j1=>?_)
     rw [hz] at j1
     have:j = 0:=by omega
     subst this
     rw [hb,c0,CK]
    rw [if_neg hr,if_neg (by omega),dX (by omega) (by omega)]
    simp
    omega
  ·have hr:n.extract i n.size ≠ root:=by
    intro h5
    rw [h5,CK] at hb
    exact c0 hb.symm
   rw [if_neg c0,if_neg hr]
   by_cases c2:bt n i > 63
   ·rw [if_pos c2,if_neg (by omega)]
    exact ⟨_,rfl,rfl⟩
   ·rw [if_neg c2,dX (n:=(n.size:Int) - i) (by omega) (by omega)]
    by_cases c3:bt n i ≥ (n.size:Int) - i
    ·rw [if_pos c3,if_neg (by rw [hz];omega)]
     exact ⟨_,rfl,rfl⟩
    ·rw [if_neg c3,dX (n:=(i:Int) + 1) (by omega) (by omega),dX (n:=(i:Int) + 1 + bt n i) (by omega) (by omega),if_pos (by omega),if_pos (by omega),if_pos (by omega),if_pos (by omega)]
     have e:((i:Int) + 1 + bt n i) = ((i + 1 + (bt n i).toNat:Nat):Int):=by omega
     have e1:((i:Int) + 1).toNat = i + 1:=by omega
     rw [e,e1,Int.toNat_natCast]
     by_cases c4:i + 1 + (bt n i).toNat < n.size
     ·obtain ⟨o,ho,hm⟩:=ih k n (i + 1 + (bt n i).toNat) (acc ++ [n.extract (i + 1) (i + 1 + (bt n i).toNat)]) (by omega) (by omega) h3 (by simp;omega) (by omega)
      refine ⟨o,ho,?_⟩
      rw [if_pos (by rw [hz];omega)]
      have x1:(n.extract i n.size).extract 1 (1 + (bt n i).toNat) = n.extract (i + 1) (i + 1 + (bt n i).toNat):=by
       rw [ByteArray.extract_extract];congr 1;omega
      have x2:(n.extract i n.size).extract (1 + (bt n i).toNat) (n.extract i n.size).size = n.extract (i + 1 + (bt n i).toNat) n.size:=by
       rw [hz,ByteArray.extract_extract];congr 1 <;> omega
      rw [x1,x2]
      cases hl:jV (n.extract (i + 1 + (bt n i).toNat) n.size).size (n.extract (i + 1 + (bt n i).toNat) n.size) with
      | none=>rw [hl] at hm;simpa using hm
      | some l=>rw [hl] at hm;simpa using hm
     ·obtain ⟨k,rfl⟩:∃ m,k = m + 1:=⟨k - 1,by omega⟩
      rw [if_neg (by rw [hz];omega),aM.l0,if_neg (by omega)]
      exact ⟨_,rfl,rfl⟩
theorem Ki (k:Nat) (hk:600 ≤ k) (n:ByteArray) (hs:n.size ≤ 1000000000) :
  ∃ o,aM.f k n = some o ∧ (match uq n with | some l=>o = (l,true) | none=>o.2 = false):=by
 obtain ⟨k,rfl⟩:∃ m,k = m + 1:=⟨k - 1,by omega⟩
 unfold aM.f uq
 by_cases h0:n.size = 0
 ·rw [if_pos (by omega),aM.j0,if_pos rfl,if_pos (by omega),jV,if_pos h0]
  exact ⟨_,rfl,rfl⟩
 ·rw [if_neg (by omega)]
  by_cases h:n.size ≤ 255
  ·have hd:decide ((n.size:Int) > 255) = false:=decide_eq_false (by omega)
   rw [hd,aM.j0,if_neg Bool.false_ne_true,if_pos h,y9 255 n h]
   have:=Kh 255 k n 0 [] (by omega) (by omega) h (by simp) (by omega)
   rw [NQ] at this
   simpa using this
  ·have hd:decide ((n.size:Int) > 255) = true:=decide_eq_true (by omega)
   rw [hd,aM.j0,if_pos rfl,if_neg h]
   exact ⟨_,rfl,rfl⟩
theorem uE (k:Nat) (hk:600 ≤ k) (n:ByteArray) (hs:n.size ≤ 1000000000):dz.f k n = some (jc n):=by
 obtain ⟨o,ho,hm⟩:=Ki k hk n hs
 unfold dz.f jc
 rw [ho]
 simp only [Option.bind_some]
 cases hl:uq n with
 | none=>rw [hl] at hm;simpa using hm
 | some l=>rw [hl] at hm;simp at hm;rw [hm];rfl
end Go.Proofs.Ytfokaoeinpnagaa.ZQ
namespace Go.Proofs.Ytfokaoeinpnagaa.ZQ
open Go.RowKit Go.Proofs.YtfokaoeinpnagaaW.bE Go.Proofs.YtfokaoeinpnagaaW.dB Go.Proofs.YtfokaoeinpnagaaW.dU
attribute [local go_sem] jA jB kG kH iI iJ jC jD
def eX.f (a0:ByteArray) (a1:Int) (a2:Int):Option (ByteArray × Bool) :=
 if (a0.size:Int) ≤ 9223372036854775807 then
  (if 0 ≤ a1 ∧ 0 ≤ a2 ∧ a1 + a2 ≤ (a0.size:Int) then some (a0.extract a1.toNat (a1 + a2).toNat,true) else some ((⟨#[]⟩:ByteArray),false))
 else none
theorem eX.mid (s:ByteArray) (a b:Int) (h0:0 ≤ a) (h1:0 ≤ b) (h2:a + b ≤ (s.size:Int)) :
  (s.extract a.toNat s.size).extract 0 b.toNat = s.extract a.toNat (a + b).toNat:=by
 rw [ByteArray.extract_extract]
 congr 1
 omega
set_option maxHeartbeats 8000000 in
set_option maxRecDepth 100000 in
theorem eX.calls (a0:ByteArray) (a1:Int) (a2:Int) (r1:ByteArray) (r2:Bool) (w:World) (h:eX.f a0 a1 a2 = some (r1,r2)) :
  Calls Try.prog 94 #[.string a0,.int .i64 a1,.int .i64 a2] w fun e w'=>e = .returned (.tuple #[.string r1,.bool r2]) ∧ aW w w':=by
 unfold eX.f at h
 by_cases hs:(a0.size:Int) ≤ 9223372036854775807
 ·rw [if_pos hs] at h
  by_cases hc:0 ≤ a1 ∧ 0 ≤ a2 ∧ a1 + a2 ≤ (a0.size:Int)
  ·rw [if_pos hc] at h
   simp only [Option.some.injEq,Prod.mk.injEq] at h
   obtain ⟨rfl,rfl⟩:=h
   obtain ⟨h0,h1,h2⟩:=hc
   have hw:wrap64 ((a0.size:Int) - a1) = (a0.size:Int) - a1:=by unfold wrap64;omega
   have hm:=aj.mk (eX.mid a0 a1 a2 h0 h1 h2)
   have c1:decide (a1 < 0) = false:=decide_eq_false (by omega)
   have c2:decide (a2 < 0) = false:=decide_eq_false (by omega)
   have c3:decide ((a0.size:Int) < a1) = false:=decide_eq_false (by omega)
   have c4:decide (wrap64 ((a0.size:Int) - a1) < a2) = false:=decide_eq_false (by omega)
   have c5:=eq_true h0
   have c6:(a1 ≤ (a0.size:Int)) = True:=eq_true (by omega)
   have c7:=eq_true h1
   have c8:(a2 ≤ ((a0.extract a1.toNat a0.size).size:Int)) = True:=eq_true (by simp only [ByteArray.size_extract];omega)
   have c9:(a2 ≤ (a0.size:Int) - (a1.toNat:Int)) = True:=eq_true (by omega)
   have c10:(a2 ≤ ((a0.size - a1.toNat:Nat):Int)) = True:=eq_true (by omega)
   clear hs hw h0 h1 h2
   go_enter Try.func94,Try.ntmps94
   go_wp2
   go_ret2
   exact ⟨by rw [hm.out];rfl,by repeat (first | exact aW.refl _ | apply aW.step)⟩
  ·rw [if_neg hc] at h
   simp only [Option.some.injEq,Prod.mk.injEq] at h
   obtain ⟨rfl,rfl⟩:=h
   by_cases c1:a1 < 0
   ·have c1':decide (a1 < 0) = true:=decide_eq_true c1
    clear hs hc c1
    go_enter Try.func94,Try.ntmps94
    go_wp2
    go_ret2
    exact ⟨rfl,by repeat (first | exact aW.refl _ | apply aW.step)⟩
   ·by_cases c2:a2 < 0
    ·have c1':decide (a1 < 0) = false:=decide_eq_false c1
     have c2':decide (a2 < 0) = true:=decide_eq_true c2
     clear hs hc c1 c2
     go_enter Try.func94,Try.ntmps94
     go_wp2
     go_ret2
     exact ⟨rfl,by repeat (first | exact aW.refl _ | apply aW.step)⟩
    ·by_cases c3:(a0.size:Int) < a1
     ·have c1':decide (a1 < 0) = false:=decide_eq_false c1
      have c2':decide (a2 < 0) = false:=decide_eq_false c2
      have c3':decide ((a0.size:Int) < a1) = true:=decide_eq_true c3
      clear hs hc c1 c2 c3
      go_enter Try.func94,Try.ntmps94
      go_wp2
      go_ret2
      exact ⟨rfl,by repeat (first | exact aW.refl _ | apply aW.step)⟩
     ·have hw:wrap64 ((a0.size:Int) - a1) = (a0.size:Int) - a1:=by unfold wrap64;omega
      have c1':decide (a1 < 0) = false:=decide_eq_false c1
      have c2':decide (a2 < 0) = false:=decide_eq_false c2
      have c3':decide ((a0.size:Int) < a1) = false:=decide_eq_false c3
      have c4':decide (wrap64 ((a0.size:Int) - a1) < a2) = true:=decide_eq_true (by omega)
      clear hs hc c1 c2 c3 hw
      go_enter Try.func94,Try.ntmps94
      go_wp2
      go_ret2
      exact ⟨rfl,by repeat (first | exact aW.refl _ | apply aW.step)⟩
 ·rw [if_neg hs] at h
  exact absurd h (by simp)
def gD.f (a0:Int):Option (Bool):=if a0 ≥ 1 then (some (decide (a0 ≤ 4))) else (some false)
set_option maxHeartbeats 8000000 in
set_option maxRecDepth 100000 in
theorem gD.calls (a0:Int) (r:Bool) (w:World) (h:gD.f a0 = some r) :
  Calls Try.prog 95 #[.int .i64 a0] w fun e w'=>e = .returned (.bool r) ∧ aW w w':=by
 have H:(if a0 ≥ 1 then (some (decide (a0 ≤ 4))) else (some false)) = some r:=h
 clear h
 by_cases c2:a0 ≥ 1
 ·rw [if_pos c2] at H
  have wV:decide (1 ≤ a0) = true:=decide_eq_true c2
  clear c2
  obtain rfl:=Option.some.inj H
  go_enter Try.func95,Try.ntmps95
  go_wp2
  go_ret
  exact ⟨by first | rfl | (simp;done) | (simp [*];done),by repeat (first | exact aW.refl _ | apply aW.step)⟩
 ·rw [if_neg c2] at H
  have wV:decide (1 ≤ a0) = false:=decide_eq_false c2
  clear c2
  obtain rfl:=Option.some.inj H
  go_enter Try.func95,Try.ntmps95
  go_wp2
  go_ret
  exact ⟨by first | rfl | (simp;done) | (simp [*];done),by repeat (first | exact aW.refl _ | apply aW.step)⟩
mutual
def bg.j0 : Nat → Int → ByteArray → Bool → Option (Int × Bool)
 | 0,_,_,_=>none
 | k + 1,x2,x8,x25=>if x25 = true then (some (0,false)) else (bg.l0 k x8 0 x2 0)
def bg.l0 : Nat → ByteArray → Int → Int → Int → Option (Int × Bool)
 | 0,_,_,_,_=>none
 | k + 1,x8,x10,x26,x27=>if x27 < x26 then (if 0 ≤ x27 then (if x27 < (x8.size:Int) then (bg.l0 k x8 (Go.bits .or .i64 (wrap64 (x10 * 256)) (wrap64 (bt x8 x27))) x26 (wrap64 (x27 + 1))) else (none)) else (none)) else (some (x10,true))
end
def bg.f (k:Nat) (a0:ByteArray) (a1:Int) (a2:Int):Option (Int × Bool):=(eX.f a0 a1 a2).bind fun zi=>(if zi.2 = true then ((gD.f a2).bind fun zk=>(bg.j0 k a2 zi.1 (!zk))) else (bg.j0 k a2 zi.1 true))
theorem bg.zl : ∀ k,(∀ y0 y1 y2,lg (bg.j0 k y0 y1 y2) (bg.j0 (k + 1) y0 y1 y2)) ∧ (∀ y0 y1 y2 y3,lg (bg.l0 k y0 y1 y2 y3) (bg.l0 (k + 1) y0 y1 y2 y3))
 | 0=>⟨fun _ _ _ r h=>by simp [bg.j0] at h,fun _ _ _ _ r h=>by simp [bg.l0] at h⟩
 | k + 1=>by
  obtain ⟨WC,ih1⟩:=bg.zl k
  refine ⟨?_,?_⟩
  ·intro y0 y1 y2
   unfold bg.j0
   repeat' first
   | (with_reducible exact WC _ _ _)
   | (with_reducible exact ih1 _ _ _ _)
   | (with_reducible exact lg.refl _)
   | (with_reducible exact lg.none _)
   | (with_reducible refine lg.ite ?_ ?_)
   | (with_reducible refine lg.bind ?_ (fun _=>?_))
   | exact WC _ _ _
   | exact ih1 _ _ _ _
   | exact lg.none _
   | refine lg.ite ?_ ?_
   | refine lg.bind ?_ (fun _=>?_)
  ·intro y0 y1 y2 y3
   unfold bg.l0
   repeat' first
   | (with_reducible exact WC _ _ _)
   | (with_reducible exact ih1 _ _ _ _)
   | (with_reducible exact lg.refl _)
   | (with_reducible exact lg.none _)
   | (with_reducible refine lg.ite ?_ ?_)
   | (with_reducible refine lg.bind ?_ (fun _=>?_))
   | exact WC _ _ _
   | exact ih1 _ _ _ _
   | exact lg.none _
   | refine lg.ite ?_ ?_
   | refine lg.bind ?_ (fun _=>?_)
theorem bg.mono : ∀ a0 a1 a2 k,lg (bg.f k a0 a1 a2) (bg.f (k + 1) a0 a1 a2):=by
 intro a0 a1 a2 k
 obtain ⟨WC,ih1⟩:=bg.zl k
 unfold bg.f
 repeat' first
   | (with_reducible exact WC _ _ _)
   | (with_reducible exact ih1 _ _ _ _)
   | (with_reducible exact lg.refl _)
   | (with_reducible exact lg.none _)
   | (with_reducible refine lg.ite ?_ ?_)
   | (with_reducible refine lg.bind ?_ (fun _=>?_))
   | exact WC _ _ _
   | exact ih1 _ _ _ _
   | exact lg.none _
   | refine lg.ite ?_ ?_
   | refine lg.bind ?_ (fun _=>?_)
set_option maxHeartbeats 8000000 in
set_option maxRecDepth 100000 in
theorem bg.calls (k:Nat) (a0:ByteArray) (a1:Int) (a2:Int) (r1:Int) (r2:Bool) (w:World) (h:bg.f k a0 a1 a2 = some (r1,r2)) :
  Calls Try.prog 80 #[.string a0,.int .i64 a1,.int .i64 a2] w fun e w'=>e = .returned (.tuple #[.int .i64 r1,.bool r2]) ∧ aW w w':=by
 have H:((eX.f a0 a1 a2).bind fun zi=>(if zi.2 = true then ((gD.f a2).bind fun zk=>(bg.j0 k a2 zi.1 (!zk))) else (bg.j0 k a2 zi.1 true))) = some (r1,r2):=h
 clear h
 replace H:=zbm H
 obtain ⟨⟨t119,WE⟩,EO,H⟩:=H
 replace H:(if WE = true then ((gD.f a2).bind fun zk=>(bg.j0 k a2 t119 (!zk))) else (bg.j0 k a2 t119 true)) = some (r1,r2):=H
 have A4:=aj.mk EO
 clear EO
 have WG:=aj.mk H
 clear H
 go_enter Try.func80,Try.ntmps80
 go_upto_region 2 with (first | ((with_reducible refine aU (f:=94) rfl ?_);refine bP (some 16) rfl rfl Try.func94 (by kernel_rfl) rfl #[.string a0,.int .i64 a1,.int .i64 a2] rfl (by (try simp only [List.map_toArray,List.map_cons,List.map_nil]);first | done | rfl | (simp only [List.length_drop,List.length_take];rfl) | (simp only [ByteArray.size_append,Int.natCast_add];rfl) | (rw [B.dX] <;> first | rfl | omega | (simp only [decide_eq_false_iff_not,decide_eq_true_eq,Int.not_lt,Nat.not_lt,gt_iff_lt] at * <;> omega))) ?_;(with_reducible refine (eX.calls a0 a1 a2 t119 WE _ A4.out).mono ?_);rintro e w' ⟨rfl,⟨nd,rfl⟩⟩;refine ⟨_,rfl,?_⟩))
 (try simp only [Act.put,List.setIfInBounds_toArray,List.set_cons_zero,List.set_cons_succ])
 go_cut [25] (fun v25 wc=>∃ (kq:Nat) (II:Bool),v25 = .bool II ∧ aj (bg.j0 kq a2 t119 II = some (r1,r2)) ∧ aj (kq ≤ k) ∧ aW w wc)
 case first =>
  have H:=WG.out
  clear WG
  by_cases c6:WE = true
  ·subst c6
   have H1:((gD.f a2).bind fun zk=>(bg.j0 k a2 t119 (!zk))) = some (r1,r2):=by rw [if_pos rfl] at H;exact H
   clear H
   have H:=H1
   clear H1
   replace H:=zbm H
   obtain ⟨zk,A70,H⟩:=H
   replace H:(bg.j0 k a2 t119 (!zk)) = some (r1,r2):=H
   have A7:=aj.mk A70
   clear A70
   have H':=aj.mk H
   clear H
   go_wp2_with (first | (go_at_call 95;(with_reducible refine (gD.calls a2 zk _ A7.out).mono ?_);rintro e w' ⟨rfl,⟨nd,rfl⟩⟩))
   go_meet
   case rel=>exact ⟨_,(!zk),(by first | rfl | (simp;done) | (simp [*];done) | (simp [B.aX];done) | (simp [B.aY];done)),H',⟨by first | omega | exact Nat.le_refl _⟩,by repeat (first | exact aW.refl _ | apply aW.step)⟩
  ·replace c6:=Bool.eq_false_iff.mpr c6
   subst c6
   have H1:(bg.j0 k a2 t119 true) = some (r1,r2):=by rw [if_neg (show ¬ (false = true) by decide)] at H;exact H
   clear H
   have H:=H1
   clear H1
   have H':=aj.mk H
   clear H
   go_wp2
   go_meet
   case rel=>exact ⟨_,(true),(by first | rfl | (simp;done) | (simp [*];done) | (simp [B.aX];done) | (simp [B.aY];done)),H',⟨by first | omega | exact Nat.le_refl _⟩,by repeat (first | exact aW.refl _ | apply aW.step)⟩
 case rest =>
  clear WG
  try clear p2
  try clear c6
  obtain ⟨kq,II,rfl,HA,HJ4,⟨mc4,rfl⟩⟩:=hcut
  cases kq with
  | zero=>exact absurd HA.out (by simp [bg.j0])
  | succ WH =>
   have H:=HA.out
   clear HA
   simp only [bg.j0] at H
   by_cases c8:II = true
   ·subst c8
    have H1:(some (0,false)) = some (r1,r2):=by rw [if_pos rfl] at H;exact H
    clear H
    have H:=H1
    clear H1
    simp only [Option.some.injEq,Prod.mk.injEq] at H
    obtain ⟨rfl,rfl⟩:=H
    go_wp2
    go_ret2
    exact ⟨by first | rfl | (simp;done) | (simp [*];done),by repeat (first | exact aW.refl _ | apply aW.step)⟩
   ·replace c8:=Bool.eq_false_iff.mpr c8
    subst c8
    have H1:(bg.l0 WH t119 0 a2 0) = some (r1,r2):=by rw [if_neg (show ¬ (false = true) by decide)] at H;exact H
    clear H
    have H:=H1
    clear H1
    have H':=aj.mk H
    clear H
    go_wp2
    go_loopg [10,27] WH (fun kq v10 v27 w'=>∃ (uF:Int) (mV:Int),v10 = .int .i64 uF ∧ v27 = .int .i64 mV ∧ aj (bg.l0 kq t119 uF a2 mV = some (r1,r2)) ∧ aj (kq ≤ WH) ∧ aW w w')
    case atStart=>exact ⟨(0),(0),(by first | rfl | (simp;done) | (simp [*];done) | (simp [B.aX];done) | (simp [B.aY];done)),(by first | rfl | (simp;done) | (simp [*];done) | (simp [B.aX];done) | (simp [B.aY];done)),H',⟨Nat.le_refl _⟩,by repeat (first | exact aW.refl _ | apply aW.step)⟩
    case round =>
     clear H'
     try clear p2
     try clear c4
     try clear c6
     try clear c8
     try clear p2
     obtain ⟨uF,mV,rfl,rfl,HA,TY,⟨m2,rfl⟩⟩:=hrel
     cases gk with
     | zero=>exact absurd HA.out (by simp [bg.l0])
     | succ k2 =>
      have H:=HA.out
      clear HA
      simp only [bg.l0] at H
      by_cases c9:mV < a2
      ·rw [if_pos c9] at H
       have uy:decide (mV < a2) = true:=decide_eq_true c9
       clear c9
       by_cases c10:0 ≤ mV
       ·rw [if_pos c10] at H
        have rG:decide (0 ≤ mV) = true:=decide_eq_true c10
        clear c10
        by_cases c11:mV < (t119.size:Int)
        ·rw [if_pos c11] at H
         have NC:decide (mV < (t119.size:Int)) = true:=decide_eq_true c11
         clear c11
         have H':=aj.mk H
         clear H
         have p12:0 ≤ (mV:Int):=of_decide_eq_true (by first | (with_reducible assumption) | assumption)
         have q12:mV < (t119.size:Int):=of_decide_eq_true (by first | (with_reducible assumption) | assumption)
         have afQ:=nW t119 mV
         replace p12:=eq_true p12
         replace q12:=eq_true q12
         go_wp2
         go_roundg k2
         case measure=>have:=HJ4.out;have:=TY.out;omega
         case rel=>exact ⟨(Go.bits .or .i64 (wrap64 (uF * 256)) (wrap64 (bt t119 mV))),(wrap64 (mV + 1)),(by first | rfl | (simp;done) | (simp [*];done) | (simp [B.aX];done) | (simp [B.aY];done)),(by first | rfl | (simp;done) | (simp [*];done) | (simp [B.aX];done) | (simp [B.aY];done)),H',⟨by have:=HJ4.out;have:=TY.out;omega⟩,by repeat (first | exact aW.refl _ | apply aW.step)⟩
        ·rw [if_neg c11] at H
         exact absurd H (by simp)
       ·rw [if_neg c10] at H
        exact absurd H (by simp)
      ·rw [if_neg c9] at H
       have uy:decide (mV < a2) = false:=decide_eq_false c9
       clear c9
       simp only [Option.some.injEq,Prod.mk.injEq] at H
       obtain ⟨rfl,rfl⟩:=H
       go_wp2
       go_ret2
       exact ⟨by first | rfl | (simp;done) | (simp [*];done),by repeat (first | exact aW.refl _ | apply aW.step)⟩
end Go.Proofs.Ytfokaoeinpnagaa.ZQ
namespace Go.Proofs.Ytfokaoeinpnagaa.ZQ
open Go.RowKit Go.Proofs.YtfokaoeinpnagaaW.bE Go.Proofs.YtfokaoeinpnagaaW.dB Go.Proofs.YtfokaoeinpnagaaW.dU Go.Proofs.Ytfokaoeinpnagaa.B
def aaK : Nat → Int → List Int
 | 0,_=>[]
 | s + 1,n=>n / 256 ^ s % 256 :: aaK s n
def NR (n size:Int):Prop:=1 ≤ size ∧ size ≤ 4 ∧ 0 ≤ n ∧ n < 256 ^ size.toNat
instance (n size:Int):Decidable (NR n size):=by unfold NR;infer_instance
def afR (n size:Int):ByteArray:=if NR n size then strOfNums (aaK size.toNat n) else ⟨#[]⟩
def gJ (s:ByteArray) (i n:Int):Prop:=0 ≤ i ∧ 0 ≤ n ∧ i + n ≤ (s.size:Int)
instance (s : ByteArray) (i n:Int):Decidable (gJ s i n):=by unfold gJ;infer_instance
def ig : Nat → ByteArray → Int → Int
 | 0,_,_=>0
 | k + 1,s,i=>ig k s i * 256 + bt s (i + k)
def jN (s:ByteArray) (i n:Int):Prop:=0 ≤ i ∧ 1 ≤ n ∧ n ≤ 4 ∧ i + n ≤ (s.size:Int)
instance (s : ByteArray) (i n:Int):Decidable (jN s i n):=by unfold jN;infer_instance
theorem uG (s:ByteArray) (i n:Int) (hs:s.size ≤ 9223372036854775807) :
  eX.f s i n = some (if gJ s i n then (s.extract i.toNat (i + n).toNat,true) else (⟨#[]⟩,false)):=by
 unfold eX.f gJ
 rw [if_pos (by omega)]
 split <;> rename_i h <;> simp [h]
theorem lq (x b:Int) (hx0:0 ≤ x) (hx:x < 16777216) (hb0:0 ≤ b) (hb:b ≤ 255):Go.bits .or .i64 (wrap64 (x * 256)) (wrap64 b) = x * 256 + b:=by
 rw [dX (by omega) (by omega),dX (by omega) (by omega)]
 refine Go.bits_join .i64 62 (by decide) ?_ 8 (x * 256) b (by omega) (by omega) (by omega) hb0 (by omega) (by omega)
 intro n h0 h1
 rw [IntKind.wrap_i64]
 omega
theorem get_eq (k:Nat) (hk:9 ≤ k) (s:ByteArray) (i n:Int) (hs:s.size ≤ 9223372036854775807) :
  bg.f k s i n = some (if jN s i n then (ig n.toNat s i,true) else (0,false)):=by
 refine vD (fun k=>bg.mono s i n k) hk ?_
 unfold bg.f
 rw [uG s i n hs]
 by_cases ht:gJ s i n
 ·rw [if_pos ht]
  simp only [Option.bind_some,if_true]
  obtain ⟨h0,h1,h2⟩:=ht
  by_cases hz:1 ≤ n ∧ n ≤ 4
  ·have hf:gD.f n = some true:=by unfold gD.f;rw [if_pos (by omega)];simp;omega
   rw [if_pos (show jN s i n from ⟨h0,hz.1,hz.2,h2⟩),hf]
   have hz':=size_ext h0 h1 h2
   have hb:∀ j,0 ≤ j → j < n → bt (s.extract i.toNat (i + n).toNat) j = bt s (i + j):=fun j a b=>Np h0 a b h2
   have e0:=hb 0
   have e1:=hb 1
   have e2:=hb 2
   have e3:=hb 3
   have r0:=gB s (i + 0)
   have r1:=gB s (i + 1)
   have r2:=gB s (i + 2)
   have r3:=gB s (i + 3)
   generalize s.extract i.toNat (i + n).toNat = t at *
   clear hb
   obtain ⟨hz1,hz4⟩:=hz
   have hn:n = 1 ∨ n = 2 ∨ n = 3 ∨ n = 4:=by omega
   have y0:wrap64 (0 + 1) = 1:=dX (by omega) (by omega)
   have y1:wrap64 (1 + 1) = 2:=dX (by omega) (by omega)
   have y2:wrap64 (2 + 1) = 3:=dX (by omega) (by omega)
   have y3:wrap64 (3 + 1) = 4:=dX (by omega) (by omega)
   rcases hn with rfl | rfl | rfl | rfl
   ·have o0:=lq 0 (bt s (i + 0)) (by omega) (by omega) r0.1 r0.2
    simp only [bg.j0,bg.l0,Option.bind_some,Bool.not_true,Bool.false_eq_true,if_false,hz',e0 (by omega) (by omega),o0,y0]
    simp [ig]
   ·have o0:=lq 0 (bt s (i + 0)) (by omega) (by omega) r0.1 r0.2
    have o1:=lq (0 * 256 + bt s (i + 0)) (bt s (i + 1)) (by omega) (by omega) r1.1 r1.2
    simp only [bg.j0,bg.l0,Option.bind_some,Bool.not_true,Bool.false_eq_true,if_false,hz',e0 (by omega) (by omega),e1 (by omega) (by omega),o0,o1,y0,y1]
    simp [ig]
   ·have o0:=lq 0 (bt s (i + 0)) (by omega) (by omega) r0.1 r0.2
    have o1:=lq (0 * 256 + bt s (i + 0)) (bt s (i + 1)) (by omega) (by omega) r1.1 r1.2
    have o2:=lq ((0 * 256 + bt s (i + 0)) * 256 + bt s (i + 1)) (bt s (i + 2)) (by omega) (by omega) r2.1 r2.2
    simp only [bg.j0,bg.l0,Option.bind_some,Bool.not_true,Bool.false_eq_true,if_false,hz',e0 (by omega) (by omega),e1 (by omega) (by omega),e2 (by omega) (by omega),o0,o1,o2,y0,y1,y2]
    simp [ig]
   ·have o0:=lq 0 (bt s (i + 0)) (by omega) (by omega) r0.1 r0.2
    have o1:=lq (0 * 256 + bt s (i + 0)) (bt s (i + 1)) (by omega) (by omega) r1.1 r1.2
    have o2:=lq ((0 * 256 + bt s (i + 0)) * 256 + bt s (i + 1)) (bt s (i + 2)) (by omega) (by omega) r2.1 r2.2
    have o3:=lq (((0 * 256 + bt s (i + 0)) * 256 + bt s (i + 1)) * 256 + bt s (i + 2)) (bt s (i + 3)) (by omega) (by omega) r3.1 r3.2
    simp only [bg.j0,bg.l0,Option.bind_some,Bool.not_true,Bool.false_eq_true,if_false,hz',e0 (by omega) (by omega),e1 (by omega) (by omega),e2 (by omega) (by omega),e3 (by omega) (by omega),o0,o1,o2,o3,y0,y1,y2,y3]
    simp [ig]
  ·have hf:gD.f n = some false:=by
    unfold gD.f
    by_cases h2:1 ≤ n
    ·rw [if_pos (by omega)];simp;omega
    ·rw [if_neg (by omega)]
   rw [if_neg (show ¬ jN s i n from fun h=>hz ⟨h.2.1,h.2.2.1⟩),hf]
   simp [bg.j0]
 ·rw [if_neg ht,if_neg (show ¬ jN s i n from fun h=>ht ⟨h.1,by have:=h.2.1;omega,h.2.2.2⟩)]
  simp [bg.j0]
theorem ET (s:ByteArray) (i:Int):ig 1 s i = bt s i:=by simp [ig]
theorem GL (k:Nat) (s t:ByteArray) (i j:Int) (h:∀ m:Nat,m < k → bt s (i + m) = bt t (j + m)):ig k s i = ig k t j:=by
 induction k with
 | zero=>rfl
 | succ k ih=>simp only [ig];rw [ih fun m hm=>h m (by omega),h k (by omega)]
theorem oM (k:Nat) (s:ByteArray) (i:Int):0 ≤ ig k s i ∧ ig k s i < 256 ^ k:=by
 induction k with
 | zero=>simp [ig]
 | succ k ih =>
  have:=gB s (i + k)
  simp only [ig]
  rw [Int.pow_succ]
  omega
end Go.Proofs.Ytfokaoeinpnagaa.ZQ
namespace Go.Proofs.Ytfokaoeinpnagaa.ZQ
open Go.RowKit Go.Proofs.YtfokaoeinpnagaaW.bE Go.Proofs.YtfokaoeinpnagaaW.dB Go.Proofs.YtfokaoeinpnagaaW.dU
attribute [local go_sem] jA jB kG kH iI iJ jC jD
def bB.f (a0:ByteArray) (a1:Int) (a2:Int):Option (ByteArray × Bool):=if a1 < 0 then (some ((⟨#[]⟩:ByteArray),false)) else (if a2 < 0 then (some ((⟨#[]⟩:ByteArray),false)) else (if a1 > (a0.size:Int) then (some ((⟨#[]⟩:ByteArray),false)) else (if a2 > (wrap64 ((a0.size:Int) - a1)) then (some ((⟨#[]⟩:ByteArray),false)) else (if 0 ≤ a1 then (if a1 ≤ (wrap64 (a1 + a2)) then (if (wrap64 (a1 + a2)) ≤ (a0.size:Int) then (some (a0.extract (a1:Int).toNat ((wrap64 (a1 + a2)):Int).toNat,true)) else (none)) else (none)) else (none)))))
set_option maxHeartbeats 8000000 in
set_option maxRecDepth 100000 in
theorem bB.calls (a0:ByteArray) (a1:Int) (a2:Int) (r1:ByteArray) (r2:Bool) (w:World) (h:bB.f a0 a1 a2 = some (r1,r2)) :
  Calls Try.prog 79 #[.string a0,.int .i64 a1,.int .i64 a2] w fun e w'=>e = .returned (.tuple #[.string r1,.bool r2]) ∧ aW w w':=by
 have H:(if a1 < 0 then (some ((⟨#[]⟩:ByteArray),false)) else (if a2 < 0 then (some ((⟨#[]⟩:ByteArray),false)) else (if a1 > (a0.size:Int) then (some ((⟨#[]⟩:ByteArray),false)) else (if a2 > (wrap64 ((a0.size:Int) - a1)) then (some ((⟨#[]⟩:ByteArray),false)) else (if 0 ≤ a1 then (if a1 ≤ (wrap64 (a1 + a2)) then (if (wrap64 (a1 + a2)) ≤ (a0.size:Int) then (some (a0.extract (a1:Int).toNat ((wrap64 (a1 + a2)):Int).toNat,true)) else (none)) else (none)) else (none)))))) = some (r1,r2):=h
 clear h
 by_cases c4:a1 < 0
 ·rw [if_pos c4] at H
  have qW:decide (a1 < 0) = true:=decide_eq_true c4
  clear c4
  simp only [Option.some.injEq,Prod.mk.injEq] at H
  obtain ⟨rfl,rfl⟩:=H
  go_enter Try.func79,Try.ntmps79
  go_wp2
  go_ret2
  exact ⟨by first | rfl | (simp;done) | (simp [*];done),by repeat (first | exact aW.refl _ | apply aW.step)⟩
 ·rw [if_neg c4] at H
  have qW:decide (a1 < 0) = false:=decide_eq_false c4
  clear c4
  by_cases c5:a2 < 0
  ·rw [if_pos c5] at H
   have qg:decide (a2 < 0) = true:=decide_eq_true c5
   clear c5
   simp only [Option.some.injEq,Prod.mk.injEq] at H
   obtain ⟨rfl,rfl⟩:=H
   go_enter Try.func79,Try.ntmps79
   go_wp2
   go_ret2
   exact ⟨by first | rfl | (simp;done) | (simp [*];done),by repeat (first | exact aW.refl _ | apply aW.step)⟩
  ·rw [if_neg c5] at H
   have qg:decide (a2 < 0) = false:=decide_eq_false c5
   clear c5
   by_cases c6:a1 > (a0.size:Int)
   ·rw [if_pos c6] at H
    have Ab:decide ((a0.size:Int) < a1) = true:=decide_eq_true c6
    clear c6
    simp only [Option.some.injEq,Prod.mk.injEq] at H
    obtain ⟨rfl,rfl⟩:=H
    go_enter Try.func79,Try.ntmps79
    go_wp2
    go_ret2
    exact ⟨by first | rfl | (simp;done) | (simp [*];done),by repeat (first | exact aW.refl _ | apply aW.step)⟩
   ·rw [if_neg c6] at H
    have Ab:decide ((a0.size:Int) < a1) = false:=decide_eq_false c6
    clear c6
    by_cases c7:a2 > (wrap64 ((a0.size:Int) - a1))
    ·rw [if_pos c7] at H
     have wX:decide ((wrap64 ((a0.size:Int) - a1)) < a2) = true:=decide_eq_true c7
     (try (have QK:decide ((((a0.size:Int) - a1)) < a2) = true:=by have h_:decide ((wrap64 ((a0.size:Int) - a1)) < a2) = true:=decide_eq_true c7;rw [B.dX (by omega) (by omega)] at h_;exact h_))
     clear c7
     simp only [Option.some.injEq,Prod.mk.injEq] at H
     obtain ⟨rfl,rfl⟩:=H
     go_enter Try.func79,Try.ntmps79
     go_wp2
     go_ret2
     exact ⟨by first | rfl | (simp;done) | (simp [*];done),by repeat (first | exact aW.refl _ | apply aW.step)⟩
    ·rw [if_neg c7] at H
     have wX:decide ((wrap64 ((a0.size:Int) - a1)) < a2) = false:=decide_eq_false c7
     (try (have QK:decide ((((a0.size:Int) - a1)) < a2) = false:=by have h_:decide ((wrap64 ((a0.size:Int) - a1)) < a2) = false:=decide_eq_false c7;rw [B.dX (by omega) (by omega)] at h_;exact h_))
     clear c7
     by_cases c8:0 ≤ a1
     ·rw [if_pos c8] at H
      have vG:=eq_true c8
      have vH:decide (0 ≤ a1) = true:=decide_eq_true c8
      clear c8
      by_cases c9:a1 ≤ (wrap64 (a1 + a2))
      ·rw [if_pos c9] at H
       have uy:=eq_true c9
       have EN:decide (a1 ≤ (wrap64 (a1 + a2))) = true:=decide_eq_true c9
       by_cases c10:(wrap64 (a1 + a2)) ≤ (a0.size:Int)
       ·rw [if_pos c10] at H
        have rG:=eq_true c10
        have Ba:decide ((wrap64 (a1 + a2)) ≤ (a0.size:Int)) = true:=decide_eq_true c10
        simp only [Option.some.injEq,Prod.mk.injEq] at H
        obtain ⟨rfl,rfl⟩:=H
        go_enter Try.func79,Try.ntmps79
        go_wp2
        go_ret2
        exact ⟨by first | rfl | (simp;done) | (simp [*];done),by repeat (first | exact aW.refl _ | apply aW.step)⟩
       ·rw [if_neg c10] at H
        exact absurd H (by simp)
      ·rw [if_neg c9] at H
       exact absurd H (by simp)
     ·rw [if_neg c8] at H
      exact absurd H (by simp)
mutual
def av.j0 : Nat → Int → ByteArray → Bool → Option (Int × Bool)
 | 0,_,_,_=>none
 | k + 1,x2,x8,x28=>if x28 = true then (some (0,false)) else (av.l0 k x2 x8 0 0)
def av.l0 : Nat → Int → ByteArray → Int → Int → Option (Int × Bool)
 | 0,_,_,_,_=>none
 | k + 1,x2,x8,x10,x11=>if x11 < x2 then (if 0 ≤ x11 then (if x11 < (x8.size:Int) then (av.l0 k x2 x8 (wrap64 ((wrap64 (256 * x10)) + (wrap64 (bt x8 x11)))) (wrap64 (x11 + 1))) else (none)) else (none)) else (some (x10,true))
end
def av.f (k:Nat) (a0:ByteArray) (a1:Int) (a2:Int):Option (Int × Bool):=(bB.f a0 a1 a2).bind fun uH=>(if uH.2 = true then (if a2 < 1 then (av.j0 k a2 uH.1 true) else (av.j0 k a2 uH.1 (decide (a2 > 4)))) else (av.j0 k a2 uH.1 true))
set_option maxHeartbeats 8000000 in
set_option maxRecDepth 100000 in
theorem av.calls (k:Nat) (a0:ByteArray) (a1:Int) (a2:Int) (r1:Int) (r2:Bool) (w:World) (h:av.f k a0 a1 a2 = some (r1,r2)) :
  Calls Try.prog 77 #[.string a0,.int .i64 a1,.int .i64 a2] w fun e w'=>e = .returned (.tuple #[.int .i64 r1,.bool r2]) ∧ aW w w':=by
 have H:((bB.f a0 a1 a2).bind fun uH=>(if uH.2 = true then (if a2 < 1 then (av.j0 k a2 uH.1 true) else (av.j0 k a2 uH.1 (decide (a2 > 4)))) else (av.j0 k a2 uH.1 true))) = some (r1,r2):=h
 clear h
 replace H:=zbm H
 obtain ⟨⟨t141,WI⟩,EO,H⟩:=H
 replace H:(if WI = true then (if a2 < 1 then (av.j0 k a2 t141 true) else (av.j0 k a2 t141 (decide (a2 > 4)))) else (av.j0 k a2 t141 true)) = some (r1,r2):=H
 have A4:=aj.mk EO
 clear EO
 have WG:=aj.mk H
 clear H
 go_enter Try.func77,Try.ntmps77
 go_upto_region 2 with (first | ((with_reducible refine aU (f:=79) rfl ?_);refine bP (some 16) rfl rfl Try.func79 (by kernel_rfl) rfl #[.string a0,.int .i64 a1,.int .i64 a2] rfl (by (try simp only [List.map_toArray,List.map_cons,List.map_nil]);first | done | rfl | (simp only [List.length_drop,List.length_take];rfl) | (simp only [ByteArray.size_append,Int.natCast_add];rfl) | (rw [B.dX] <;> first | rfl | omega | (simp only [decide_eq_false_iff_not,decide_eq_true_eq,Int.not_lt,Nat.not_lt,gt_iff_lt] at * <;> omega))) ?_;(with_reducible refine (bB.calls a0 a1 a2 t141 WI _ A4.out).mono ?_);rintro e w' ⟨rfl,⟨nd,rfl⟩⟩;refine ⟨_,rfl,?_⟩))
 (try simp only [Act.put,List.setIfInBounds_toArray,List.set_cons_zero,List.set_cons_succ])
 go_cut [28] (fun v28 wc=>∃ (kq:Nat) (IJ:Bool),v28 = .bool IJ ∧ aj (av.j0 kq a2 t141 IJ = some (r1,r2)) ∧ aj (kq ≤ k) ∧ aW w wc)
 case first =>
  have H:=WG.out
  clear WG
  by_cases c6:WI = true
  ·subst c6
   have H1:(if a2 < 1 then (av.j0 k a2 t141 true) else (av.j0 k a2 t141 (decide (a2 > 4)))) = some (r1,r2):=by rw [if_pos rfl] at H;exact H
   clear H
   have H:=H1
   clear H1
   by_cases c7:a2 < 1
   ·rw [if_pos c7] at H
    have wX:decide (a2 < 1) = true:=decide_eq_true c7
    clear c7
    (first | rw [wX] | rw [QL] | (simp only [gV,iB];rw [wX]) | skip)
    have H':=aj.mk H
    clear H
    go_wp2
    go_meet
    case rel=>exact ⟨_,(true),(by first | rfl | (simp;done) | (simp [*];done) | (simp [B.aX];done) | (simp [B.aY];done)),H',⟨by first | omega | exact Nat.le_refl _⟩,by repeat (first | exact aW.refl _ | apply aW.step)⟩
   ·rw [if_neg c7] at H
    have wX:decide (a2 < 1) = false:=decide_eq_false c7
    clear c7
    (first | rw [wX] | rw [QL] | (simp only [gV,iB];rw [wX]) | skip)
    have H':=aj.mk H
    clear H
    go_wp2
    go_meet
    case rel=>exact ⟨_,(decide (a2 > 4)),(by first | rfl | (simp;done) | (simp [*];done) | (simp [B.aX];done) | (simp [B.aY];done)),H',⟨by first | omega | exact Nat.le_refl _⟩,by repeat (first | exact aW.refl _ | apply aW.step)⟩
  ·replace c6:=Bool.eq_false_iff.mpr c6
   subst c6
   have H1:(av.j0 k a2 t141 true) = some (r1,r2):=by rw [if_neg (show ¬ (false = true) by decide)] at H;exact H
   clear H
   have H:=H1
   clear H1
   have H':=aj.mk H
   clear H
   go_wp2
   go_meet
   case rel=>exact ⟨_,(true),(by first | rfl | (simp;done) | (simp [*];done) | (simp [B.aX];done) | (simp [B.aY];done)),H',⟨by first | omega | exact Nat.le_refl _⟩,by repeat (first | exact aW.refl _ | apply aW.step)⟩
 case rest =>
  clear WG
  try clear p2
  try clear c6
  try clear c7
  try clear wX
  try clear QL
  obtain ⟨kq,IJ,rfl,HA,HJ4,⟨mc4,rfl⟩⟩:=hcut
  cases kq with
  | zero=>exact absurd HA.out (by simp [av.j0])
  | succ WH =>
   have H:=HA.out
   clear HA
   simp only [av.j0] at H
   by_cases c8:IJ = true
   ·subst c8
    have H1:(some (0,false)) = some (r1,r2):=by rw [if_pos rfl] at H;exact H
    clear H
    have H:=H1
    clear H1
    simp only [Option.some.injEq,Prod.mk.injEq] at H
    obtain ⟨rfl,rfl⟩:=H
    go_wp2
    go_ret2
    exact ⟨by first | rfl | (simp;done) | (simp [*];done),by repeat (first | exact aW.refl _ | apply aW.step)⟩
   ·replace c8:=Bool.eq_false_iff.mpr c8
    subst c8
    have H1:(av.l0 WH a2 t141 0 0) = some (r1,r2):=by rw [if_neg (show ¬ (false = true) by decide)] at H;exact H
    clear H
    have H:=H1
    clear H1
    have H':=aj.mk H
    clear H
    go_wp2
    go_loopg [10,11] WH (fun kq v10 v11 w'=>∃ (uF:Int) (mW:Int),v10 = .int .i64 uF ∧ v11 = .int .i64 mW ∧ aj (av.l0 kq a2 t141 uF mW = some (r1,r2)) ∧ aj (kq ≤ WH) ∧ aW w w')
    case atStart=>exact ⟨(0),(0),(by first | rfl | (simp;done) | (simp [*];done) | (simp [B.aX];done) | (simp [B.aY];done)),(by first | rfl | (simp;done) | (simp [*];done) | (simp [B.aX];done) | (simp [B.aY];done)),H',⟨Nat.le_refl _⟩,by repeat (first | exact aW.refl _ | apply aW.step)⟩
    case round =>
     clear H'
     try clear p2
     try clear c4
     try clear c6
     try clear c7
     try clear wX
     try clear QL
     try clear c8
     try clear p2
     obtain ⟨uF,mW,rfl,rfl,HA,TY,⟨m2,rfl⟩⟩:=hrel
     cases gk with
     | zero=>exact absurd HA.out (by simp [av.l0])
     | succ k2 =>
      have H:=HA.out
      clear HA
      simp only [av.l0] at H
      by_cases c9:mW < a2
      ·rw [if_pos c9] at H
       have uy:decide (mW < a2) = true:=decide_eq_true c9
       clear c9
       by_cases c10:0 ≤ mW
       ·rw [if_pos c10] at H
        have rG:decide (0 ≤ mW) = true:=decide_eq_true c10
        clear c10
        by_cases c11:mW < (t141.size:Int)
        ·rw [if_pos c11] at H
         have NC:decide (mW < (t141.size:Int)) = true:=decide_eq_true c11
         clear c11
         have H':=aj.mk H
         clear H
         have p12:0 ≤ (mW:Int):=of_decide_eq_true (by first | (with_reducible assumption) | assumption)
         have q12:mW < (t141.size:Int):=of_decide_eq_true (by first | (with_reducible assumption) | assumption)
         have afQ:=nW t141 mW
         replace p12:=eq_true p12
         replace q12:=eq_true q12
         go_wp2
         go_roundg k2
         case measure=>have:=HJ4.out;have:=TY.out;omega
         case rel=>exact ⟨(wrap64 ((wrap64 (256 * uF)) + (wrap64 (bt t141 mW)))),(wrap64 (mW + 1)),(by first | rfl | (simp;done) | (simp [*];done) | (simp [B.aX];done) | (simp [B.aY];done)),(by first | rfl | (simp;done) | (simp [*];done) | (simp [B.aX];done) | (simp [B.aY];done)),H',⟨by have:=HJ4.out;have:=TY.out;omega⟩,by repeat (first | exact aW.refl _ | apply aW.step)⟩
        ·rw [if_neg c11] at H
         exact absurd H (by simp)
       ·rw [if_neg c10] at H
        exact absurd H (by simp)
      ·rw [if_neg c9] at H
       have uy:decide (mW < a2) = false:=decide_eq_false c9
       clear c9
       simp only [Option.some.injEq,Prod.mk.injEq] at H
       obtain ⟨rfl,rfl⟩:=H
       go_wp2
       go_ret2
       exact ⟨by first | rfl | (simp;done) | (simp [*];done),by repeat (first | exact aW.refl _ | apply aW.step)⟩
end Go.Proofs.Ytfokaoeinpnagaa.ZQ
namespace Go.Proofs.Ytfokaoeinpnagaa.ZQ
open Go.RowKit Go.Proofs.YtfokaoeinpnagaaW.bE Go.Proofs.YtfokaoeinpnagaaW.dB Go.Proofs.YtfokaoeinpnagaaW.dU Go.Proofs.Ytfokaoeinpnagaa.B
theorem qh (s:ByteArray) (i n:Int) (hs:s.size ≤ 1000000) :
  bB.f s i n = some (if gJ s i n then (s.extract i.toNat (i + n).toNat,true) else (⟨#[]⟩,false)):=by
 have u:gJ s i n = (0 ≤ i ∧ 0 ≤ n ∧ i + n ≤ (s.size:Int)):=rfl
 unfold bB.f
 by_cases h0:i < 0
 ·rw [if_pos h0,if_neg (by rw [u];omega)]
 ·by_cases h1:n < 0
  ·rw [if_neg h0,if_pos h1,if_neg (by rw [u];omega)]
  ·by_cases h2:i > (s.size:Int)
   ·rw [if_neg h0,if_neg h1,if_pos h2,if_neg (by rw [u];omega)]
   ·rw [if_neg h0,if_neg h1,if_neg h2]
    have e1:wrap64 ((s.size:Int) - i) = s.size - i:=dX (by omega) (by omega)
    rw [e1]
    by_cases h3:n > (s.size:Int) - i
    ·rw [if_pos h3,if_neg (by rw [u];omega)]
    ·have e2:wrap64 (i + n) = i + n:=dX (by omega) (by omega)
     rw [if_neg h3,e2,if_pos (by omega),if_pos (by omega),if_pos (by omega),if_pos (by rw [u];omega)]
theorem GN (n:Nat) (hn:n ≤ 4) (t:ByteArray) (ht:t.size = n) (d:Nat):∀ k j,n - j = d → j ≤ n → d < k →
  av.l0 k n t (ig j t 0) j = some (ig n t 0,true):=by
 induction d with
 | zero =>
  intro k j hd hj hk
  obtain rfl:j = n:=by omega
  obtain ⟨k,rfl⟩:∃ m,k = m + 1:=⟨k - 1,by omega⟩
  rw [av.l0,if_neg (by omega)]
 | succ d ih =>
  intro k j hd hj hk
  obtain ⟨k,rfl⟩:∃ m,k = m + 1:=⟨k - 1,by omega⟩
  have hr:=oM j t 0
  have hp:(256:Int) ^ j ≤ 16777216:=by
   have:j = 0 ∨ j = 1 ∨ j = 2 ∨ j = 3:=by omega
   rcases this with rfl | rfl | rfl | rfl <;> simp
  have hb:=gB t j
  rw [av.l0,if_pos (by omega),if_pos (by omega),if_pos (by omega),dX (n:=bt t j) (by omega) (by omega),dX (n:=256 * ig j t 0) (by omega) (by omega),dX (n:=256 * ig j t 0 + bt t j) (by omega) (by omega),dX (n:=(j:Int) + 1) (by omega) (by omega)]
  have e:256 * ig j t 0 + bt t j = ig (j + 1) t 0:=by
   simp only [ig]
   rw [show (0:Int) + (j:Int) = j from by omega]
   omega
  rw [e,show ((j:Int) + 1) = ((j + 1:Nat):Int) from by omega]
  exact ih k (j + 1) (by omega) (by omega) (by omega)
theorem sw (k:Nat) (hk:9 ≤ k) (s:ByteArray) (i n:Int) (hs:s.size ≤ 1000000) :
  av.f k s i n = some (if jN s i n then (ig n.toNat s i,true) else (0,false)):=by
 obtain ⟨k,rfl⟩:∃ m,k = m + 1:=⟨k - 1,by omega⟩
 unfold av.f
 rw [qh s i n hs]
 simp only [Option.bind_some]
 by_cases ht:gJ s i n
 ·simp only [if_pos ht,if_true]
  obtain ⟨h0,h1,h2⟩:=ht
  by_cases c1:n < 1
  ·rw [if_pos c1,av.j0,if_pos rfl,if_neg (fun h=>by have:=h.2.1;omega)]
  ·rw [if_neg c1]
   by_cases c2:n > 4
   ·rw [decide_eq_true c2,av.j0,if_pos rfl,if_neg (fun h=>by have:=h.2.2.1;omega)]
   ·rw [decide_eq_false c2,av.j0,if_neg Bool.false_ne_true,if_pos ⟨h0,by omega,by omega,h2⟩]
    have hz:=size_ext h0 h1 h2
    have e:((n.toNat:Nat):Int) = n:=by omega
    have:=GN n.toNat (by omega) (s.extract i.toNat (i + n).toNat) (by omega) n.toNat k 0 (by omega) (by omega) (by omega)
    rw [e] at this
    rw [show (0:Int) = ((0:Nat):Int) from rfl]
    refine Eq.trans this ?_
    congr 2
    refine GL _ _ _ _ _ fun m hm=>?_
    rw [show (0:Int) + (m:Int) = m from by omega,Np h0 (by omega) (by omega) h2]
 ·simp only [if_neg ht,Bool.false_eq_true,if_false]
  rw [av.j0,if_pos rfl,if_neg (fun h=>ht ⟨h.1,by have:=h.2.1;omega,h.2.2.2⟩)]
end Go.Proofs.Ytfokaoeinpnagaa.ZQ
namespace Go.Proofs.Ytfokaoeinpnagaa.B
open Go.RowKit Go.Proofs.YtfokaoeinpnagaaW.bE
structure vI (T e:TypeId) (B b o:Nat) (cs:Array Value) (p v:Value) (bs:List Value) (w:World):Prop where
 base:B ≤ b
 blk:w.heap[b]? = some (.cells cs T (0,0))
 p_:cs[o]? = some p
 v_:cs[o + 1]? = some v
 self:p = .pointer none ∨ p = .pointer (some ⟨b,o,none⟩)
 own:w.ownsRow B e 1 v bs.length bs
 ne:v.ownBlock ≠ some b
theorem vI.lt {T e:TypeId} {B b o:Nat} {cs:Array Value} {p v:Value} {bs:List Value} {w:World} (h:vI T e B b o cs p v bs w):b < w.heap.size:=by
 rcases Nat.lt_or_ge b w.heap.size with h' | h'
 ·exact h'
 ·have:=h.blk;rw [Array.getElem?_eq_none h'] at this;cases this
theorem heap_set {w:World} {b o:Nat} {cs:Array Value} {T:TypeId} {fr:Nat × Nat} (h:w.heap[b]? = some (.cells cs T fr)) (x:Value):(w.setCell ⟨b,o,none⟩ x).heap[b]? = some (.cells (cs.setIfInBounds o x) T fr):=by
 simp [World.setCell,Array.getElem?_modify,h]
theorem CU {w:World} {B b o:Nat} {e:TypeId} {n k:Nat} {v x:Value} {xs:List Value} (h:w.ownsRow B e n v k xs) (hne:v.ownBlock ≠ some b):(w.setCell ⟨b,o,none⟩ x).ownsRow B e n v k xs :=
 h.kept (row:=some b) ⟨rfl,rfl,rfl,by simp [World.setCell],fun k _ hk=>Below.heap_setCell _ _ _ _ (fun e=>hk (by simp [e]))⟩ (Or.inr hne)
theorem vI.used {T e:TypeId} {B b o:Nat} {cs:Array Value} {p v:Value} {bs:List Value} {w:World} (h:vI T e B b o cs p v bs w) :
  vI T e B b o (cs.setIfInBounds o (.pointer (some ⟨b,o,none⟩))) (.pointer (some ⟨b,o,none⟩)) v bs (w.setCell ⟨b,o,none⟩ (.pointer (some ⟨b,o,none⟩))):=by
 have ho:o < cs.size:=by
  rcases Nat.lt_or_ge o cs.size with h' | h'
  ·exact h'
  ·have:=h.p_;rw [Array.getElem?_eq_none h'] at this;cases this
 exact ⟨h.base,heap_set h.blk _,by simp [ho],by simpa [Array.getElem?_setIfInBounds] using h.v_,.inr rfl,CU h.own h.ne,h.ne⟩
theorem vI.Kj {T e:TypeId} {B b o:Nat} {cs:Array Value} {v:Value} {bs:List Value} {w:World} (h:vI T e B b o cs (.pointer (some ⟨b,o,none⟩)) v bs w) :
  cs.setIfInBounds o (.pointer (some ⟨b,o,none⟩)) = cs:=by
 apply Array.ext_getElem?
 intro i
 rw [Array.getElem?_setIfInBounds]
 by_cases e:o = i
 ·subst e
  have:=h.p_
  rw [if_pos rfl]
  split
  ·exact this.symm
  ·rename_i hn;rw [Array.getElem?_eq_none (by omega)] at this;cases this
 ·rw [if_neg e]
theorem vI.put {T e:TypeId} {B b o:Nat} {cs:Array Value} {p v v':Value} {bs bs':List Value} {w w':World} (h:vI T e B b o cs p v bs w) (hb:w'.heap[b]? = some (.cells cs T (0,0))) (hown:w'.ownsRow B e 1 v' bs'.length bs') (hTe:T ≠ e) :
  vI T e B b o (cs.setIfInBounds (o + 1) v') p v' bs' (w'.setCell ⟨b,o + 1,none⟩ v'):=by
 have hne:=Lib.ownBlock_ne hown hb hTe
 have ho:o + 1 < cs.size:=by
  rcases Nat.lt_or_ge (o + 1) cs.size with h' | h'
  ·exact h'
  ·have:=h.v_;rw [Array.getElem?_eq_none h'] at this;cases this
 exact ⟨h.base,heap_set hb _,by simpa [Array.getElem?_setIfInBounds] using h.p_,by simp [ho],h.self,CU hown hne,hne⟩
theorem vI.set {T e:TypeId} {B b o:Nat} {cs:Array Value} {p v:Value} {bs:List Value} {w:World} (h:vI T e B b o cs p v bs w) (i:Nat) (x:Value) (h1:i ≠ o) (h2:i ≠ o + 1) :
  vI T e B b o (cs.setIfInBounds i x) p v bs (w.setCell ⟨b,i,none⟩ x) :=
 ⟨h.base,heap_set h.blk _,by rw [Array.getElem?_setIfInBounds,if_neg h1];exact h.p_,by rw [Array.getElem?_setIfInBounds,if_neg h2];exact h.v_,h.self,CU h.own h.ne,h.ne⟩
theorem vI.drewN {T e:TypeId} {B b o:Nat} {cs:Array Value} {p v:Value} {bs:List Value} {w:World} (h:vI T e B b o cs p v bs w) (n:Nat):vI T e B b o cs p v bs (w.drewN n):=⟨h.base,h.blk,h.p_,h.v_,h.self,h.own,h.ne⟩
theorem vI.below {T e:TypeId} {B b o:Nat} {cs:Array Value} {p v:Value} {bs:List Value} {w w':World} (h:vI T e B b o cs p v bs w) (hb:Below w.heap.size w w'):vI T e B b o cs p v bs w' :=
 ⟨h.base,(hb.block b h.lt).trans h.blk,h.p_,h.v_,h.self,tX h.own hb,h.ne⟩
theorem wY (t s:ByteArray):Lib.strCells t ++ Lib.strCells s = Lib.strCells (t ++ s):=by
 simp [Lib.strCells]
theorem zm (t:ByteArray):Lib.strCells t = Lib.byteCells t.data.toList:=rfl
end Go.Proofs.Ytfokaoeinpnagaa.B
namespace Go.Proofs.Ytfokaoeinpnagaa.ZQ
open Go.Shelf Go.RowKit
set_option maxRecDepth 100000
def wC : Go.Shelf.Ren:=⟨fun | 156=>110 | 165=>115 | 166=>114 | 169=>112 | 240=>116 | 241=>117 | 276=>118 | 277=>119 | n=>n,fun | 0=>0 | 3=>3 | 4=>4 | 5=>5 | 9=>9 | 20=>20 | 31=>25 | 37=>151 | 70=>172 | 72=>174 | 75=>183 | 76=>184 | 80=>161 | 127=>187 | 164=>188 | n=>n,fun n=>n⟩
theorem IK : Lays.n156 Try.prog wC where
 mixed:=by kernel_rfl
 f156:=by kernel_rfl
 f165:=by kernel_rfl
 f166:=by kernel_rfl
 f169:=by kernel_rfl
 f240:=by kernel_rfl
 f241:=by kernel_rfl
 f276:=by kernel_rfl
 f277:=by kernel_rfl
 t0:=Try.underlying0
 a0:=Try.isAgg0
 z0:=Try.sizeOf0
 v0:=Try.zeroValue0
 t3:=Try.underlying3
 a3:=Try.isAgg3
 z3:=Try.sizeOf3
 v3:=Try.zeroValue3
 t4:=Try.underlying4
 a4:=Try.isAgg4
 z4:=Try.sizeOf4
 v4:=Try.zeroValue4
 t9:=Try.underlying9
 a9:=Try.isAgg9
 z9:=Try.sizeOf9
 v9:=Try.zeroValue9
 t20:=Try.underlying20
 a20:=Try.isAgg20
 z20:=Try.sizeOf20
 v20:=Try.zeroValue20
 t31:=Try.underlying25
 a31:=Try.isAgg25
 z31:=Try.sizeOf25
 v31:=Try.zeroValue25
 t37:=Try.underlying151
 a37:=Try.isAgg151
 z37:=Try.sizeOf151
 v37:=Try.zeroValue151
 t70:=Try.underlying172
 a70:=Try.isAgg172
 z70:=Try.sizeOf172
 v70:=Try.zeroValue172
 t72:=Try.underlying174
 a72:=Try.isAgg174
 z72:=Try.sizeOf174
 v72:=Try.zeroValue174
 t75:=Try.underlying183
 a75:=Try.isAgg183
 z75:=Try.sizeOf183
 v75:=Try.zeroValue183
 t76:=Try.underlying184
 a76:=Try.isAgg184
 z76:=Try.sizeOf184
 v76:=Try.zeroValue184
 t127:=Try.underlying187
 a127:=Try.isAgg187
 z127:=Try.sizeOf187
 v127:=Try.zeroValue187
 t164:=Try.underlying188
 a164:=Try.isAgg188
 z164:=Try.sizeOf188
 v164:=Try.zeroValue188
theorem wD : Builder.Extra Try.prog wC where
 sizeBuilder:=by kernel_rfl
 liesBuilder:=by kernel_rfl
 t5:=Try.underlying5
 a5:=Try.isAgg5
 z5:=Try.sizeOf5
 v5:=Try.zeroValue5
 infoByte:=by kernel_rfl
 cellsByte:=by kernel_rfl
 sizeByte:=by kernel_rfl
 neB5:=by decide
end Go.Proofs.Ytfokaoeinpnagaa.ZQ
namespace Go.Proofs.Ytfokaoeinpnagaa.ZQ
open Go.RowKit Go.Proofs.YtfokaoeinpnagaaW.bE Go.Proofs.YtfokaoeinpnagaaW.dB Go.Proofs.YtfokaoeinpnagaaW.dU
attribute [local go_sem] jA jB kG kH iI iJ jC jD
set_option maxHeartbeats 2000000 in
set_option maxRecDepth 100000 in
theorem aZ.told (T:TypeId) (B0 b o:Nat) (cs:Array Value) (p v:Value) (l:List UInt8) (w:World) (h:B.vI T 5 B0 b o cs p v (Lib.byteCells l) w) (h0:l ≠ []) :
  Calls Try.prog 112 #[.pointer (some ⟨b,o,none⟩)] w fun e w'=>e = .returned (.string ⟨l.toArray⟩) ∧ ∃ g,B0 ≤ g ∧ g ≠ b ∧ w' = w.drew.freeze ⟨g,0,none⟩ l.length:=by
 have hl0:l.length ≠ 0:=by simpa using h0
 have hown:=h.own
 rw [Lib.byteCells_length] at hown
 obtain ⟨g,cap,cur,rfl,hbg,hg,hnc,hcm,hcs,htake⟩:∃ g cap cur,v = .slice (some ⟨g,0,none⟩) l.length cap ∧ B0 ≤ g ∧ w.heap[g]? = some (.cells cur 5 (0,0)) ∧ l.length ≤ cap ∧ cap ≤ maxLen ∧ cur.size = cap * 1 ∧ cur.toList.take (l.length * 1) = Lib.byteCells l:=by
  rcases hown.2 with ⟨_,hz⟩ | ⟨g,cap,cur,hv,r⟩
  ·exact absurd hz hl0
  ·exact ⟨g,cap,cur,hv,r⟩
 have hgb:g ≠ b:=fun e=>h.ne (by rw [e];rfl)
 have c1:w.drew.cell? ⟨b,o + 1,none⟩ = some (.slice (some ⟨g,0,none⟩) l.length cap):=by
  have:w.drew.heap[b]? = some (.cells cs T (0,0)):=h.blk
  rw [Lib.cell_of_heap this];exact h.v_
 have hSD:(Builtin.unsafeSliceData_ #[151] 187 #[.slice (some ⟨g,0,none⟩) l.length cap]).run Try.prog w.drew = .ok (.pointer (some ⟨g,0,none⟩)) w.drew :=
  Lib.run_unsafeSliceData_row _ _ _ _ _ _ (by omega)
 have hUS:(Builtin.unsafeString_ #[187,3] 9 #[.pointer (some ⟨g,0,none⟩),.int .i64 l.length]).run Try.prog w.drew = .ok (.string ⟨l.toArray⟩) (w.drew.freeze ⟨g,0,none⟩ l.length):=by
  refine Lib.run_unsafeString_row w.drew 187 3 9 5 Try.underlying187 (by kernel_rfl) g cur.size (by have hg':w.drew.heap[g]? = some (.cells cur 5 (0,0)):=hg;simp [World.shape?,hg']) l h0 (by omega) (by unfold maxLen at hcm;omega) ?_
  intro j x hx
  have:=hown.cells (g:=g) rfl j (.int .u8 x.toNat) (by simp [Lib.byteCells,hx])
  exact this
 have afS:=aj.mk hbg
 have hgb':=aj.mk hgb
 clear hbg hgb h hown hg hnc hcm hcs htake hl0 h0
 go_enter Try.func112,Try.ntmps112
 go_wp2
 go_region
 all_goals (go_wp2;go_ret;exact ⟨rfl,_,afS.out,hgb'.out,rfl⟩)
def aZ.Kept (b:Nat) (w w':World):Prop:=∀ a:Addr,a.block = b → w'.cell? a = w.cell? a ∧ w'.frozen? a = w.frozen? a
theorem aZ.Kept.of_block {b:Nat} {w w':World} (h:w'.heap[b]? = w.heap[b]?):aZ.Kept b w w':=by
 rintro a rfl
 exact ⟨World.cell?_of_block h,World.frozen?_of_block h⟩
theorem aZ.CW (W:World) (q:Option Addr):(Builtin.unsafeString_ #[187,3] 9 #[.pointer q,.int .i64 0]).run Try.prog W = .ok (.string .empty) W :=
 Lib.run_unsafeString_none W _ _ _ q
set_option maxHeartbeats 2000000 in
set_option maxRecDepth 100000 in
theorem aZ.of_nil (B0 b o:Nat) (w:World) (c1:w.drew.cell? ⟨b,o + 1,none⟩ = some (.slice none 0 0)) :
  Calls Try.prog 112 #[.pointer (some ⟨b,o,none⟩)] w fun e w'=>e = .returned (.string ⟨#[]⟩) ∧ aZ.Kept b w w' ∧ Below B0 w w':=by
 have hUS:=aZ.CW
 have hSD:(Builtin.unsafeSliceData_ #[151] 187 #[.slice none 0 0]).run Try.prog w.drew = .ok (.pointer none) w.drew:=rfl
 go_enter Try.func112,Try.ntmps112
 go_wp2
 go_region
 all_goals (go_wp2;go_ret;exact ⟨rfl,aZ.Kept.of_block rfl,Below.drew (Below.refl B0 w)⟩)
set_option maxHeartbeats 2000000 in
set_option maxRecDepth 100000 in
theorem aZ.Kk (B0 b o g:Nat) (cur:Array Value) (w:World) (hBw:B0 ≤ w.heap.size) (hlt:b < w.heap.size) (c0:w.cell? ⟨b,o + 1,none⟩ = some (.slice (some ⟨g,0,none⟩) 0 0)) (hg:w.heap[g]? = some (.cells cur 5 (0,0))) :
  Calls Try.prog 112 #[.pointer (some ⟨b,o,none⟩)] w fun e w'=>e = .returned (.string ⟨#[]⟩) ∧ aZ.Kept b w w' ∧ Below B0 w w':=by
 have hUS:=aZ.CW
 have hSD:(Builtin.unsafeSliceData_ #[151] 187 #[.slice (some ⟨g,0,none⟩) 0 0]).run Try.prog w.drew = .ok (.pointer (some ⟨w.drew.heap.size,0,none⟩)) (w.drew.alloc (.view ⟨g,0,none⟩ 5)) :=
  Lib.run_unsafeSliceData_zero w.drew _ _ 5 Try.underlying187 ⟨g,0,none⟩ 0 (5,cur.size) (by have hg':w.drew.heap[g]? = some (.cells cur 5 (0,0)):=hg;simp [World.shape?,hg'])
 have hold:(w.drew.alloc (.view ⟨g,0,none⟩ 5)).heap[b]? = w.heap[b]?:=(Lib.alloc_old w.drew _ b hlt)
 have c2:(w.drew.alloc (.view ⟨g,0,none⟩ 5)).cell? ⟨b,o + 1,none⟩ = some (.slice (some ⟨g,0,none⟩) 0 0):=by
  rw [World.cell?_of_block (w:=w) (a:=⟨b,o + 1,none⟩) hold];exact c0
 have c3:(w.alloc (.view ⟨g,0,none⟩ 5)).drew.cell? ⟨b,o + 1,none⟩ = some (.slice (some ⟨g,0,none⟩) 0 0):=c2
 have hold':=aj.mk hold
 have hBw':=aj.mk hBw
 clear hold hBw hlt
 go_enter Try.func112,Try.ntmps112
 go_wp2
 go_region
 all_goals (go_wp2;go_ret;exact ⟨rfl,aZ.Kept.of_block hold'.out,(Below.drew (Below.refl B0 w)).alloc hBw'.out _⟩)
set_option maxHeartbeats 2000000 in
set_option maxRecDepth 100000 in
theorem aZ.QM (B0 b o g cap:Nat) (w:World) (hc0:cap ≠ 0) (c1:w.drew.cell? ⟨b,o + 1,none⟩ = some (.slice (some ⟨g,0,none⟩) 0 cap)) :
  Calls Try.prog 112 #[.pointer (some ⟨b,o,none⟩)] w fun e w'=>e = .returned (.string ⟨#[]⟩) ∧ aZ.Kept b w w' ∧ Below B0 w w':=by
 have hUS:=aZ.CW
 have hSD:(Builtin.unsafeSliceData_ #[151] 187 #[.slice (some ⟨g,0,none⟩) 0 cap]).run Try.prog w.drew = .ok (.pointer (some ⟨g,0,none⟩)) w.drew :=
  Lib.run_unsafeSliceData_row _ _ _ _ _ _ hc0
 clear hc0
 go_enter Try.func112,Try.ntmps112
 go_wp2
 go_region
 all_goals (go_wp2;go_ret;exact ⟨rfl,aZ.Kept.of_block rfl,Below.drew (Below.refl B0 w)⟩)
theorem aZ.any (T:TypeId) (B0 b o:Nat) (cs:Array Value) (p v:Value) (t:ByteArray) (w:World) (h:B.vI T 5 B0 b o cs p v (Lib.strCells t) w) (hBw:B0 ≤ w.heap.size) :
  Calls Try.prog 112 #[.pointer (some ⟨b,o,none⟩)] w fun e w'=>e = .returned (.string t) ∧ aZ.Kept b w w' ∧ Below B0 w w':=by
 have c1:∀ W:World,W.heap = w.heap → W.cell? ⟨b,o + 1,none⟩ = some v:=by
  intro W hW
  have:W.heap[b]? = some (.cells cs T (0,0)):=by rw [hW];exact h.blk
  rw [Lib.cell_of_heap this];exact h.v_
 by_cases h0:t.data.toList = []
 ·have ht:t = ⟨#[]⟩:=ByteArray.ext (Array.toList_inj.mp h0)
  subst ht
  rcases h.own.2 with ⟨rfl,_⟩ | ⟨g,cap,cur,rfl,hbg,hg,_,_,_,_⟩
  ·exact aZ.of_nil B0 b o w (c1 _ rfl)
  ·by_cases hc:cap = 0
   ·subst hc
    exact aZ.Kk B0 b o g cur w hBw h.lt (c1 _ rfl) hg
   ·exact aZ.QM B0 b o g cap w hc (c1 _ rfl)
 ·refine (aZ.told T B0 b o cs p v t.data.toList w (by rw [← B.zm];exact h) h0).mono ?_
  rintro e w' ⟨rfl,g,h1,h2,rfl⟩
  refine ⟨rfl,aZ.Kept.of_block ?_,Lib.below_freeze (Below.drew (Below.refl B0 w)) (p:=⟨g,0,none⟩) h1 _⟩
  unfold World.freeze
  split
  ·rfl
  ·simp [Array.getElem?_modify,h2]
   rfl
set_option maxHeartbeats 1000000 in
set_option maxRecDepth 100000 in
theorem qY.any (T:TypeId) (B0 b o:Nat) (cs:Array Value) (p v:Value) (bs:List Value) (w:World) (h:B.vI T 5 B0 b o cs p v bs w) :
  Calls Try.prog 113 #[.pointer (some ⟨b,o,none⟩)] w fun e w'=>e = .returned (.int .i64 bs.length) ∧ w = w':=by
 obtain ⟨ao,cap,rfl⟩:∃ ao cap,v = .slice ao bs.length cap:=by
  rcases h.own.2 with ⟨hv,h0⟩ | ⟨g,cap,cur,hv,_⟩
  ·exact ⟨none,0,by rw [hv,h0]⟩
  ·exact ⟨_,_,hv⟩
 have c1:w.cell? ⟨b,o + 1,none⟩ = some (.slice ao bs.length cap):=by rw [Lib.cell_of_heap h.blk];exact h.v_
 clear h
 go_enter Try.func113,Try.ntmps113
 go_wp2
 go_ret
 exact ⟨rfl,rfl⟩
theorem cB.info : (Try.prog.info? 174).map (·.size) = some 2:=by kernel_rfl
set_option maxHeartbeats 1000000 in
set_option maxRecDepth 100000 in
theorem cB.used (b o:Nat) (w:World) (h0:w.cell? ⟨b,o,none⟩ = some (.pointer (some ⟨b,o,none⟩))) :
  Calls Try.prog 116 #[.pointer (some ⟨b,o,none⟩)] w fun e w'=>e = .returned (.tuple #[]) ∧ w' = w:=by
 obtain ⟨j,hj,_⟩:=Option.map_eq_some_iff.1 cB.info
 go_enter Try.func116,Try.ntmps116
 go_wp2
 rw [Lib.run_neq_ptr_same w _ Try.underlying172 hj]
 go_wp2
 go_end0
 exact ⟨rfl,rfl⟩
set_option maxHeartbeats 1000000 in
set_option maxRecDepth 100000 in
theorem cB.fresh (b o:Nat) (T:TypeId) (n:Nat) (w:World) (h0:w.cell? ⟨b,o,none⟩ = some (.pointer none)) (hsh:w.shape? b = some (T,n)) (hn:o < n)
  (hlies:liesAt Try.prog Try.prog.depth T (n / Try.prog.cellsOf T) o 174 1 = true) (hfz:w.frozen? ⟨b,o,none⟩ = false) :
  Calls Try.prog 116 #[.pointer (some ⟨b,o,none⟩)] w fun e w'=>e = .returned (.tuple #[]) ∧ w' = w.setCell ⟨b,o,none⟩ (.pointer (some ⟨b,o,none⟩)):=by
 obtain ⟨j,hj,hjs⟩:=Option.map_eq_some_iff.1 cB.info
 have afT:j.size ≠ 0:=by rw [hjs];decide
 clear hjs
 have hn':=aj.mk hn
 clear hn
 go_enter Try.func116,Try.ntmps116
 go_wp2
 rw [Lib.run_to_unsafe w ⟨b,o,none⟩ Try.underlying172 Try.underlying188 hj afT hsh hn'.out]
 simp only [Result.andThen]
 rw [Oper.upon_value]
 go_wp2
 rw [run_callFunc_extern Try.func118 (by kernel_rfl) (by kernel_rfl) (by kernel_rfl) (e:=Extern.AbiNoEscape.same) (by kernel_rfl)]
 rw [Lib.run_noEscape]
 simp only [Result.andThen]
 rw [Oper.upon_value]
 go_wp2
 rw [Lib.run_from_unsafe w ⟨b,o,none⟩ Try.underlying188 Try.underlying172 hj hsh hlies]
 simp only [Result.andThen]
 rw [Oper.upon_value]
 go_wp2
 go_end0
 exact ⟨rfl,rfl⟩
theorem cB.any (T:TypeId) (B0 b o:Nat) (cs:Array Value) (p v:Value) (bs:List Value) (w:World) (h:B.vI T 5 B0 b o cs p v bs w)
  (hlies:liesAt Try.prog Try.prog.depth T (cs.size / Try.prog.cellsOf T) o 174 1 = true) :
  Calls Try.prog 116 #[.pointer (some ⟨b,o,none⟩)] w fun e w'=>e = .returned (.tuple #[]) ∧
   B.vI T 5 B0 b o (cs.setIfInBounds o (.pointer (some ⟨b,o,none⟩))) (.pointer (some ⟨b,o,none⟩)) v bs w' ∧ Below B0 w w':=by
 have ho:o < cs.size:=by
  rcases Nat.lt_or_ge o cs.size with h' | h'
  ·exact h'
  ·have:=h.p_;rw [Array.getElem?_eq_none h'] at this;cases this
 have hsh:w.shape? b = some (T,cs.size):=by simp [World.shape?,h.blk]
 have hc:w.cell? ⟨b,o,none⟩ = some p:=by rw [Lib.cell_of_heap h.blk];exact h.p_
 rcases h.self with rfl | rfl
 ·refine (cB.fresh b o T cs.size w hc hsh ho hlies (Lib.frozen_of_heap h.blk o)).mono ?_
  rintro e w' ⟨rfl,rfl⟩
  exact ⟨rfl,h.used,(Below.refl B0 w).setCell (p:=⟨b,o,none⟩) h.base _⟩
 ·refine (cB.used b o w hc).mono ?_
  rintro e w' ⟨rfl,rfl⟩
  exact ⟨rfl,by rw [h.Kj];exact h,Below.refl B0 _⟩
theorem gT.infoByte : (Try.prog.info? 5).map (fun i=>(i.zero,i.size,i.bytes)) = some (some (.int .u8 0),1,1):=by kernel_rfl
set_option maxHeartbeats 2000000 in
set_option maxRecDepth 100000 in
theorem gT.any (T:TypeId) (B0 b o:Nat) (cs:Array Value) (p v:Value) (t:ByteArray) (s:ByteArray) (w:World) (h:B.vI T 5 B0 b o cs p v (Lib.strCells t) w)
  (hlies:liesAt Try.prog Try.prog.depth T (cs.size / Try.prog.cellsOf T) o 174 1 = true) (hT:T ≠ 5) (hlen:t.size + s.size ≤ 140737488355328) (hBw:B0 ≤ w.heap.size) :
  Calls Try.prog 114 #[.pointer (some ⟨b,o,none⟩),.string s] w fun e w'=>e = .returned (.tuple #[.int .i64 s.size,.nilIface]) ∧
   (∃ v',B.vI T 5 B0 b o ((cs.setIfInBounds o (.pointer (some ⟨b,o,none⟩))).setIfInBounds (o + 1) v') (.pointer (some ⟨b,o,none⟩)) v' (Lib.strCells (t ++ s)) w') ∧ Below B0 w w':=by
 obtain ⟨i0,hi,hz0,hz1,hz2⟩:=info_parts gT.infoByte
 have hL:=Lib.strCells_length t
 have WJ:=aj.mk hlies
 clear hlies
 have hC:=aj.mk h
 clear h
 have hT':=aj.mk hT
 clear hT
 have hlen':=aj.mk hlen
 clear hlen
 go_enter Try.func114,Try.ntmps114
 go_wp2_with (go_at_call 116;refine (cB.any T B0 b o cs p v _ _ hC.out WJ.out).mono ?_)
 rintro e w1 ⟨rfl,h1,hb1⟩
 have c1:w1.cell? ⟨b,o + 1,none⟩ = some v:=by rw [Lib.cell_of_heap h1.blk];exact h1.v_
 have hown:=h1.own
 go_wp2_with (at_builtin;refine Lib.wpList_append_own_string _ rfl _ _ 151 9 rfl B0 5 i0 Try.underlying151 Try.underlying9 hi hz0 hz1 hz2 _ _ _ rfl hown s rfl ?c3 ?c4 ?c5 ?_)
 case c3=>rw [hL];unfold maxLen;have:=hlen'.out;omega
 case c4=>rw [hL];have:=hlen'.out;omega
 case c5=>have:=hb1.size;omega
 intro v' w2 hown' hgrow _
 have hlt:=h1.lt
 have hb2:w2.heap[b]? = some (.cells (cs.setIfInBounds o (.pointer (some ⟨b,o,none⟩))) T (0,0)):=by
  rw [hgrow.block b hlt (fun e=>h1.ne e.symm)]
  exact h1.blk
 have d1:w2.cell? ⟨b,o + 1,none⟩ = some v:=by rw [Lib.cell_of_heap hb2];exact h1.v_
 have f1:w2.frozen? ⟨b,o + 1,none⟩ = false:=Lib.frozen_of_heap hb2 (o + 1)
 obtain ⟨ao,n',cap,rfl⟩:∃ ao n' cap,v' = .slice ao n' cap:=by
  rcases hown'.2 with ⟨hv,_⟩ | ⟨g,cap,cur,hv,_⟩
  ·exact ⟨_,_,_,hv⟩
  ·exact ⟨_,_,_,hv⟩
 have hown2:w2.ownsRow B0 5 1 (.slice ao n' cap) (Lib.strCells (t ++ s)).length (Lib.strCells (t ++ s)):=by
  rw [← B.wY]
  simpa [Lib.strCells_length] using hown'
 have hput:=aj.mk (h1.put hb2 hown2 hT'.out)
 have hbel:=aj.mk ((hb1.grown hgrow (by have:=hb1.size;omega) (fun k hk=>(hown.lt k hk).1)).setCell (p:=⟨b,o + 1,none⟩) h1.base (.slice ao n' cap))
 clear hb2 hown2 hown' hgrow h1 hown hL hb1 c1
 go_wp2
 go_ret2
 exact ⟨rfl,⟨_,hput.out⟩,hbel.out⟩
def strings_Join.cat : List ByteArray → ByteArray
 | []=>⟨#[]⟩
 | x :: l=>x ++ strings_Join.cat l
theorem strings_Join.zn : ∀ l:List ByteArray,(⟨(Lib.join (l.map (·.data.toList)) (⟨#[]⟩:ByteArray).data.toList).toArray⟩:ByteArray) = strings_Join.cat l
 | []=>rfl
 | [x]=>by
  rw [List.map_cons,List.map_nil,Lib.join_one]
  refine ByteArray.ext ?_
  simp [strings_Join.cat,ByteArray.data_append]
 | x :: y :: l=>by
  have h:=strings_Join.zn (y :: l)
  refine ByteArray.ext ?_
  rw [strings_Join.cat,ByteArray.data_append,← h]
  simp [Lib.join,List.intercalate]
theorem strings_Join.calls (v:Value) (l:List ByteArray) (base:Nat) (ok:Nat → Prop) (w:World) (hr:Kd.R Kd.string 9 w base ok v l) (hl:l.length ≤ 1000000) (hz:(strings_Join.cat l).size ≤ 140737488355328) :
  Calls Try.prog 110 #[v,.string ⟨#[]⟩] w fun e w'=>e = .returned (.string (strings_Join.cat l)) ∧ Below w.heap.size w w':=by
 have ho:=Kd.uj hr
 rcases ho.2 with ⟨rfl,h0⟩ | ⟨g,cap,cur,rfl,hg,hh,hc,_,_,ht⟩
 ·obtain rfl:=List.length_eq_zero_iff.mp h0
  exact (Any.strings_Join_none IK wD none 0 ⟨#[]⟩ w).mono fun e w' ⟨he,hw⟩=>⟨he,hw ▸ Below.refl _ _⟩
 ·have hlt:g < w.heap.size:=(Array.getElem?_eq_some_iff.1 hh).1
  have hcells:∀ (j:Nat) x,l[j]? = some x → w.cell? ⟨g,0 + j,none⟩ = some (.string x):=by
   intro j x hx
   have hj:j < l.length:=(List.getElem?_eq_some_iff.1 hx).1
   have h:=(Kd.Nj ByteArray.empty hr (j:Int) (by omega) (by omega)).1
   rw [Nat.zero_add]
   rw [Int.toNat_natCast] at h
   rw [h]
   unfold Gz
   rw [Int.toNat_natCast,List.getD_eq_getElem?_getD,hx]
   rfl
  have hlen:(Lib.join (l.map (·.data.toList)) (⟨#[]⟩:ByteArray).data.toList).length ≤ 140737488355328:=by
   have h:=congrArg ByteArray.size (strings_Join.zn l)
   rw [← h] at hz
   simpa [ByteArray.size] using hz
  refine (Any.strings_Join IK wD g 0 cap l ⟨#[]⟩ w hcells hlt (by omega) hc hlen).mono fun e w' ⟨he,hw⟩=>⟨?_,hw⟩
  rw [he,strings_Join.zn]
end Go.Proofs.Ytfokaoeinpnagaa.ZQ
namespace Go.Proofs.Ytfokaoeinpnagaa.ZQ
open Go.RowKit Go.Proofs.YtfokaoeinpnagaaW.bE Go.Proofs.YtfokaoeinpnagaaW.dB Go.Proofs.YtfokaoeinpnagaaW.dU
attribute [local go_sem] jA jB kG kH iI iJ jC jD
def aC.cs (msg:ByteArray) (i l n:Int) (p v:Value):Array Value:=#[.string msg,.int .i64 i,.int .i64 l,.int .i64 n,p,v]
def aC.Rd (B0 g:Nat) (msg:ByteArray) (i l n:Int) (t:ByteArray) (w:World):Prop :=
 ∃ p v,B.vI 176 5 B0 g 4 (aC.cs msg i l n p v) p v (Lib.strCells t) w
theorem aC.Rd.cells {B0 g:Nat} {msg:ByteArray} {i l n:Int} {t:ByteArray} {w:World} (h:aC.Rd B0 g msg i l n t w) :
  w.cell? ⟨g,0,none⟩ = some (.string msg) ∧ w.cell? ⟨g,1,none⟩ = some (.int .i64 i) ∧ w.cell? ⟨g,2,none⟩ = some (.int .i64 l) ∧ w.cell? ⟨g,3,none⟩ = some (.int .i64 n) ∧
  w.frozen? ⟨g,1,none⟩ = false ∧ w.frozen? ⟨g,2,none⟩ = false ∧ w.frozen? ⟨g,3,none⟩ = false:=by
 obtain ⟨p,v,h⟩:=h
 exact ⟨by rw [Lib.cell_of_heap h.blk];rfl,by rw [Lib.cell_of_heap h.blk];rfl,by rw [Lib.cell_of_heap h.blk];rfl,by rw [Lib.cell_of_heap h.blk];rfl,Lib.frozen_of_heap h.blk 1,Lib.frozen_of_heap h.blk 2,Lib.frozen_of_heap h.blk 3⟩
theorem aC.Rd.base {B0 g:Nat} {msg:ByteArray} {i l n:Int} {t:ByteArray} {w:World} (h:aC.Rd B0 g msg i l n t w):B0 ≤ g ∧ g < w.heap.size:=by
 obtain ⟨p,v,h⟩:=h
 exact ⟨h.base,h.lt⟩
theorem aC.Rd.drewN {B0 g:Nat} {msg:ByteArray} {i l n:Int} {t:ByteArray} {w:World} (h:aC.Rd B0 g msg i l n t w) (m:Nat):aC.Rd B0 g msg i l n t (w.drewN m):=by
 obtain ⟨p,v,h⟩:=h
 exact ⟨p,v,h.drewN m⟩
theorem aC.Rd.set1 {B0 g:Nat} {msg:ByteArray} {i l n:Int} {t:ByteArray} {w:World} (h:aC.Rd B0 g msg i l n t w) (x:Int):aC.Rd B0 g msg x l n t (w.setCell ⟨g,1,none⟩ (.int .i64 x)):=by
 obtain ⟨p,v,h⟩:=h
 exact ⟨p,v,h.set 1 _ (by omega) (by omega)⟩
theorem aC.Rd.set2 {B0 g:Nat} {msg:ByteArray} {i l n:Int} {t:ByteArray} {w:World} (h:aC.Rd B0 g msg i l n t w) (x:Int):aC.Rd B0 g msg i x n t (w.setCell ⟨g,2,none⟩ (.int .i64 x)):=by
 obtain ⟨p,v,h⟩:=h
 exact ⟨p,v,h.set 2 _ (by omega) (by omega)⟩
theorem aC.Rd.aaL {B0 g:Nat} {msg:ByteArray} {i l n:Int} {t:ByteArray} {w:World} (h:aC.Rd B0 g msg i l n t w) (x:Int):aC.Rd B0 g msg i l x t (w.setCell ⟨g,3,none⟩ (.int .i64 x)):=by
 obtain ⟨p,v,h⟩:=h
 exact ⟨p,v,h.set 3 _ (by omega) (by omega)⟩
set_option maxHeartbeats 2000000 in
set_option maxRecDepth 100000 in
theorem aC.cut (B0 g:Nat) (msg:ByteArray) (i l n:Int) (t:ByteArray) (w:World) (h:aC.Rd B0 g msg i l n t w) (hs:msg.size ≤ 140737488355328) (hg:¬ jN msg i 2) :
  Calls Try.prog 108 #[.pointer (some ⟨g,0,none⟩)] w fun e w'=>e = .returned (.int .i64 2) ∧ aC.Rd B0 g msg i l n t w' ∧ Below B0 w w':=by
 have hget:=get_eq 9 (Nat.le_refl _) msg i 2 (by omega)
 rw [if_neg hg] at hget
 have nG:=aj.mk hget
 obtain ⟨c0,c1,c2,c3,f1,f2,f3⟩:=h.cells
 have hR:=aj.mk h
 clear hget h hs hg
 go_enter Try.func108,Try.ntmps108
 go_wp2
 go_quiet ((go_at_call 80;exact Calls.quiet_of ((bg.calls 9 msg i 2 _ _ _ nG.out).mono fun _ _ h=>⟨h.1,h.2.out⟩)))
 go_wp2
 go_ret
 exact ⟨rfl,hR.out.drewN _,ah (Below.refl B0 w) _⟩
set_option maxHeartbeats 2000000 in
set_option maxRecDepth 100000 in
theorem aC.name (B0 g:Nat) (msg:ByteArray) (i l n:Int) (t:ByteArray) (w:World) (h:aC.Rd B0 g msg i l n t w) (hs:msg.size ≤ 140737488355328) (hg:jN msg i 2) (hl:l ≤ ig 2 msg i - 49152) :
  Calls Try.prog 108 #[.pointer (some ⟨g,0,none⟩)] w fun e w'=>e = .returned (.int .i64 3) ∧ aC.Rd B0 g msg i l n t w' ∧ Below B0 w w':=by
 have hget:=get_eq 9 (Nat.le_refl _) msg i 2 (by omega)
 rw [if_pos hg] at hget
 have hr:=oM 2 msg i
 have nG:=aj.mk (show bg.f 9 msg i 2 = some (ig 2 msg i,true) from hget)
 obtain ⟨c0,c1,c2,c3,f1,f2,f3⟩:=h.cells
 have hR:=aj.mk h
 generalize ig 2 msg i = q at nG hr hl
 have hb0:0 ≤ q:=hr.1
 have hb1:q ≤ 65535:=by have:=hr.2;simp at this;omega
 have d1:decide (l ≤ q - 49152) = true:=decide_eq_true hl
 clear hget h hs hg hr hl
 go_enter Try.func108,Try.ntmps108
 go_wp2
 go_quiet ((go_at_call 80;exact Calls.quiet_of ((bg.calls 9 msg i 2 _ _ _ nG.out).mono fun _ _ h=>⟨h.1,h.2.out⟩)))
 go_wp2
 go_ret
 exact ⟨rfl,hR.out.drewN _,ah (Below.refl B0 w) _⟩
set_option maxHeartbeats 2000000 in
set_option maxRecDepth 100000 in
theorem aC.ok (B0 g:Nat) (msg:ByteArray) (i l n:Int) (t:ByteArray) (w:World) (h:aC.Rd B0 g msg i l n t w) (hs:msg.size ≤ 140737488355328) (hg:jN msg i 2) (hl:ig 2 msg i - 49152 < l) (n':Int) (hn0:aj (n' = if n = -1 then i + 2 else n)) :
  Calls Try.prog 108 #[.pointer (some ⟨g,0,none⟩)] w fun e w'=>e = .returned (.int .i64 0) ∧ aC.Rd B0 g msg (ig 2 msg i - 49152) (ig 2 msg i - 49152) n' t w' ∧ Below B0 w w':=by
 have hget:=get_eq 9 (Nat.le_refl _) msg i 2 (by omega)
 rw [if_pos hg] at hget
 have hr:=oM 2 msg i
 have nG:=aj.mk (show bg.f 9 msg i 2 = some (ig 2 msg i,true) from hget)
 obtain ⟨c0,c1,c2,c3,f1,f2,f3⟩:=h.cells
 have hR:=aj.mk h
 have hi0:=hg.1
 have hi1:i ≤ 140737488355328:=by have:=hg.2.2.2;omega
 have hB:=aj.mk h.base.1
 generalize ig 2 msg i = q at nG hr hl ⊢
 have hb0:0 ≤ q:=hr.1
 have hb1:q ≤ 65535:=by have:=hr.2;simp at this;omega
 have d1:decide (l ≤ q - 49152) = false:=decide_eq_false (by omega)
 by_cases hn:n = -1
 ·subst hn
  have e':=hn0.out
  rw [if_pos rfl] at e'
  subst e'
  clear hn0
  have KQ:=aj.mk (((hR.out.aaL (i + 2)).set1 (q - 49152)).set2 (q - 49152))
  have hBl:=aj.mk ((((Below.refl B0 w).setCell (p:=⟨g,3,none⟩) hB.out (.int .i64 (i + 2))).setCell (p:=⟨g,1,none⟩) hB.out (.int .i64 (q - 49152))).setCell (p:=⟨g,2,none⟩) hB.out (.int .i64 (q - 49152)))
  clear hget h hs hg hr hl hR
  go_enter Try.func108,Try.ntmps108
  go_wp2
  go_quiet ((go_at_call 80;exact Calls.quiet_of ((bg.calls 9 msg i 2 _ _ _ nG.out).mono fun _ _ h=>⟨h.1,h.2.out⟩)))
  go_wp2
  go_ret
  exact ⟨rfl,KQ.out.drewN _,ah hBl.out _⟩
 ·have e':=hn0.out
  have d2:(n == -1) = false:=by simpa using hn
  rw [if_neg hn] at e'
  subst e'
  clear hn0
  have KQ:=aj.mk ((hR.out.set1 (q - 49152)).set2 (q - 49152))
  have hBl:=aj.mk (((Below.refl B0 w).setCell (p:=⟨g,1,none⟩) hB.out (.int .i64 (q - 49152))).setCell (p:=⟨g,2,none⟩) hB.out (.int .i64 (q - 49152)))
  clear hget h hs hg hr hl hR hn
  go_enter Try.func108,Try.ntmps108
  go_wp2
  go_quiet ((go_at_call 80;exact Calls.quiet_of ((bg.calls 9 msg i 2 _ _ _ nG.out).mono fun _ _ h=>⟨h.1,h.2.out⟩)))
  go_wp2
  go_ret
  exact ⟨rfl,KQ.out.drewN _,ah hBl.out _⟩
theorem jW.str (B0 g:Nat) (msg:ByteArray) (i l n:Int) (t:ByteArray) (w:World) (h:aC.Rd B0 g msg i l n t w) (hw:B0 ≤ w.heap.size) :
  Calls Try.prog 112 #[.pointer (some ⟨g,4,none⟩)] w fun e w'=>e = .returned (.string t) ∧ (w'.cell? ⟨g,3,none⟩ = some (.int .i64 n)) ∧ Below B0 w w':=by
 have hc:=h.cells.2.2.2.1
 obtain ⟨p,v,h⟩:=h
 refine (aZ.any _ B0 g 4 _ p v t w h hw).mono ?_
 rintro e w' ⟨rfl,hk,hb⟩
 exact ⟨rfl,by rw [(hk ⟨g,3,none⟩ rfl).1];exact hc,hb⟩
set_option maxHeartbeats 4000000 in
set_option maxRecDepth 100000 in
theorem jW.any (B0 g:Nat) (msg:ByteArray) (i l n:Int) (t:ByteArray) (w:World) (h:aC.Rd B0 g msg i l n t w) (hw:B0 ≤ w.heap.size) (ht:t.size ≤ 140737488355328) (hi:0 ≤ i) (hi2:i ≤ 140737488355328)
  (n':Int) (hn0:aj (n' = if n = -1 then i + 1 else n)) :
  Calls Try.prog 107 #[.pointer (some ⟨g,0,none⟩)] w fun e w'=>e = .returned (.tuple #[.string (t ++ (⟨#[0]⟩:ByteArray)),.int .i64 n',.int .i64 0]) ∧ Below B0 w w':=by
 obtain ⟨c0,c1,c2,c3,f1,f2,f3⟩:=h.cells
 have hR:=aj.mk h
 have hB:=aj.mk h.base.1
 have hw':=aj.mk hw
 have ht1:(t.size + 1 ≤ 9223372036854775807) = True:=eq_true (by omega)
 have ht2:(9223372036854775807 < t.size + 1) = False:=eq_false (by omega)
 have ht3:decide (t.size + 1 ≤ 9223372036854775807) = true:=decide_eq_true (by omega)
 by_cases hn:n = -1
 ·subst hn
  have e':=hn0.out
  rw [if_pos rfl] at e'
  subst e'
  clear hn0
  have KQ:=aj.mk (hR.out.aaL (i + 1))
  have hc3:=KQ.out.cells.2.2.2.1
  have hBl:=aj.mk ((Below.refl B0 w).setCell (p:=⟨g,3,none⟩) hB.out (.int .i64 (i + 1)))
  have hsz:=aj.mk (show B0 ≤ (w.setCell ⟨g,3,none⟩ (.int .i64 (i + 1))).heap.size by have:=hBl.out.size;omega)
  clear h hw hR ht hB hw'
  go_enter Try.func107,Try.ntmps107
  go_wp2
  generalize w.setCell ⟨g,3,none⟩ (.int .i64 (i + 1)) = w1 at *
  clear c0 c1 c2 c3 f1 f2 f3
  go_region_with (go_at_call 112;refine (jW.str B0 g msg i l (i + 1) t _ (by first | exact KQ.out | exact KQ.out.drewN 1 | exact KQ.out.drewN _) (by first | exact hsz.out | (simp;exact hsz.out))).mono ?_;rintro e w' ⟨rfl,hk3,hb⟩;have hb':=aj.mk hb;clear hb)
  all_goals
   go_wp2
   go_ret3
   exact ⟨rfl,by first | exact hBl.out.trans hb'.out | exact (jw hBl.out).trans hb'.out | exact jw (hBl.out.trans hb'.out) | exact hBl.out.trans (jw hb'.out)⟩
 ·have e':=hn0.out
  have d2:(n == -1) = false:=by simpa using hn
  rw [if_neg hn] at e'
  subst e'
  clear hn0
  clear h hw ht hB
  go_enter Try.func107,Try.ntmps107
  go_wp2
  clear c0 c1 c2 f1 f2 f3
  go_region_with (go_at_call 112;refine (jW.str B0 g msg i l n' t _ (by first | exact hR.out | exact hR.out.drewN 1 | exact hR.out.drewN _) (by first | exact hw'.out | (simp;exact hw'.out))).mono ?_;rintro e w' ⟨rfl,hk3,hb⟩;have hb':=aj.mk hb;clear hb)
  all_goals
   go_wp2
   go_ret3
   exact ⟨rfl,by first | exact hb'.out | exact (jw (Below.refl B0 w)).trans hb'.out | exact jw hb'.out⟩
set_option maxHeartbeats 4000000 in
set_option maxRecDepth 100000 in
theorem dn.cut (B0 g:Nat) (msg:ByteArray) (i l n z:Int) (t:ByteArray) (w:World) (h:aC.Rd B0 g msg i l n t w) (hs:msg.size ≤ 140737488355328) (hz0:0 ≤ z) (hz1:z ≤ 255) (hg:¬ gJ msg i (1 + z)) :
  Calls Try.prog 109 #[.pointer (some ⟨g,0,none⟩),.int .i64 z] w fun e w'=>e = .returned (.int .i64 2) ∧ aC.Rd B0 g msg i l n t w' ∧ Below B0 w w':=by
 have hget:=uG msg i (1 + z) (by omega)
 rw [if_neg hg] at hget
 have nG:=aj.mk hget
 obtain ⟨c0,c1,c2,c3,f1,f2,f3⟩:=h.cells
 have hR:=aj.mk h
 clear hget h hs hg
 go_enter Try.func109,Try.ntmps109
 go_wp2
 go_quiet ((go_at_call 94;exact Calls.quiet_of ((eX.calls msg i (1 + z) _ _ _ nG.out).mono fun _ _ h=>⟨h.1,h.2.out⟩)))
 go_wp2
 go_ret
 exact ⟨rfl,hR.out.drewN _,ah (Below.refl B0 w) _⟩
theorem dn.len (B0 g:Nat) (msg:ByteArray) (i l n:Int) (t:ByteArray) (w:World) (h:aC.Rd B0 g msg i l n t w) :
  Calls Try.prog 113 #[.pointer (some ⟨g,4,none⟩)] w fun e w'=>e = .returned (.int .i64 t.size) ∧ w = w':=by
 obtain ⟨p,v,h⟩:=h
 have:=qY.any _ B0 g 4 _ p v _ w h
 rw [Lib.strCells_length] at this
 exact this
theorem dn.lies : liesAt Try.prog Try.prog.depth 176 (6 / Try.prog.cellsOf 176) 4 174 1 = true:=by kernel_rfl
theorem dn.write (B0 g:Nat) (msg:ByteArray) (i l n:Int) (t s:ByteArray) (w:World) (h:aC.Rd B0 g msg i l n t w) (hlen:t.size + s.size ≤ 140737488355328) (hBw:B0 ≤ w.heap.size) :
  Calls Try.prog 114 #[.pointer (some ⟨g,4,none⟩),.string s] w fun e w'=>e = .returned (.tuple #[.int .i64 s.size,.nilIface]) ∧ aC.Rd B0 g msg i l n (t ++ s) w' ∧ Below B0 w w':=by
 obtain ⟨p,v,h⟩:=h
 refine (gT.any _ B0 g 4 _ p v t s w h dn.lies (by decide) hlen hBw).mono ?_
 rintro e w' ⟨rfl,⟨v',h'⟩,hb⟩
 exact ⟨rfl,⟨_,v',h'⟩,hb⟩
set_option maxHeartbeats 4000000 in
set_option maxRecDepth 100000 in
theorem dn.name (B0 g:Nat) (msg:ByteArray) (i l n z:Int) (t:ByteArray) (w:World) (h:aC.Rd B0 g msg i l n t w) (hs:msg.size ≤ 140737488355328) (hz0:0 ≤ z) (hz1:z ≤ 255) (hg:gJ msg i (1 + z)) (ht:t.size ≤ 140737488355328) (hl:255 ≤ (t.size:Int) + (1 + z)) :
  Calls Try.prog 109 #[.pointer (some ⟨g,0,none⟩),.int .i64 z] w fun e w'=>e = .returned (.int .i64 3) ∧ aC.Rd B0 g msg i l n t w' ∧ Below B0 w w':=by
 have hget:=uG msg i (1 + z) (by omega)
 rw [if_pos hg] at hget
 have hsz:=B.size_ext hg.1 hg.2.1 hg.2.2
 have nG:=aj.mk hget
 obtain ⟨c0,c1,c2,c3,f1,f2,f3⟩:=h.cells
 have hR:=aj.mk h
 generalize msg.extract i.toNat (i + (1 + z)).toNat = lb at *
 have hlb:lb.size ≤ 256:=by omega
 have d1:decide (255 ≤ (t.size:Int) + (lb.size:Int)) = true:=decide_eq_true (by omega)
 have d2:decide (255 ≤ t.size + lb.size) = true:=decide_eq_true (by omega)
 clear hget h hs hg hsz hl
 go_enter Try.func109,Try.ntmps109
 go_wp2
 go_quiet ((go_at_call 94;exact Calls.quiet_of ((eX.calls msg i (1 + z) _ _ _ nG.out).mono fun _ _ h=>⟨h.1,h.2.out⟩)))
 go_wp2_with (go_at_call 113;refine (dn.len B0 g msg i l n t _ (hR.out.drewN _)).mono ?_;rintro e w' ⟨rfl,rfl⟩)
 go_ret
 exact ⟨rfl,hR.out.drewN _,ah (Below.refl B0 w) _⟩
set_option maxHeartbeats 4000000 in
set_option maxRecDepth 100000 in
theorem dn.ok (B0 g:Nat) (msg:ByteArray) (i l n z:Int) (t:ByteArray) (w:World) (h:aC.Rd B0 g msg i l n t w) (hw:B0 ≤ w.heap.size) (hs:msg.size ≤ 140737488355328) (hz0:0 ≤ z) (hz1:z ≤ 255) (hg:gJ msg i (1 + z)) (hl:(t.size:Int) + (1 + z) < 255) :
  Calls Try.prog 109 #[.pointer (some ⟨g,0,none⟩),.int .i64 z] w fun e w'=>e = .returned (.int .i64 0) ∧ aC.Rd B0 g msg (i + (1 + z)) l n (t ++ msg.extract i.toNat (i + (1 + z)).toNat) w' ∧ Below B0 w w':=by
 have hget:=uG msg i (1 + z) (by omega)
 rw [if_pos hg] at hget
 have hsz:=B.size_ext hg.1 hg.2.1 hg.2.2
 have nG:=aj.mk hget
 obtain ⟨c0,c1,c2,c3,f1,f2,f3⟩:=h.cells
 have hR:=aj.mk h
 have hi0:=hg.1
 have hi1:i ≤ 140737488355328:=by have:=hg.2.2;omega
 have hB:=aj.mk h.base.1
 generalize msg.extract i.toNat (i + (1 + z)).toNat = lb at *
 have hlb:lb.size ≤ 256:=by omega
 have htb:t.size ≤ 256:=by omega
 have d1:decide (255 ≤ (t.size:Int) + (lb.size:Int)) = false:=decide_eq_false (by omega)
 have d2:decide (255 ≤ t.size + lb.size) = false:=decide_eq_false (by omega)
 have hsum:=aj.mk (show i + (lb.size:Int) = i + (1 + z) by omega)
 have hw':=aj.mk hw
 clear hget h hs hg hsz hl hw
 go_enter Try.func109,Try.ntmps109
 go_wp2
 go_quiet ((go_at_call 94;exact Calls.quiet_of ((eX.calls msg i (1 + z) _ _ _ nG.out).mono fun _ _ h=>⟨h.1,h.2.out⟩)))
 go_wp2_with (first | (go_at_call 113;refine (dn.len B0 g msg i l n t _ (hR.out.drewN _)).mono ?_;rintro e w' ⟨rfl,rfl⟩) | (go_at_call 114;refine (dn.write B0 g msg i l n t lb _ (hR.out.drewN _) (by omega) (by simpa using hw'.out)).mono ?_))
 rintro e w1 ⟨rfl,KQ,hb1⟩
 obtain ⟨e0,e1,e2,e3,g1,g2,g3⟩:=KQ.cells
 have hR2:=aj.mk (KQ.set1 (i + (1 + z)))
 rw [← hsum.out] at hR2
 have hBl:=aj.mk ((ah (Below.refl B0 w) _).trans (hb1.setCell (p:=⟨g,1,none⟩) hB.out (.int .i64 (i + (lb.size:Int)))))
 clear KQ hb1 c0 c1 c2 c3 f1 f2 f3
 go_wp2
 go_ret
 exact ⟨rfl,by rw [← hsum.out];exact hR2.out,hBl.out⟩
def bC.l : Nat → ByteArray → Int → Int → Int → ByteArray → Option (ByteArray × Int × Int)
 | 0,_,_,_,_,_=>none
 | k + 1,msg,i,least,next,t =>
  if jN msg i 1 then
   (if bt msg i = 0 then some (t ++ (⟨#[0]⟩:ByteArray),(if next = -1 then i + 1 else next),0)
   else if 192 ≤ bt msg i then
    (if jN msg i 2 then
     (if ig 2 msg i - 49152 ≥ least then some (⟨#[]⟩,0,3)
     else bC.l k msg (ig 2 msg i - 49152) (ig 2 msg i - 49152) (if next = -1 then i + 2 else next) t)
    else some (⟨#[]⟩,0,2))
   else if 63 < bt msg i then some (⟨#[]⟩,0,3)
   else if gJ msg i (1 + bt msg i) then
    (if (t.size:Int) + (1 + bt msg i) ≥ 255 then some (⟨#[]⟩,0,3)
    else bC.l k msg (i + (1 + bt msg i)) least next (t ++ msg.extract i.toNat (i + (1 + bt msg i)).toNat))
   else some (⟨#[]⟩,0,2))
  else some (⟨#[]⟩,0,2)
def bC.f (k:Nat) (a0:ByteArray) (a1:Int):Option (ByteArray × Int × Int):=if a0.size ≤ 140737488355328 then bC.l k a0 a1 a1 (-1) ⟨#[]⟩ else none
theorem bC.zl : ∀ k m i l n t,lg (bC.l k m i l n t) (bC.l (k + 1) m i l n t)
 | 0,_,_,_,_,_=>fun r h=>by simp [bC.l] at h
 | k + 1,m,i,l,n,t=>by
  have ih:=bC.zl k
  rw [bC.l,bC.l]
  repeat' first
   | (with_reducible exact ih _ _ _ _ _)
   | (with_reducible exact lg.refl _)
   | (with_reducible refine lg.ite ?_ ?_)
theorem bC.mono : ∀ a0 a1 k,lg (bC.f k a0 a1) (bC.f (k + 1) a0 a1):=by
 intro a0 a1 k
 unfold bC.f
 exact lg.ite (bC.zl k _ _ _ _ _) (lg.refl _)
theorem bC.afU (msg:ByteArray) (i:Int) (hs:msg.size ≤ 140737488355328) (hg:jN msg i 1):bg.f 9 msg i 1 = some (bt msg i,true):=by
 have h:=get_eq 9 (Nat.le_refl _) msg i 1 (by omega)
 rw [if_pos hg] at h
 rw [h]
 congr 1
 exact congrArg (·,true) (ET msg i)
theorem bC.start (w:World) (msg:ByteArray) (i:Int) :
  aC.Rd w.heap.size w.heap.size msg i i (-1) ⟨#[]⟩ (w.alloc (.cells #[.string msg,.int .i64 i,.int .i64 i,.int .i64 (-1),.pointer none,.slice none 0 0] 176)) :=
 ⟨.pointer none,.slice none 0 0,Nat.le_refl _,heap_alloc_new w _,rfl,rfl,.inl rfl,World.ownsRow_nil _ _ _ _,by simp [Value.ownBlock]⟩
def bC.St (R:ByteArray × Int × Int) (B0 g:Nat) (msg:ByteArray) (k:Nat) (x:Int) (w:World):Prop :=
 (x = 0 ∧ ∃ i l n t,aC.Rd B0 g msg i l n t w ∧ bC.l k msg i l n t = some R ∧ t.size ≤ 255) ∨ (x ≠ 0 ∧ R = (⟨#[]⟩,0,x))
set_option maxHeartbeats 16000000 in
set_option maxRecDepth 100000 in
theorem bC.calls (k:Nat) (a0:ByteArray) (a1:Int) (r1:ByteArray) (r2 r3:Int) (w:World) (h:bC.f k a0 a1 = some (r1,r2,r3)) :
  Calls Try.prog 92 #[.string a0,.int .i64 a1] w fun e w'=>e = .returned (.tuple #[.string r1,.int .i64 r2,.int .i64 r3]) ∧ Below w.heap.size w w':=by
 unfold bC.f at h
 by_cases hs:a0.size ≤ 140737488355328
 ·rw [if_pos hs] at h
  have hR:=aj.mk (bC.start w a0 a1)
  have hB:=aj.mk (ak (Below.refl w.heap.size w) (.cells #[.string a0,.int .i64 a1,.int .i64 a1,.int .i64 (-1),.pointer none,.slice none 0 0] 176))
  have hH:=aj.mk h
  have hsz:=aj.mk hs
  clear h hs
  go_enter Try.func92,Try.ntmps92
  go_wp2
  go_step3
  go_wp2
  go_step3
  go_wp2
  have hSt:=aj.mk (show bC.St (r1,r2,r3) w.heap.size w.heap.size a0 k 0 _ from .inl ⟨rfl,a1,a1, -1,⟨#[]⟩,hR.out,hH.out,by decide⟩)
  clear hR hH
  generalize w.alloc (.cells #[.string a0,.int .i64 a1,.int .i64 a1,.int .i64 (-1),.pointer none,.slice none 0 0] 176) = w1 at hSt hB ⊢
  generalize hgg:w.heap.size = g at hSt hB ⊢
  have hg':=aj.mk hgg
  clear hgg
  go_loopg [8] k (fun kq v8 wr=>∃ x:Int,v8 = .int .i64 x ∧ aj (bC.St (r1,r2,r3) g g a0 kq x wr) ∧ aj (kq ≤ k) ∧ aj (Below g w wr))
  case atStart=>exact ⟨0,rfl,hSt,⟨Nat.le_refl _⟩,hB⟩
  case round =>
   clear hSt hB
   obtain ⟨x,rfl,HS,HK,HB⟩:=hrel
   rcases HS.out with ⟨hx,i,l,n,t,hR0,hH0,ht0⟩ | ⟨hx,hR⟩
   ·subst hx
    clear HS
    cases gk with
    | zero=>exact absurd hH0 (by simp [bC.l])
    | succ k2 =>
     have hR:=aj.mk hR0
     have m0:=hR0.cells.1
     have m1:=hR0.cells.2.1
     have hsz':=hsz.out
     have hBs:=aj.mk (show g ≤ wr.heap.size by have:=hR0.base.2;omega)
     have ht:=aj.mk ht0
     rw [bC.l] at hH0
     clear hR0 ht0
     by_cases hg:jN a0 i 1
     ·rw [if_pos hg] at hH0
      have hget:=aj.mk (bC.afU a0 i hsz' hg)
      have hi0:=hg.1
      have hi1:i ≤ 140737488355328:=by have:=hg.2.2.2;omega
      have hii:=aj.mk (And.intro hi0 hi1)
      have hbr:=gB a0 i
      clear hi0 hi1 hsz' hg
      by_cases c1:bt a0 i = 0
      ·rw [if_pos c1] at hH0
       rw [c1] at hget
       simp only [Option.some.injEq,Prod.mk.injEq] at hH0
       obtain ⟨rfl,h2,rfl⟩:=hH0
       have h2':=aj.mk h2.symm
       clear c1 hbr h2
       go_wp2
       go_quiet ((go_at_call 80;exact Calls.quiet_of ((bg.calls 9 a0 i 1 _ _ _ hget.out).mono fun _ _ h=>⟨h.1,h.2.out⟩)))
       go_wp2_with (go_at_call 107;refine (jW.any g g a0 i l n t _ (hR.out.drewN _) (by simpa using hBs.out) (by have:=ht.out;omega) hii.out.1 hii.out.2 r2 h2').mono ?_;rintro e w' ⟨rfl,hb⟩)
       (try rw [Exit.noGoto_ret])
       go_ret3
       exact ⟨rfl,by rw [hg'.out];exact (ah HB.out _).trans hb⟩
      ·rw [if_neg c1] at hH0
       have d1:(bt a0 i == 0) = false:=by simpa using c1
       by_cases c2:192 ≤ bt a0 i
       ·rw [if_pos c2] at hH0
        have d2:decide (192 ≤ bt a0 i) = true:=decide_eq_true c2
        by_cases c3:jN a0 i 2
        ·rw [if_pos c3] at hH0
         by_cases c4:ig 2 a0 i - 49152 ≥ l
         ·rw [if_pos c4] at hH0
          simp only [Option.some.injEq,Prod.mk.injEq] at hH0
          obtain ⟨rfl,rfl,rfl⟩:=hH0
          have hF:=fun (W:World) (hW:aC.Rd g g a0 i l n t W)=>aC.name g g a0 i l n t W hW hsz.out c3 c4
          have hF':=aj.mk hF
          clear hF c1 c2 c3 c4 hbr
          generalize bt a0 i = c at *
          go_wp2
          go_quiet ((go_at_call 80;exact Calls.quiet_of ((bg.calls 9 a0 i 1 _ _ _ hget.out).mono fun _ _ h=>⟨h.1,h.2.out⟩)))
          go_wp2_with (go_at_call 108;refine (hF'.out _ (hR.out.drewN _)).mono ?_;rintro e w' ⟨rfl,hR',hb⟩)
          go_roundg k2
          case measure=>have:=HK.out;omega
          case rel=>exact ⟨3,rfl,⟨.inr ⟨by decide,rfl⟩⟩,⟨by have:=HK.out;omega⟩,⟨(ah HB.out _).trans hb⟩⟩
         ·rw [if_neg c4] at hH0
          have hF:=fun (W:World) (hW:aC.Rd g g a0 i l n t W)=>aC.ok g g a0 i l n t W hW hsz.out c3 (by omega) _ ⟨rfl⟩
          have hF':=aj.mk hF
          have hH1:=aj.mk hH0
          clear hF c1 c2 c3 c4 hbr hH0
          generalize bt a0 i = c at *
          go_wp2
          go_quiet ((go_at_call 80;exact Calls.quiet_of ((bg.calls 9 a0 i 1 _ _ _ hget.out).mono fun _ _ h=>⟨h.1,h.2.out⟩)))
          go_wp2_with (go_at_call 108;refine (hF'.out _ (hR.out.drewN _)).mono ?_;rintro e w' ⟨rfl,hR',hb⟩)
          go_roundg k2
          case measure=>have:=HK.out;omega
          case rel=>exact ⟨0,rfl,⟨.inl ⟨rfl,_,_,_,_,hR',hH1.out,ht.out⟩⟩,⟨by have:=HK.out;omega⟩,⟨(ah HB.out _).trans hb⟩⟩
        ·rw [if_neg c3] at hH0
         simp only [Option.some.injEq,Prod.mk.injEq] at hH0
         obtain ⟨rfl,rfl,rfl⟩:=hH0
         have hF:=fun (W:World) (hW:aC.Rd g g a0 i l n t W)=>aC.cut g g a0 i l n t W hW hsz.out c3
         have hF':=aj.mk hF
         clear hF c1 c2 c3 hbr
         generalize bt a0 i = c at *
         go_wp2
         go_quiet ((go_at_call 80;exact Calls.quiet_of ((bg.calls 9 a0 i 1 _ _ _ hget.out).mono fun _ _ h=>⟨h.1,h.2.out⟩)))
         go_wp2_with (go_at_call 108;refine (hF'.out _ (hR.out.drewN _)).mono ?_;rintro e w' ⟨rfl,hR',hb⟩)
         go_roundg k2
         case measure=>have:=HK.out;omega
         case rel=>exact ⟨2,rfl,⟨.inr ⟨by decide,rfl⟩⟩,⟨by have:=HK.out;omega⟩,⟨(ah HB.out _).trans hb⟩⟩
       ·rw [if_neg c2] at hH0
        have d2:decide (192 ≤ bt a0 i) = false:=decide_eq_false c2
        by_cases c3:63 < bt a0 i
        ·rw [if_pos c3] at hH0
         have d3:decide (63 < bt a0 i) = true:=decide_eq_true c3
         simp only [Option.some.injEq,Prod.mk.injEq] at hH0
         obtain ⟨rfl,rfl,rfl⟩:=hH0
         clear c1 c2 c3 hbr
         generalize bt a0 i = c at *
         go_wp2
         go_quiet ((go_at_call 80;exact Calls.quiet_of ((bg.calls 9 a0 i 1 _ _ _ hget.out).mono fun _ _ h=>⟨h.1,h.2.out⟩)))
         go_wp2
         go_roundg k2
         case measure=>have:=HK.out;omega
         case rel=>exact ⟨3,rfl,⟨.inr ⟨by decide,rfl⟩⟩,⟨by have:=HK.out;omega⟩,⟨ah HB.out _⟩⟩
        ·rw [if_neg c3] at hH0
         have d3:decide (63 < bt a0 i) = false:=decide_eq_false c3
         by_cases c4:gJ a0 i (1 + bt a0 i)
         ·rw [if_pos c4] at hH0
          by_cases c5:(t.size:Int) + (1 + bt a0 i) ≥ 255
          ·rw [if_pos c5] at hH0
           simp only [Option.some.injEq,Prod.mk.injEq] at hH0
           obtain ⟨rfl,rfl,rfl⟩:=hH0
           have hF:=fun (W:World) (hW:aC.Rd g g a0 i l n t W)=>dn.name g g a0 i l n (bt a0 i) t W hW hsz.out hbr.1 hbr.2 c4 (by have:=ht.out;omega) c5
           have hF':=aj.mk hF
           clear hF c1 c2 c3 c4 c5 hbr
           generalize bt a0 i = c at *
           go_wp2
           go_quiet ((go_at_call 80;exact Calls.quiet_of ((bg.calls 9 a0 i 1 _ _ _ hget.out).mono fun _ _ h=>⟨h.1,h.2.out⟩)))
           go_wp2_with (go_at_call 109;refine (hF'.out _ (hR.out.drewN _)).mono ?_;rintro e w' ⟨rfl,hR',hb⟩)
           go_roundg k2
           case measure=>have:=HK.out;omega
           case rel=>exact ⟨3,rfl,⟨.inr ⟨by decide,rfl⟩⟩,⟨by have:=HK.out;omega⟩,⟨(ah HB.out _).trans hb⟩⟩
          ·rw [if_neg c5] at hH0
           have hF:=fun (W:World) (hw:g ≤ W.heap.size) (hW:aC.Rd g g a0 i l n t W)=>dn.ok g g a0 i l n (bt a0 i) t W hW hw hsz.out hbr.1 hbr.2 c4 (by omega)
           have hF':=aj.mk hF
           have hH1:=aj.mk hH0
           have hz:=B.size_ext c4.1 c4.2.1 c4.2.2
           have ht2:=aj.mk (show (t ++ a0.extract i.toNat (i + (1 + bt a0 i)).toNat).size ≤ 255 by rw [ByteArray.size_append];omega)
           clear hF c1 c2 c3 c4 c5 hbr hH0 hz
           generalize bt a0 i = c at *
           go_wp2
           go_quiet ((go_at_call 80;exact Calls.quiet_of ((bg.calls 9 a0 i 1 _ _ _ hget.out).mono fun _ _ h=>⟨h.1,h.2.out⟩)))
           go_wp2_with (go_at_call 109;refine (hF'.out _ (by simpa using hBs.out) (hR.out.drewN _)).mono ?_;rintro e w' ⟨rfl,hR',hb⟩)
           go_roundg k2
           case measure=>have:=HK.out;omega
           case rel=>exact ⟨0,rfl,⟨.inl ⟨rfl,_,_,_,_,hR',hH1.out,ht2.out⟩⟩,⟨by have:=HK.out;omega⟩,⟨(ah HB.out _).trans hb⟩⟩
         ·rw [if_neg c4] at hH0
          simp only [Option.some.injEq,Prod.mk.injEq] at hH0
          obtain ⟨rfl,rfl,rfl⟩:=hH0
          have hF:=fun (W:World) (hW:aC.Rd g g a0 i l n t W)=>dn.cut g g a0 i l n (bt a0 i) t W hW hsz.out hbr.1 hbr.2 c4
          have hF':=aj.mk hF
          clear hF c1 c2 c3 c4 hbr
          generalize bt a0 i = c at *
          go_wp2
          go_quiet ((go_at_call 80;exact Calls.quiet_of ((bg.calls 9 a0 i 1 _ _ _ hget.out).mono fun _ _ h=>⟨h.1,h.2.out⟩)))
          go_wp2_with (go_at_call 109;refine (hF'.out _ (hR.out.drewN _)).mono ?_;rintro e w' ⟨rfl,hR',hb⟩)
          go_roundg k2
          case measure=>have:=HK.out;omega
          case rel=>exact ⟨2,rfl,⟨.inr ⟨by decide,rfl⟩⟩,⟨by have:=HK.out;omega⟩,⟨(ah HB.out _).trans hb⟩⟩
     ·rw [if_neg hg] at hH0
      have h:=get_eq 9 (Nat.le_refl _) a0 i 1 (by omega)
      rw [if_neg hg] at h
      have hget:=aj.mk h
      simp only [Option.some.injEq,Prod.mk.injEq] at hH0
      obtain ⟨rfl,rfl,rfl⟩:=hH0
      clear hg h hsz'
      go_wp2
      go_quiet ((go_at_call 80;exact Calls.quiet_of ((bg.calls 9 a0 i 1 _ _ _ hget.out).mono fun _ _ h=>⟨h.1,h.2.out⟩)))
      go_wp2
      (try rw [Exit.noGoto_ret])
      go_ret3
      exact ⟨rfl,by rw [hg'.out];exact ah HB.out _⟩
   ·simp only [Prod.mk.injEq] at hR
    obtain ⟨rfl,rfl,rfl⟩:=hR
    have d1:(r3 == 0) = false:=by simpa using hx
    clear HS hx
    go_wp2
    (try rw [Exit.noGoto_ret])
    go_ret3
    exact ⟨rfl,by rw [hg'.out];exact HB.out⟩
 ·rw [if_neg hs] at h
  exact absurd h (by simp)
end Go.Proofs.Ytfokaoeinpnagaa.ZQ

/- A part of the proof of ChainAges: cut, joined and given short names by a program of this session (wip/tools/pack.py); Lean checks it. No condition. -/
import Derived.Test.YtfokaoeinpnagaaPCAesj
import Derived.WalkSpells
import Derived.Lib.Builder
import Derived.Lib.AppendStr
import Derived.Lib.UnsafeStr
import Derived.Test.YtfokaoeinpnagaaProg
import Derived.Shelf.Strings.OnBuilder
import Derived.KernelRfl
import Derived.Laws.Externs
import Derived.LaidEqlPtr
import Derived.Test.YtfokaoeinpnagaaPCAesd
set_option linter.unusedSectionVars false
set_option linter.unusedSimpArgs false
set_option linter.unusedVariables false
namespace Go.Proofs.Ytfokaoeinpnagaa.ZQ
open Go.RowKit Go.Proofs.YtfokaoeinpnagaaW.bD Go.Proofs.YtfokaoeinpnagaaW.dJ Go.Proofs.YtfokaoeinpnagaaW.eG
attribute [local go_sem] jy jA kD kE iI iJ jB jC
mutual
def bM.l0 : Nat → ByteArray → List ByteArray → Option (List ByteArray × Bool)
 | 0,_,_=>none
 | k + 1,x0,x4=>if (x0.size:Int) > 0 then (bM.j1 k x0 x4 (x0.toList != ([0]:List UInt8))) else (bM.j1 k x0 x4 false)
def bM.j1 : Nat → ByteArray → List ByteArray → Bool → Option (List ByteArray × Bool)
 | 0,_,_,_=>none
 | k + 1,x0,x4,x15=>if x15 = true then (if 0 < (x0.size:Int) then (if (wrap64 (bt x0 0)) < 1 then (some (([]:List ByteArray),false)) else (if (wrap64 (bt x0 0)) > 63 then (some (([]:List ByteArray),false)) else (if (wrap64 ((wrap64 (bt x0 0)) + 1)) ≥ (x0.size:Int) then (some (([]:List ByteArray),false)) else (if 1 ≤ (wrap64 (1 + (wrap64 (bt x0 0)))) then (if (wrap64 (1 + (wrap64 (bt x0 0)))) ≤ (x0.size:Int) then (if x4.length < 8796093022208 then (if 0 ≤ (wrap64 (1 + (wrap64 (bt x0 0)))) then (bM.l0 k (x0.extract ((wrap64 (1 + (wrap64 (bt x0 0)))):Int).toNat x0.size) (x4 ++ [x0.extract 1 ((wrap64 (1 + (wrap64 (bt x0 0)))):Int).toNat])) else (none)) else (none)) else (none)) else (none))))) else (none)) else (some (x4,(x0.toList == ([0]:List UInt8))))
end
def bM.f (k:Nat) (a0:ByteArray):Option (List ByteArray × Bool):=if (a0.size:Int) > 255 then (some (([]:List ByteArray),false)) else (bM.l0 k a0 ([]:List ByteArray))
def bM.T8 : Bool × List (List Nat × List Nat):=(true,[([],[]),([],[]),([],[]),([2],[2]),([1,3],[1,3]),([4],[4]),([0,5],[0,5]),([],[]),([],[]),([8],[8]),([7,9],[7,9]),([6,6,0,1,2,3,4,5,6],[0,6]),([10,11,0,1,2,3,4,5,6,7,8,9,10,11],[1,7,10])])
def bM.B8 : List Nat:=[0,0,0,4,14,30,63,0,0,256,896,127,4095]
theorem bM.aft : mV .any (opsOf Try.f87 8) = bM.T8:=by kernel_rfl
theorem bM.aal : qz bM.T8.2 bM.B8 = true:=by kernel_rfl
set_option maxHeartbeats 8000000 in
set_option maxRecDepth 100000 in
theorem bM.calls (k:Nat) (a0:ByteArray) (r1:List ByteArray) (r2:Bool) (w:World) (h:bM.f k a0 = some (r1,r2)) :
  Calls Try.prog 87 #[.string a0] w fun e w'=>∃ Nf:Value,e = .returned (.tuple #[Nf,.bool r2]) ∧ Kd.R Kd.string 9 w' w.heap.size (fun _=>True) Nf r1 ∧ Below w.heap.size w w':=by
 have HB:=aj.mk (Below.refl w.heap.size w)
 have H:(if (a0.size:Int) > 255 then (some (([]:List ByteArray),false)) else (bM.l0 k a0 ([]:List ByteArray))) = some (r1,r2):=h
 clear h
 by_cases c2:(a0.size:Int) > 255
 ·rw [if_pos c2] at H
  have wH:decide (255 < (a0.size:Int)) = true:=decide_eq_true c2
  have JR:decide (255 < a0.size) = true:=decide_eq_true (by omega)
  clear c2
  simp only [Option.some.injEq,Prod.mk.injEq] at H
  obtain ⟨rfl,rfl⟩:=H
  go_enter Try.func87,Try.ntmps87
  go_wp2
  go_ret2
  exact ⟨_,by first | rfl | (simp [aI,aJ] <;> rfl) | (simp [*,aI,aJ] <;> rfl),by first | exact Kd.jJ _ _ _ _ _ | exact Kd.lq _ _ _ _ _ | exact Kd.lu _ _ _ _ _ | exact Kd.kZ _ _ _ _ _ | exact Kd.lg _ _ _ _ _,by repeat (first | (with_reducible first | exact HB.out | apply ak | apply ah | apply au) | exact HB.out)⟩
 ·rw [if_neg c2] at H
  have wH:decide (255 < (a0.size:Int)) = false:=decide_eq_false c2
  have JR:decide (255 < a0.size) = false:=decide_eq_false (by omega)
  clear c2
  have H':=aj.mk H
  clear H
  go_enter Try.func87,Try.ntmps87
  go_wp2
  go_loopg [0,4] k (fun kq v0 v4 w'=>∃ (bL:ByteArray) (qH:List ByteArray),v0 = .string bL ∧ aj (bM.l0 kq bL qH = some (r1,r2)) ∧ aj (kq ≤ k) ∧ aj (Kd.R Kd.string 9 w' w.heap.size (fun _=>True) v4 qH) ∧ aj (Below w.heap.size w w'))
  case atStart=>exact ⟨(a0),(([]:List ByteArray)),(by first | rfl | (simp;done) | (simp [*];done) | (simp [B.aX];done) | (simp [B.aY];done)),H',⟨Nat.le_refl _⟩,⟨by first | exact Kd.jJ _ _ _ _ _ | exact Kd.lq _ _ _ _ _ | exact Kd.lu _ _ _ _ _ | exact Kd.kZ _ _ _ _ _ | exact Kd.lg _ _ _ _ _⟩,⟨by repeat (first | (with_reducible first | exact HB.out | apply ak | apply ah | apply au) | exact HB.out)⟩⟩
  case round =>
   clear H'
   try clear c2
   try clear wH
   try clear JR
   try clear p2
   obtain ⟨bL,qH,rfl,HA,vT,qI,HB⟩:=hrel
   cases gk with
   | zero=>exact absurd HA.out (by simp [bM.l0])
   | succ k1 =>
    have H:=HA.out
    clear HA
    simp only [bM.l0] at H
    have HC3:=aj.mk H
    clear H
    go_upto_region 4 with (fail)
    go_cut [15] (fun v15 wc=>∃ (kq:Nat) (Ik:Bool),v15 = .bool Ik ∧ aj (bM.j1 kq bL qH Ik = some (r1,r2)) ∧ aj (kq ≤ k1) ∧ aj (Kd.R Kd.string 9 wc w.heap.size (fun _=>True) u4 qH) ∧ aj (Below w.heap.size w wc))
    case first =>
     have H:=HC3.out
     clear HC3
     by_cases c4:(bL.size:Int) > 0
     ·rw [if_pos c4] at H
      have qJ:decide (0 < (bL.size:Int)) = true:=decide_eq_true c4
      have JU:decide (0 < bL.size) = true:=decide_eq_true (by omega)
      clear c4
      (first | rw [qJ] | rw [Ng] | (simp only [gV,iD];rw [qJ]) | skip)
      have H':=aj.mk H
      clear H
      go_wp2
      go_meet
      case rel=>exact ⟨_,((bL.toList != ([0]:List UInt8))),(by first | rfl | (simp;done) | (simp [*];done) | (simp [B.aX];done) | (simp [B.aY];done)),H',⟨by have:=vT.out;first | omega | exact Nat.le_refl _⟩,⟨by (with_reducible repeat (first | apply Kd.fJ | apply Kd.gB | apply Kd.gI));exact qI.out⟩,⟨by repeat (first | (with_reducible first | exact HB.out | apply ak | apply ah | apply au) | exact HB.out)⟩⟩
     ·rw [if_neg c4] at H
      have qJ:decide (0 < (bL.size:Int)) = false:=decide_eq_false c4
      have JU:decide (0 < bL.size) = false:=decide_eq_false (by omega)
      clear c4
      (first | rw [qJ] | rw [Ng] | (simp only [gV,iD];rw [qJ]) | skip)
      have H':=aj.mk H
      clear H
      go_wp2
      go_meet
      case rel=>exact ⟨_,(false),(by first | rfl | (simp;done) | (simp [*];done) | (simp [B.aX];done) | (simp [B.aY];done)),H',⟨by have:=vT.out;first | omega | exact Nat.le_refl _⟩,⟨by (with_reducible repeat (first | apply Kd.fJ | apply Kd.gB | apply Kd.gI));exact qI.out⟩,⟨by repeat (first | (with_reducible first | exact HB.out | apply ak | apply ah | apply au) | exact HB.out)⟩⟩
    case rest =>
     clear HC3
     try clear c2
     try clear wH
     try clear JR
     try clear p2
     try clear c4
     try clear qJ
     try clear JU
     try clear Ng
     try clear p2
     obtain ⟨kq,Ik,rfl,HA,HJ2,qI,HB⟩:=hcut
     cases kq with
     | zero=>exact absurd HA.out (by simp [bM.j1])
     | succ kj2 =>
      have H:=HA.out
      clear HA
      simp only [bM.j1] at H
      by_cases c5:Ik = true
      ·subst c5
       have H1:(if 0 < (bL.size:Int) then (if (wrap64 (bt bL 0)) < 1 then (some (([]:List ByteArray),false)) else (if (wrap64 (bt bL 0)) > 63 then (some (([]:List ByteArray),false)) else (if (wrap64 ((wrap64 (bt bL 0)) + 1)) ≥ (bL.size:Int) then (some (([]:List ByteArray),false)) else (if 1 ≤ (wrap64 (1 + (wrap64 (bt bL 0)))) then (if (wrap64 (1 + (wrap64 (bt bL 0)))) ≤ (bL.size:Int) then (if qH.length < 8796093022208 then (if 0 ≤ (wrap64 (1 + (wrap64 (bt bL 0)))) then (bM.l0 kj2 (bL.extract ((wrap64 (1 + (wrap64 (bt bL 0)))):Int).toNat bL.size) (qH ++ [bL.extract 1 ((wrap64 (1 + (wrap64 (bt bL 0)))):Int).toNat])) else (none)) else (none)) else (none)) else (none))))) else (none)) = some (r1,r2):=by rw [if_pos rfl] at H;exact H
       clear H
       have H:=H1
       clear H1
       by_cases c6:0 < (bL.size:Int)
       ·rw [if_pos c6] at H
        have zS:decide (0 < (bL.size:Int)) = true:=decide_eq_true c6
        have Nh:decide (0 < bL.size) = true:=decide_eq_true (by omega)
        clear c6
        by_cases c8:(wrap64 (bt bL 0)) < 1
        ·rw [if_pos c8] at H
         have u7:decide ((wrap64 (bt bL 0)) < 1) = true:=decide_eq_true c8
         (try (have vk:decide (((bt bL 0)) < 1) = true:=by have h_:decide ((wrap64 (bt bL 0)) < 1) = true:=decide_eq_true c8;rw [B.dW (by omega) (by omega)] at h_;exact h_))
         clear c8
         simp only [Option.some.injEq,Prod.mk.injEq] at H
         obtain ⟨rfl,rfl⟩:=H
         have p7:0 ≤ (0:Int):=(by omega)
         have q7:0 < bL.size:=(by have:(0:Int) < (bL.size:Int):=of_decide_eq_true (by first | (with_reducible assumption) | assumption);omega)
         have hx7:∀ h:0 < bL.size,((bL[0]'h).toNat:Int) = bt bL 0:=nQ bL 0
         clear p7
         have qi7:(0 < (bL.size:Int)) = True:=eq_true (of_decide_eq_true (by first | (with_reducible assumption) | assumption))
         replace q7:=eq_true q7
         go_wp2
         go_ret2
         exact ⟨_,by first | rfl | (simp [aI,aJ] <;> rfl) | (simp [*,aI,aJ] <;> rfl),by first | exact Kd.jJ _ _ _ _ _ | exact Kd.lq _ _ _ _ _ | exact Kd.lu _ _ _ _ _ | exact Kd.kZ _ _ _ _ _ | exact Kd.lg _ _ _ _ _,by repeat (first | (with_reducible first | exact HB.out | apply ak | apply ah | apply au) | exact HB.out)⟩
        ·rw [if_neg c8] at H
         have u7:decide ((wrap64 (bt bL 0)) < 1) = false:=decide_eq_false c8
         (try (have vk:decide (((bt bL 0)) < 1) = false:=by have h_:decide ((wrap64 (bt bL 0)) < 1) = false:=decide_eq_false c8;rw [B.dW (by omega) (by omega)] at h_;exact h_))
         clear c8
         by_cases c9:(wrap64 (bt bL 0)) > 63
         ·rw [if_pos c9] at H
          have tV:decide (63 < (wrap64 (bt bL 0))) = true:=decide_eq_true c9
          (try (have Ep:decide (63 < ((bt bL 0))) = true:=by have h_:decide (63 < (wrap64 (bt bL 0))) = true:=decide_eq_true c9;rw [B.dW (by omega) (by omega)] at h_;exact h_))
          clear c9
          simp only [Option.some.injEq,Prod.mk.injEq] at H
          obtain ⟨rfl,rfl⟩:=H
          have p7:0 ≤ (0:Int):=(by omega)
          have q7:0 < bL.size:=(by have:(0:Int) < (bL.size:Int):=of_decide_eq_true (by first | (with_reducible assumption) | assumption);omega)
          have hx7:∀ h:0 < bL.size,((bL[0]'h).toNat:Int) = bt bL 0:=nQ bL 0
          clear p7
          have qi7:(0 < (bL.size:Int)) = True:=eq_true (of_decide_eq_true (by first | (with_reducible assumption) | assumption))
          replace q7:=eq_true q7
          go_wp2
          go_ret2
          exact ⟨_,by first | rfl | (simp [aI,aJ] <;> rfl) | (simp [*,aI,aJ] <;> rfl),by first | exact Kd.jJ _ _ _ _ _ | exact Kd.lq _ _ _ _ _ | exact Kd.lu _ _ _ _ _ | exact Kd.kZ _ _ _ _ _ | exact Kd.lg _ _ _ _ _,by repeat (first | (with_reducible first | exact HB.out | apply ak | apply ah | apply au) | exact HB.out)⟩
         ·rw [if_neg c9] at H
          have tV:decide (63 < (wrap64 (bt bL 0))) = false:=decide_eq_false c9
          (try (have Ep:decide (63 < ((bt bL 0))) = false:=by have h_:decide (63 < (wrap64 (bt bL 0))) = false:=decide_eq_false c9;rw [B.dW (by omega) (by omega)] at h_;exact h_))
          clear c9
          by_cases c10:(wrap64 ((wrap64 (bt bL 0)) + 1)) ≥ (bL.size:Int)
          ·rw [if_pos c10] at H
           have qX:decide ((bL.size:Int) ≤ (wrap64 ((wrap64 (bt bL 0)) + 1))) = true:=decide_eq_true c10
           (try (have AL:decide ((bL.size:Int) ≤ ((((bt bL 0)) + 1))) = true:=by have h_:decide ((bL.size:Int) ≤ (wrap64 ((wrap64 (bt bL 0)) + 1))) = true:=decide_eq_true c10;rw [B.dW (by omega) (by omega)] at h_;rw [B.dW (by omega) (by omega)] at h_;exact h_))
           clear c10
           simp only [Option.some.injEq,Prod.mk.injEq] at H
           obtain ⟨rfl,rfl⟩:=H
           have p7:0 ≤ (0:Int):=(by omega)
           have q7:0 < bL.size:=(by have:(0:Int) < (bL.size:Int):=of_decide_eq_true (by first | (with_reducible assumption) | assumption);omega)
           have hx7:∀ h:0 < bL.size,((bL[0]'h).toNat:Int) = bt bL 0:=nQ bL 0
           clear p7
           have qi7:(0 < (bL.size:Int)) = True:=eq_true (of_decide_eq_true (by first | (with_reducible assumption) | assumption))
           replace q7:=eq_true q7
           go_wp2
           go_ret2
           exact ⟨_,by first | rfl | (simp [aI,aJ] <;> rfl) | (simp [*,aI,aJ] <;> rfl),by first | exact Kd.jJ _ _ _ _ _ | exact Kd.lq _ _ _ _ _ | exact Kd.lu _ _ _ _ _ | exact Kd.kZ _ _ _ _ _ | exact Kd.lg _ _ _ _ _,by repeat (first | (with_reducible first | exact HB.out | apply ak | apply ah | apply au) | exact HB.out)⟩
          ·rw [if_neg c10] at H
           have qX:decide ((bL.size:Int) ≤ (wrap64 ((wrap64 (bt bL 0)) + 1))) = false:=decide_eq_false c10
           (try (have AL:decide ((bL.size:Int) ≤ ((((bt bL 0)) + 1))) = false:=by have h_:decide ((bL.size:Int) ≤ (wrap64 ((wrap64 (bt bL 0)) + 1))) = false:=decide_eq_false c10;rw [B.dW (by omega) (by omega)] at h_;rw [B.dW (by omega) (by omega)] at h_;exact h_))
           clear c10
           by_cases c11:1 ≤ (wrap64 (1 + (wrap64 (bt bL 0))))
           ·rw [if_pos c11] at H
            have Ni:=eq_true c11
            have aam:decide (1 ≤ (wrap64 (1 + (wrap64 (bt bL 0))))) = true:=decide_eq_true c11
            by_cases c12:(wrap64 (1 + (wrap64 (bt bL 0)))) ≤ (bL.size:Int)
            ·rw [if_pos c12] at H
             have tX:=eq_true c12
             have tY:decide ((wrap64 (1 + (wrap64 (bt bL 0)))) ≤ (bL.size:Int)) = true:=decide_eq_true c12
             by_cases c13:qH.length < 8796093022208
             ·rw [if_pos c13] at H
              have aan:=aj.mk c13
              clear c13
              obtain ⟨y101,hy101⟩:∃ y_:List ByteArray,y_ = (qH ++ [bL.extract 1 ((wrap64 (1 + (wrap64 (bt bL 0)))):Int).toNat]):=⟨_,rfl⟩
              replace H:(if 0 ≤ (wrap64 (1 + (wrap64 (bt bL 0)))) then (bM.l0 kj2 (bL.extract ((wrap64 (1 + (wrap64 (bt bL 0)))):Int).toNat bL.size) y101) else (none)) = some (r1,r2):=by first | (rw [hy101];with_reducible exact H) | (have Gn:=(Option.bind_some _ _).symm.trans H;rw [hy101];with_reducible exact Gn) | (have Gn:=(Option.bind_some _ _).symm.trans H;with_reducible exact Gn) | with_reducible exact H | (rw [hy101];exact H) | exact H
              have Tp:=aj.mk hy101
              clear hy101
              obtain ⟨Cr,pQ⟩:∃ j_:Int,(wrap64 (1 + (wrap64 (bt bL 0)))) = j_:=⟨_,rfl⟩
              replace H:(if 0 ≤ (Cr) then (bM.l0 kj2 (bL.extract ((Cr):Int).toNat bL.size) y101) else (none)) = some (r1,r2):=by first | (rw [pQ] at H;exact H) | (simp only [pQ] at H ⊢;exact H)
              (try rw [pQ] at Ni)
              (try rw [pQ] at aam)
              (try rw [pQ] at c11)
              (try rw [pQ] at tX)
              (try rw [pQ] at tY)
              (try rw [pQ] at c12)
              (try rw [pQ] at Tp)
              have afu:(IntKind.i64.wrap (1 + (wrap64 (bt bL 0)))) = Cr:=(gV _).trans pQ
              by_cases c15:0 ≤ (Cr)
              ·rw [if_pos c15] at H
               have agV:=eq_true c15
               have agW:decide (0 ≤ (Cr)) = true:=decide_eq_true c15
               clear c15
               have Il:=eq_true (of_decide_eq_true (by first | (with_reducible assumption) | assumption):(Cr) ≤ (bL.size:Int))
               have H':=aj.mk H
               clear H
               have p7:0 ≤ (0:Int):=(by omega)
               have q7:0 < bL.size:=(by have:(0:Int) < (bL.size:Int):=of_decide_eq_true (by first | (with_reducible assumption) | assumption);omega)
               have hx7:∀ h:0 < bL.size,((bL[0]'h).toNat:Int) = bt bL 0:=nQ bL 0
               clear p7
               have qi7:(0 < (bL.size:Int)) = True:=eq_true (of_decide_eq_true (by first | (with_reducible assumption) | assumption))
               replace q7:=eq_true q7
               try go_wp2
               have eF:=aj.mk (Kd.gI qI.out)
               have iE:=aj.mk (au HB.out)
               clear qI
               clear HB
               have qI:=eF
               have HB:=iE
               clear eF iE
               refine M0 (n:=13) (S:=fun w'=>True) (ds:=[]) #[false,false,false,false,false,false,false,false,false,false,false,false,false] (by kernel_rfl) rfl rfl trivial (fun hHeld=>?_);refine AJ bM.aft bM.aal (fun wI HW_=>?_)
               generalize wc.drew = w17 at qI HB hHeld ⊢
               refine lQ (i:=0) (N:=some 32) (v:=?_) (a':=?_) #[true,false,false,false,false,false,false,false,false,false,false,false,false] rfl rfl (jL wI.out (by kernel_rfl)) (fun _ _ _ h=>h) (Or.inl ⟨by rfl,?_⟩) ?_ ?_
               rotate_left
               ·intro w'
                go_simp
                with_reducible rfl
               rotate_left
               ·simp only [Act.put,List.setIfInBounds_toArray,List.set_cons_zero,List.set_cons_succ,gV,iD]
                rfl
               refine lQ (i:=1) (N:=some 33) (v:=?_) (a':=?_) #[true,true,false,false,false,false,false,false,false,false,false,false,false] rfl rfl (jL wI.out (by kernel_rfl)) (fun _ _ _ h=>h) (Or.inl ⟨by rfl,?_⟩) ?_ ?_
               rotate_left
               ·intro w'
                go_simp
                with_reducible rfl
               rotate_left
               ·simp only [Act.put,List.setIfInBounds_toArray,List.set_cons_zero,List.set_cons_succ,gV,iD]
                rfl
               refine lQ (i:=2) (N:=some 34) (v:=?_) (a':=?_) #[true,true,true,false,false,false,false,false,false,false,false,false,false] rfl rfl (jL wI.out (by kernel_rfl)) (fun _ _ _ h=>h) (Or.inl ⟨by rfl,?_⟩) ?_ ?_
               rotate_left
               ·intro w'
                go_simp
                with_reducible rfl
               rotate_left
               ·simp only [Act.put,List.setIfInBounds_toArray,List.set_cons_zero,List.set_cons_succ,gV,iD]
                rfl
               refine lQ (i:=3) (N:=some 35) (v:=?_) (a':=?_) #[true,true,true,true,false,false,false,false,false,false,false,false,false] rfl rfl (jL wI.out (by kernel_rfl)) (fun _ _ _ h=>h) (Or.inl ⟨by rfl,?_⟩) ?_ ?_
               rotate_left
               ·intro w'
                go_simp
                with_reducible rfl
               rotate_left
               ·simp only [Act.put,List.setIfInBounds_toArray,List.set_cons_zero,List.set_cons_succ,gV,iD]
                rfl
               refine lQ (i:=4) (N:=some 36) (v:=?_) (a':=?_) #[true,true,true,true,true,false,false,false,false,false,false,false,false] rfl rfl (jL wI.out (by kernel_rfl)) (fun _ _ _ h=>h) (Or.inl ⟨by rfl,?_⟩) ?_ ?_
               rotate_left
               ·intro w'
                go_simp
                with_reducible rfl
               rotate_left
               ·simp only [Act.put,List.setIfInBounds_toArray,List.set_cons_zero,List.set_cons_succ,gV,iD]
                rfl
               refine lQ (i:=7) (N:=some 39) (v:=?_) (a':=?_) #[true,true,true,true,true,false,false,true,false,false,false,false,false] rfl rfl (jL wI.out (by kernel_rfl)) (fun _ _ _ h=>h) (Or.inl ⟨by rfl,?_⟩) ?_ ?_
               rotate_left
               ·intro w'
                go_simp
                with_reducible rfl
               rotate_left
               ·simp only [Act.put,List.setIfInBounds_toArray,List.set_cons_zero,List.set_cons_succ,gV,iD]
                rfl
               refine lQ (i:=8) (N:=some 40) (v:=?_) (a':=?_) #[true,true,true,true,true,false,false,true,true,false,false,false,false] rfl rfl (jL wI.out (by kernel_rfl)) (fun _ _ _ h=>h) (Or.inl ⟨by rfl,?_⟩) ?_ ?_
               rotate_left
               ·intro w'
                go_simp
                with_reducible rfl
               rotate_left
               ·simp only [Act.put,List.setIfInBounds_toArray,List.set_cons_zero,List.set_cons_succ,gV,iD]
                rfl
               refine lQ (i:=9) (N:=some 41) (v:=?_) (a':=?_) #[true,true,true,true,true,false,false,true,true,true,false,false,false] rfl rfl (jL wI.out (by kernel_rfl)) (fun _ _ _ h=>h) (Or.inl ⟨by rfl,?_⟩) ?_ ?_
               rotate_left
               ·intro w'
                go_simp
                with_reducible rfl
               rotate_left
               ·simp only [Act.put,List.setIfInBounds_toArray,List.set_cons_zero,List.set_cons_succ,gV,iD]
                rfl
               refine lQ (i:=10) (N:=some 42) (v:=?_) (a':=?_) #[true,true,true,true,true,false,false,true,true,true,true,false,false] rfl rfl (jL wI.out (by kernel_rfl)) (fun _ _ _ h=>h) (Or.inl ⟨by rfl,?_⟩) ?_ ?_
               rotate_left
               ·intro w'
                go_simp
                with_reducible rfl
               rotate_left
               ·simp only [Act.put,List.setIfInBounds_toArray,List.set_cons_zero,List.set_cons_succ,gV,iD]
                rfl
               refine VX (i:=5) (N:=some 37) #[true,true,true,true,true,true,false,true,true,true,true,false,false] rfl rfl (Gl wI.out (by kernel_rfl)) (by decide) (fun K hK=>?_)
               refine VY (w1:=?_) (v:=?_) (by rfl) rfl ?_ ?_
               rotate_left 2
               ·go_simp
                constructor
                ·rfl
                ·rfl
               refine hK.out _ _ trivial (fun hHeld=>?_)
               clear hK K
               refine Tk (a':=?_) ?_ ?_
               rotate_left
               ·show Act.put _ (some 37) _ = _
                simp only [Act.put,List.setIfInBounds_toArray,List.set_cons_zero,List.set_cons_succ,gV,iD]
                rfl
               refine VX (i:=6) (N:=some 38) #[true,true,true,true,true,true,true,true,true,true,true,false,false] rfl rfl (Gl wI.out (by kernel_rfl)) (by decide) (fun K hK=>?_)
               refine Kd.zO Kd.string (w0:=w) w.heap.size (by rfl) (.tmp 32) (.tmp 37) 25 9 (.string ⟨#[]⟩) 16 rfl Try.underlying25 Ij rfl (by decide) (by omega) u4 qH (bL.extract 1 ((Cr):Int).toNat) [.string (bL.extract 1 ((Cr):Int).toNat)] (fun _=>True) (fun _=>False) rfl rfl ?aP (fun _ hk=>hk.elim) ?aF ?aO ?aB ?aS ?aL ?_
               (case aP=>exact rfl)
               (case aB=>exact (by repeat (first | (with_reducible first | exact HB.out | apply ak | apply ah | apply au) | exact HB.out)))
               (case aF=>exact (fun _ _=>trivial))
               (case aO=>exact (by (with_reducible repeat (first | apply Kd.fJ | apply Kd.gB | apply Kd.gI));exact qI.out))
               (case aS=>exact (bK (by repeat (first | (with_reducible first | exact HB.out | apply ak | apply ah | apply au) | exact HB.out))))
               (case aL=>have:=aan.out;omega)
               intro ah3 w18 ho hb hg hat
               rw [← Tp.out] at ho
               have eF:=aj.mk (hb)
               have iE:=aj.mk (ho)
               clear HB
               clear qI
               have HB:=eF
               have aao:=iE
               clear eF iE
               clear ho hb hg hat
               refine hK.out _ _ trivial (fun hHeld=>?_)
               clear hK K
               refine Tk (a':=?_) ?_ ?_
               rotate_left
               ·show Act.put _ (some 38) _ = _
                simp only [Act.put,List.setIfInBounds_toArray,List.set_cons_zero,List.set_cons_succ,gV,iD]
                rfl
               refine lQ (i:=11) (N:=some 4) (v:=?_) (a':=?_) #[true,true,true,true,true,true,true,true,true,true,true,true,false] rfl rfl (jL wI.out (by kernel_rfl)) (fun _ _ _ h=>h) (Or.inl ⟨by rfl,?_⟩) ?_ ?_
               rotate_left
               ·intro w'
                go_simp
                with_reducible rfl
               rotate_left
               ·simp only [Act.put,List.setIfInBounds_toArray,List.set_cons_zero,List.set_cons_succ,gV,iD]
                rfl
               refine lQ (i:=12) (N:=some 0) (v:=?_) (a':=?_) #[true,true,true,true,true,true,true,true,true,true,true,true,true] rfl rfl (jL wI.out (by kernel_rfl)) (fun _ _ _ h=>h) (Or.inl ⟨by rfl,?_⟩) ?_ ?_
               rotate_left
               ·intro w'
                go_simp
                with_reducible rfl
               rotate_left
               ·simp only [Act.put,List.setIfInBounds_toArray,List.set_cons_zero,List.set_cons_succ,gV,iD]
                rfl
               refine Tj (Ih wI.out (by kernel_rfl)) ?_
               try go_wp2
               go_roundg kj2
               case measure=>have:=vT.out;have:=HJ2.out;omega
               case rel=>exact ⟨(bL.extract ((Cr):Int).toNat bL.size),(y101),(by first | rfl | (simp;done) | (simp only [← pQ] <;> (first | rfl | simp)) | (simp [*];done)),H',⟨by have:=vT.out;have:=HJ2.out;omega⟩,⟨by (with_reducible repeat (first | apply Kd.fJ | apply Kd.gB | apply Kd.gI));exact aao.out⟩,⟨by repeat (first | (with_reducible first | exact HB.out | apply ak | apply ah | apply au) | exact HB.out)⟩⟩
              ·rw [if_neg c15] at H
               exact absurd H (by simp)
             ·rw [if_neg c13] at H
              exact absurd H (by simp)
            ·rw [if_neg c12] at H
             exact absurd H (by simp)
           ·rw [if_neg c11] at H
            exact absurd H (by simp)
       ·rw [if_neg c6] at H
        exact absurd H (by simp)
      ·replace c5:=Bool.eq_false_iff.mpr c5
       subst c5
       have H1:(some (qH,(bL.toList == ([0]:List UInt8)))) = some (r1,r2):=by rw [if_neg (show ¬ (false = true) by decide)] at H;exact H
       clear H
       have H:=H1
       clear H1
       simp only [Option.some.injEq,Prod.mk.injEq] at H
       obtain ⟨rfl,rfl⟩:=H
       go_wp2
       go_ret2
       exact ⟨_,by first | rfl | (simp [aI,aJ] <;> rfl) | (simp [*,aI,aJ] <;> rfl),by (with_reducible repeat (first | apply Kd.fJ | apply Kd.gB | apply Kd.gI));exact qI.out,by repeat (first | (with_reducible first | exact HB.out | apply ak | apply ah | apply au) | exact HB.out)⟩
def iR.f (k:Nat) (a0:ByteArray):Option (Bool):=(bM.f k a0).bind fun Nj=>(some Nj.2)
set_option maxHeartbeats 8000000 in
set_option maxRecDepth 100000 in
theorem iR.calls (k:Nat) (a0:ByteArray) (r:Bool) (w:World) (h:iR.f k a0 = some r) :
  Calls Try.prog 70 #[.string a0] w fun e w'=>e = .returned (.bool r) ∧ Below w.heap.size w w':=by
 have HB:=aj.mk (Below.refl w.heap.size w)
 have H:((bM.f k a0).bind fun Nj=>(some Nj.2)) = some r:=h
 clear h
 replace H:=zbm H
 obtain ⟨⟨afv,t105⟩,Nk,H⟩:=H
 replace H:(some t105) = some r:=H
 have A2:=aj.mk Nk
 clear Nk
 obtain rfl:=Option.some.inj H
 go_enter Try.func70,Try.ntmps70
 go_wp2_with (first | ((with_reducible refine aU (f:=87) rfl ?_);refine bP (some 7) rfl rfl Try.func87 (by kernel_rfl) rfl #[.string a0] rfl (by (try simp only [List.map_toArray,List.map_cons,List.map_nil]);first | done | rfl | (simp only [List.length_drop,List.length_take];rfl) | (simp only [ByteArray.size_append,Int.natCast_add];rfl) | (rw [B.dW] <;> first | rfl | omega | (simp only [decide_eq_false_iff_not,decide_eq_true_eq,Int.not_lt,Nat.not_lt,gt_iff_lt] at * <;> omega))) ?_;(with_reducible refine (bM.calls k a0 afv t105 _ A2.out).mono ?_);rintro e w3 ⟨ah4,rfl,ho0,hb⟩;refine ⟨_,rfl,?_⟩;have eF:=aj.mk (Kd.tH ho0 (bK (by repeat (first | (with_reducible first | exact HB.out | apply ak | apply ah | apply au) | exact HB.out))));have iE:=aj.mk (bI (by repeat (first | (with_reducible first | exact HB.out | apply ak | apply ah | apply au) | exact HB.out)) hb);clear HB;have agX:=eF;have HB:=iE;clear eF iE;(try clear hb);(try clear hb2);(try clear hk);(try clear hi);(try clear ho0)))
 go_ret
 exact ⟨by first | rfl | (simp [aI,aJ] <;> rfl) | (simp [*,aI,aJ] <;> rfl),by repeat (first | (with_reducible first | exact HB.out | apply ak | apply ah | apply au) | exact HB.out)⟩
def mM.f (a0:Int):Option (Int):=if a0 ≥ 65 then (if a0 ≤ 90 then (some ((a0 + 32) % 256)) else (some a0)) else (some a0)
set_option maxHeartbeats 8000000 in
set_option maxRecDepth 100000 in
theorem mM.calls (a0:Int) (r:Int) (w:World) (h:mM.f a0 = some r) :
  Calls Try.prog 88 #[.int .u8 a0] w fun e w'=>e = .returned (.int .u8 r) ∧ aW w w':=by
 have H:(if a0 ≥ 65 then (if a0 ≤ 90 then (some ((a0 + 32) % 256)) else (some a0)) else (some a0)) = some r:=h
 clear h
 by_cases c2:a0 ≥ 65
 ·rw [if_pos c2] at H
  have wH:decide (65 ≤ a0) = true:=decide_eq_true c2
  clear c2
  by_cases c3:a0 ≤ 90
  ·rw [if_pos c3] at H
   have qK:decide (a0 ≤ 90) = true:=decide_eq_true c3
   clear c3
   obtain rfl:=Option.some.inj H
   go_enter Try.func88,Try.ntmps88
   go_wp2
   go_ret
   exact ⟨by first | rfl | (simp;done) | (simp [*];done),by repeat (first | exact aW.refl _ | apply aW.step)⟩
  ·rw [if_neg c3] at H
   have qK:decide (a0 ≤ 90) = false:=decide_eq_false c3
   clear c3
   obtain rfl:=Option.some.inj H
   go_enter Try.func88,Try.ntmps88
   go_wp2
   go_ret
   exact ⟨by first | rfl | (simp;done) | (simp [*];done),by repeat (first | exact aW.refl _ | apply aW.step)⟩
 ·rw [if_neg c2] at H
  have wH:decide (65 ≤ a0) = false:=decide_eq_false c2
  clear c2
  obtain rfl:=Option.some.inj H
  go_enter Try.func88,Try.ntmps88
  go_wp2
  go_ret
  exact ⟨by first | rfl | (simp;done) | (simp [*];done),by repeat (first | exact aW.refl _ | apply aW.step)⟩
def iX.f (a0:ByteArray):Option ByteArray:=if a0.size ≤ 140737488355328 then some (B.qG a0) else none
theorem iX.small (c:Int) (h0:0 ≤ c) (h1:c ≤ 255):mM.f c = some (B.iQ c):=by
 unfold mM.f B.iQ
 by_cases h2:65 ≤ c
 ·by_cases h3:c ≤ 90
  ·rw [if_pos (by omega),if_pos h3,if_pos ⟨h2,h3⟩];congr 1;omega
  ·rw [if_pos (by omega),if_neg h3,if_neg (by omega)]
 ·rw [if_neg (by omega),if_neg (by omega)]
set_option maxHeartbeats 8000000 in
set_option maxRecDepth 100000 in
theorem iX.calls (a0:ByteArray) (r:ByteArray) (w:World) (h:iX.f a0 = some r) :
  Calls Try.prog 71 #[.string a0] w fun e w'=>e = .returned (.string r) ∧ Below w.heap.size w w':=by
 unfold iX.f at h
 by_cases hs:a0.size ≤ 140737488355328
 ·rw [if_pos hs] at h
  obtain rfl:=Option.some.inj h
  clear h
  have kc:=fun (W:World)=>Lib.run_convert_string_bytes (P:=Try.prog) W 9 151 5 a0 Try.underlying9 Try.underlying151 Try.underlying5
  have hb0:=aj.mk (B.yT (Below.refl w.heap.size w) (Nat.le_refl _) 5 a0)
  have hr0:=aj.mk (B.yS w 5 a0)
  go_enter Try.func71,Try.ntmps71
  go_wp2
  generalize Lib.bytesWorld w 5 a0 = w1 at hb0 hr0 ⊢
  generalize grownCap w a0.size 0 5 = C
  have hz:=aj.mk (B.numsOf_length a0)
  have hg:=aj.mk (Nat.le_refl w.heap.size)
  generalize hgg:w.heap.size = g at hb0 hr0 hg ⊢
  have hg':=aj.mk hgg
  clear hgg
  go_loopw [10] (fun v wr=>∃ k:Nat,k ≤ a0.size ∧ v = .int .i64 k ∧ aj (B.vR wr g (B.iW k (B.numsOf a0))) ∧ aj (Below g w wr)) (fun v _=>a0.size - (intOf v).toNat)
  case atStart=>exact ⟨0,Nat.zero_le _,rfl,⟨by rw [B.yR];exact hr0.out⟩,hb0⟩
  case round =>
   obtain ⟨k,hk,rfl,hrow,hbel⟩:=hrel
   clear hr0 hb0 kc
   by_cases hlt:k < a0.size
   ·have hkl:k < (B.numsOf a0).length:=by rw [hz.out];exact hlt
    have hc:=(hrow.out k (by rw [B.gQ];exact hkl))
    rw [B.Ej k _ hkl,B.numsOf_at] at hc
    obtain ⟨hc1,hc2⟩:=hc
    have hrange:=B.Az a0 k
    have hsm:=aj.mk (iX.small (bt a0 k) hrange.1 hrange.2)
    have hset:=aj.mk (B.rowAt_set hrow.out k (B.iQ (bt a0 k)) (by rw [B.gQ];exact hkl))
    have hset':=aj.mk (show B.vR (wr.setCell ⟨g,k,none⟩ (.int .u8 (B.iQ (bt a0 k)))) g (B.iW (k + 1) (B.numsOf a0)) by
     have h1:=hset.out
     rw [← B.numsOf_at,B.uZ k _ hkl] at h1
     rw [← B.numsOf_at]
     exact h1)
    have lD:=aj.mk (hbel.out.setCell (p:=⟨g,k,none⟩) (Nat.le_refl _) (.int .u8 (B.iQ (bt a0 k))))
    clear hset hrow hbel hkl
    generalize bt a0 k = c at *
    go_wp2_with (go_at_call 88;(with_reducible refine (mM.calls c _ _ hsm.out).mono ?_);rintro e w' ⟨rfl,⟨nd,rfl⟩⟩)
    go_roundw
    case rel=>exact ⟨k + 1,by omega,by go_num,⟨fun j hj=>hset'.out j hj⟩,⟨by first | exact lD.out | exact ⟨lD.out.os,lD.out.tape,lD.out.output,lD.out.size,lD.out.block⟩⟩⟩
    case measure=>simp [intOf];omega
   ·obtain rfl:k = a0.size:=by omega
    have hl:(B.iW a0.size (B.numsOf a0)).length = a0.size:=by rw [B.gQ];exact hz.out
    have kd:=fun (dst:TypeId) (hd:Try.prog.underlying dst = some .string)=>run_convert_bytes_arg (P:=Try.prog) wr 151 5 Try.underlying151 Try.underlying5 g 0 a0.size C (B.iW a0.size (B.numsOf a0)) hl (fun i hi=>by rw [Nat.zero_add];exact (hrow.out i (by rw [hl];exact hi)).1) dst hd
    replace kd:=kd 9 Try.underlying9
    have he:=aj.mk (show strOfNums (B.iW a0.size (B.numsOf a0)) = B.qG a0 by
     have:=B.Ay (B.numsOf a0)
     rw [hz.out] at this
     rw [this];rfl)
    generalize strOfNums (B.iW a0.size (B.numsOf a0)) = q at kd he
    clear hrow hl hlt
    have he':=he.out
    clear he
    subst he'
    go_wp2
    go_ret
    exact ⟨rfl,by rw [hg'.out];exact hbel.out⟩
 ·rw [if_neg hs] at h
  exact absurd h (by simp)
def mO.f (k:Nat) (a0:ByteArray):Option (ByteArray):=(iR.f k a0).bind fun JV=>(if JV = true then ((iX.f a0).bind fun t109=>(some t109)) else (some (⟨#[]⟩:ByteArray)))
set_option maxHeartbeats 8000000 in
set_option maxRecDepth 100000 in
theorem mO.calls (k:Nat) (a0:ByteArray) (r:ByteArray) (w:World) (h:mO.f k a0 = some r) :
  Calls Try.prog 48 #[.string a0] w fun e w'=>e = .returned (.string r) ∧ Below w.heap.size w w':=by
 have HB:=aj.mk (Below.refl w.heap.size w)
 have H:((iR.f k a0).bind fun JV=>(if JV = true then ((iX.f a0).bind fun t109=>(some t109)) else (some (⟨#[]⟩:ByteArray)))) = some r:=h
 clear h
 replace H:=zbm H
 obtain ⟨JV,Nk,H⟩:=H
 replace H:(if JV = true then ((iX.f a0).bind fun t109=>(some t109)) else (some (⟨#[]⟩:ByteArray))) = some r:=H
 have A2:=aj.mk Nk
 clear Nk
 by_cases c3:JV = true
 ·subst c3
  have H1:((iX.f a0).bind fun t109=>(some t109)) = some r:=by rw [if_pos rfl] at H;exact H
  clear H
  have H:=H1
  clear H1
  replace H:=zbm H
  obtain ⟨t109,Er,H⟩:=H
  replace H:(some t109) = some r:=H
  have A4:=aj.mk Er
  clear Er
  obtain rfl:=Option.some.inj H
  go_enter Try.func48,Try.ntmps48
  go_wp2_with (first | ((with_reducible refine aU (f:=70) rfl ?_);refine bP (some 4) rfl rfl Try.func70 (by kernel_rfl) rfl #[.string a0] rfl (by (try simp only [List.map_toArray,List.map_cons,List.map_nil]);first | done | rfl | (simp only [List.length_drop,List.length_take];rfl) | (simp only [ByteArray.size_append,Int.natCast_add];rfl) | (rw [B.dW] <;> first | rfl | omega | (simp only [decide_eq_false_iff_not,decide_eq_true_eq,Int.not_lt,Nat.not_lt,gt_iff_lt] at * <;> omega))) ?_;(with_reducible refine (iR.calls k a0 true _ A2.out).mono ?_);rintro e w5 ⟨rfl,hb⟩;refine ⟨_,rfl,?_⟩;have eF:=aj.mk (bI (by repeat (first | (with_reducible first | exact HB.out | apply ak | apply ah | apply au) | exact HB.out)) hb);clear HB;have HB:=eF;clear eF;(try clear hb);(try clear hb2);(try clear hk);(try clear hi)) | ((with_reducible refine aU (f:=71) rfl ?_);refine bP (some 7) rfl rfl Try.func71 (by kernel_rfl) rfl #[.string a0] rfl (by (try simp only [List.map_toArray,List.map_cons,List.map_nil]);first | done | rfl | (simp only [List.length_drop,List.length_take];rfl) | (simp only [ByteArray.size_append,Int.natCast_add];rfl) | (rw [B.dW] <;> first | rfl | omega | (simp only [decide_eq_false_iff_not,decide_eq_true_eq,Int.not_lt,Nat.not_lt,gt_iff_lt] at * <;> omega))) ?_;(with_reducible refine (iX.calls a0 t109 _ A4.out).mono ?_);rintro e w6 ⟨rfl,hb⟩;refine ⟨_,rfl,?_⟩;have eF:=aj.mk (bI (by repeat (first | (with_reducible first | exact HB.out | apply ak | apply ah | apply au) | exact HB.out)) hb);clear HB;have HB:=eF;clear eF;(try clear hb);(try clear hb2);(try clear hk);(try clear hi)))
  go_ret
  exact ⟨by first | rfl | (simp [aI,aJ] <;> rfl) | (simp [*,aI,aJ] <;> rfl),by repeat (first | (with_reducible first | exact HB.out | apply ak | apply ah | apply au) | exact HB.out)⟩
 ·replace c3:=Bool.eq_false_iff.mpr c3
  subst c3
  have H1:(some (⟨#[]⟩:ByteArray)) = some r:=by rw [if_neg (show ¬ (false = true) by decide)] at H;exact H
  clear H
  have H:=H1
  clear H1
  obtain rfl:=Option.some.inj H
  go_enter Try.func48,Try.ntmps48
  go_wp2_with (first | ((with_reducible refine aU (f:=70) rfl ?_);refine bP (some 4) rfl rfl Try.func70 (by kernel_rfl) rfl #[.string a0] rfl (by (try simp only [List.map_toArray,List.map_cons,List.map_nil]);first | done | rfl | (simp only [List.length_drop,List.length_take];rfl) | (simp only [ByteArray.size_append,Int.natCast_add];rfl) | (rw [B.dW] <;> first | rfl | omega | (simp only [decide_eq_false_iff_not,decide_eq_true_eq,Int.not_lt,Nat.not_lt,gt_iff_lt] at * <;> omega))) ?_;(with_reducible refine (iR.calls k a0 false _ A2.out).mono ?_);rintro e w7 ⟨rfl,hb⟩;refine ⟨_,rfl,?_⟩;have eF:=aj.mk (bI (by repeat (first | (with_reducible first | exact HB.out | apply ak | apply ah | apply au) | exact HB.out)) hb);clear HB;have HB:=eF;clear eF;(try clear hb);(try clear hb2);(try clear hk);(try clear hi)))
  go_ret
  exact ⟨by first | rfl | (simp [aI,aJ] <;> rfl) | (simp [*,aI,aJ] <;> rfl),by repeat (first | (with_reducible first | exact HB.out | apply ak | apply ah | apply au) | exact HB.out)⟩
end Go.Proofs.Ytfokaoeinpnagaa.ZQ
namespace Go.Proofs.Ytfokaoeinpnagaa.ZQ
open Go.RowKit Go.Proofs.YtfokaoeinpnagaaW.bD Go.Proofs.YtfokaoeinpnagaaW.dJ Go.Proofs.YtfokaoeinpnagaaW.eG
attribute [local go_sem] jy jA kD kE iI iJ jB jC
mutual
def aM.j0 : Nat → ByteArray → List ByteArray → Bool → Option (List ByteArray × Bool)
 | 0,_,_,_=>none
 | k + 1,x0,x4,Qm=>if Qm = true then (some (([]:List ByteArray),false)) else (aM.l0 k x0 x4 0)
def aM.l0 : Nat → ByteArray → List ByteArray → Int → Option (List ByteArray × Bool)
 | 0,_,_,_=>none
 | k + 1,x0,x4,x5=>if x5 < (x0.size:Int) then (if 0 ≤ x5 then (if (wrap64 (bt x0 x5)) = 0 then (some (x4,(x5 == (wrap64 ((x0.size:Int) - 1))))) else (if (wrap64 (bt x0 x5)) > 63 then (some (([]:List ByteArray),false)) else (if (wrap64 (bt x0 x5)) ≥ (wrap64 ((x0.size:Int) - x5)) then (some (([]:List ByteArray),false)) else (if 0 ≤ (wrap64 (x5 + 1)) then (if (wrap64 (x5 + 1)) ≤ (wrap64 ((wrap64 (x5 + 1)) + (wrap64 (bt x0 x5)))) then (if (wrap64 ((wrap64 (x5 + 1)) + (wrap64 (bt x0 x5)))) ≤ (x0.size:Int) then (if x4.length < 8796093022208 then (aM.l0 k x0 (x4 ++ [x0.extract ((wrap64 (x5 + 1)):Int).toNat ((wrap64 ((wrap64 (x5 + 1)) + (wrap64 (bt x0 x5)))):Int).toNat]) (wrap64 ((wrap64 (x5 + 1)) + (wrap64 (bt x0 x5))))) else (none)) else (none)) else (none)) else (none))))) else (none)) else (some (([]:List ByteArray),false))
end
def aM.f (k:Nat) (a0:ByteArray):Option (List ByteArray × Bool):=if (a0.size:Int) < 1 then (aM.j0 k a0 ([]:List ByteArray) true) else (aM.j0 k a0 ([]:List ByteArray) (decide ((a0.size:Int) > 255)))
set_option maxHeartbeats 8000000 in
set_option maxRecDepth 100000 in
theorem aM.calls (k:Nat) (a0:ByteArray) (r1:List ByteArray) (r2:Bool) (w:World) (h:aM.f k a0 = some (r1,r2)) :
  Calls Try.prog 46 #[.string a0] w fun e w'=>∃ Nf:Value,e = .returned (.tuple #[Nf,.bool r2]) ∧ Kd.R Kd.string 9 w' w.heap.size (fun _=>True) Nf r1 ∧ Below w.heap.size w w':=by
 have HB:=aj.mk (Below.refl w.heap.size w)
 have H:(if (a0.size:Int) < 1 then (aM.j0 k a0 ([]:List ByteArray) true) else (aM.j0 k a0 ([]:List ByteArray) (decide ((a0.size:Int) > 255)))) = some (r1,r2):=h
 clear h
 have V4:=aj.mk H
 clear H
 go_enter Try.func46,Try.ntmps46
 go_upto_region 2 with (fail)
 go_cut [14] (fun v14 wc=>∃ (kq:Nat) (bO:Bool),v14 = .bool bO ∧ aj (aM.j0 kq a0 ([]:List ByteArray) bO = some (r1,r2)) ∧ aj (kq ≤ k) ∧ aj (Kd.R Kd.string 9 wc w.heap.size (fun _=>True) (.slice none 0 0) ([]:List ByteArray)) ∧ aj (Below w.heap.size w wc))
 case first =>
  have H:=V4.out
  clear V4
  by_cases c3:(a0.size:Int) < 1
  ·rw [if_pos c3] at H
   have qK:decide ((a0.size:Int) < 1) = true:=decide_eq_true c3
   have Ct:decide (a0.size < 1) = true:=decide_eq_true (by omega)
   clear c3
   (first | rw [qK] | rw [Nl] | (simp only [gV,iD];rw [qK]) | skip)
   have H':=aj.mk H
   clear H
   go_wp2
   go_meet
   case rel=>exact ⟨_,(true),(by first | rfl | (simp;done) | (simp [*];done) | (simp [B.aX];done) | (simp [B.aY];done)),H',⟨by first | omega | exact Nat.le_refl _⟩,⟨by first | exact Kd.jJ _ _ _ _ _ | exact Kd.lq _ _ _ _ _ | exact Kd.lu _ _ _ _ _ | exact Kd.kZ _ _ _ _ _ | exact Kd.lg _ _ _ _ _⟩,⟨by repeat (first | (with_reducible first | exact HB.out | apply ak | apply ah | apply au) | exact HB.out)⟩⟩
  ·rw [if_neg c3] at H
   have qK:decide ((a0.size:Int) < 1) = false:=decide_eq_false c3
   have Ct:decide (a0.size < 1) = false:=decide_eq_false (by omega)
   clear c3
   (first | rw [qK] | rw [Nl] | (simp only [gV,iD];rw [qK]) | skip)
   have H':=aj.mk H
   clear H
   go_wp2
   go_meet
   case rel=>exact ⟨_,(decide ((a0.size:Int) > 255)),(by first | rfl | (simp;done) | (simp [*];done) | (simp [B.aX];done) | (simp [B.aY];done)),H',⟨by first | omega | exact Nat.le_refl _⟩,⟨by first | exact Kd.jJ _ _ _ _ _ | exact Kd.lq _ _ _ _ _ | exact Kd.lu _ _ _ _ _ | exact Kd.kZ _ _ _ _ _ | exact Kd.lg _ _ _ _ _⟩,⟨by repeat (first | (with_reducible first | exact HB.out | apply ak | apply ah | apply au) | exact HB.out)⟩⟩
 case rest =>
  clear V4
  try clear p2
  try clear c3
  try clear qK
  try clear Ct
  try clear Nl
  obtain ⟨kq,bO,rfl,HA,HJ1,qI,HB⟩:=hcut
  cases kq with
  | zero=>exact absurd HA.out (by simp [aM.j0])
  | succ kj1 =>
   have H:=HA.out
   clear HA
   simp only [aM.j0] at H
   by_cases c4:bO = true
   ·subst c4
    have H1:(some (([]:List ByteArray),false)) = some (r1,r2):=by rw [if_pos rfl] at H;exact H
    clear H
    have H:=H1
    clear H1
    simp only [Option.some.injEq,Prod.mk.injEq] at H
    obtain ⟨rfl,rfl⟩:=H
    go_wp2
    go_ret2
    exact ⟨_,by first | rfl | (simp [aI,aJ] <;> rfl) | (simp [*,aI,aJ] <;> rfl),by first | exact Kd.jJ _ _ _ _ _ | exact Kd.lq _ _ _ _ _ | exact Kd.lu _ _ _ _ _ | exact Kd.kZ _ _ _ _ _ | exact Kd.lg _ _ _ _ _,by repeat (first | (with_reducible first | exact HB.out | apply ak | apply ah | apply au) | exact HB.out)⟩
   ·replace c4:=Bool.eq_false_iff.mpr c4
    subst c4
    have H1:(aM.l0 kj1 a0 ([]:List ByteArray) 0) = some (r1,r2):=by rw [if_neg (show ¬ (false = true) by decide)] at H;exact H
    clear H
    have H:=H1
    clear H1
    have H':=aj.mk H
    clear H
    go_wp2
    go_loopg [4,5] kj1 (fun kq v4 v5 w'=>∃ (Es:List ByteArray) (eZ:Int),v5 = .int .i64 eZ ∧ aj (aM.l0 kq a0 Es eZ = some (r1,r2)) ∧ aj (kq ≤ kj1) ∧ aj (Kd.R Kd.string 9 w' w.heap.size (fun _=>True) v4 Es) ∧ aj (Below w.heap.size w w'))
    case atStart=>exact ⟨(([]:List ByteArray)),(0),(by first | rfl | (simp;done) | (simp [*];done) | (simp [B.aX];done) | (simp [B.aY];done)),H',⟨Nat.le_refl _⟩,⟨by (with_reducible repeat (first | apply Kd.fJ | apply Kd.gB | apply Kd.gI));exact qI.out⟩,⟨by repeat (first | (with_reducible first | exact HB.out | apply ak | apply ah | apply au) | exact HB.out)⟩⟩
    case round =>
     clear H'
     try clear p2
     try clear c3
     try clear qK
     try clear Ct
     try clear Nl
     try clear c4
     try clear p2
     obtain ⟨Es,eZ,rfl,HA,Tq,qI,HB⟩:=hrel
     cases gk with
     | zero=>exact absurd HA.out (by simp [aM.l0])
     | succ k2 =>
      have H:=HA.out
      clear HA
      simp only [aM.l0] at H
      by_cases c5:eZ < (a0.size:Int)
      ·rw [if_pos c5] at H
       have pR:decide (eZ < (a0.size:Int)) = true:=decide_eq_true c5
       clear c5
       by_cases c6:0 ≤ eZ
       ·rw [if_pos c6] at H
        have zS:decide (0 ≤ eZ) = true:=decide_eq_true c6
        clear c6
        by_cases c8:(wrap64 (bt a0 eZ)) = 0
        ·rw [if_pos c8] at H
         have u7:((wrap64 (bt a0 eZ)) == 0) = true:=beq_iff_eq.mpr c8
         have vk:((wrap64 (bt a0 eZ)) != 0) = false:=bne_eq_false_iff_eq.mpr c8
         (try (have Nn:(((bt a0 eZ)) == 0) = true:=by have h_:((wrap64 (bt a0 eZ)) == 0) = true:=beq_iff_eq.mpr c8;rw [B.dW (by omega) (by omega)] at h_;exact h_))
         (try (have aap:(((bt a0 eZ)) != 0) = false:=by have h_:((wrap64 (bt a0 eZ)) != 0) = false:=bne_eq_false_iff_eq.mpr c8;rw [B.dW (by omega) (by omega)] at h_;exact h_))
         clear c8
         simp only [Option.some.injEq,Prod.mk.injEq] at H
         obtain ⟨rfl,rfl⟩:=H
         have p7:0 ≤ (eZ:Int):=of_decide_eq_true (by first | (with_reducible assumption) | assumption)
         have q7:eZ < (a0.size:Int):=of_decide_eq_true (by first | (with_reducible assumption) | assumption)
         have hx7:=nQ a0 eZ
         replace p7:=eq_true p7
         replace q7:=eq_true q7
         go_wp2
         go_ret2
         exact ⟨_,by first | rfl | (simp [aI,aJ] <;> rfl) | (simp [*,aI,aJ] <;> rfl),by (with_reducible repeat (first | apply Kd.fJ | apply Kd.gB | apply Kd.gI));exact qI.out,by repeat (first | (with_reducible first | exact HB.out | apply ak | apply ah | apply au) | exact HB.out)⟩
        ·rw [if_neg c8] at H
         have u7:((wrap64 (bt a0 eZ)) == 0) = false:=beq_eq_false_iff_ne.mpr c8
         have vk:((wrap64 (bt a0 eZ)) != 0) = true:=bne_iff_ne.mpr c8
         (try (have Nn:(((bt a0 eZ)) == 0) = false:=by have h_:((wrap64 (bt a0 eZ)) == 0) = false:=beq_eq_false_iff_ne.mpr c8;rw [B.dW (by omega) (by omega)] at h_;exact h_))
         (try (have aap:(((bt a0 eZ)) != 0) = true:=by have h_:((wrap64 (bt a0 eZ)) != 0) = true:=bne_iff_ne.mpr c8;rw [B.dW (by omega) (by omega)] at h_;exact h_))
         by_cases c9:(wrap64 (bt a0 eZ)) > 63
         ·rw [if_pos c9] at H
          have tV:decide (63 < (wrap64 (bt a0 eZ))) = true:=decide_eq_true c9
          (try (have Ep:decide (63 < ((bt a0 eZ))) = true:=by have h_:decide (63 < (wrap64 (bt a0 eZ))) = true:=decide_eq_true c9;rw [B.dW (by omega) (by omega)] at h_;exact h_))
          clear c9
          simp only [Option.some.injEq,Prod.mk.injEq] at H
          obtain ⟨rfl,rfl⟩:=H
          have p7:0 ≤ (eZ:Int):=of_decide_eq_true (by first | (with_reducible assumption) | assumption)
          have q7:eZ < (a0.size:Int):=of_decide_eq_true (by first | (with_reducible assumption) | assumption)
          have hx7:=nQ a0 eZ
          replace p7:=eq_true p7
          replace q7:=eq_true q7
          go_wp2
          go_ret2
          exact ⟨_,by first | rfl | (simp [aI,aJ] <;> rfl) | (simp [*,aI,aJ] <;> rfl),by first | exact Kd.jJ _ _ _ _ _ | exact Kd.lq _ _ _ _ _ | exact Kd.lu _ _ _ _ _ | exact Kd.kZ _ _ _ _ _ | exact Kd.lg _ _ _ _ _,by repeat (first | (with_reducible first | exact HB.out | apply ak | apply ah | apply au) | exact HB.out)⟩
         ·rw [if_neg c9] at H
          have tV:decide (63 < (wrap64 (bt a0 eZ))) = false:=decide_eq_false c9
          (try (have Ep:decide (63 < ((bt a0 eZ))) = false:=by have h_:decide (63 < (wrap64 (bt a0 eZ))) = false:=decide_eq_false c9;rw [B.dW (by omega) (by omega)] at h_;exact h_))
          clear c9
          by_cases c10:(wrap64 (bt a0 eZ)) ≥ (wrap64 ((a0.size:Int) - eZ))
          ·rw [if_pos c10] at H
           have qX:decide ((wrap64 ((a0.size:Int) - eZ)) ≤ (wrap64 (bt a0 eZ))) = true:=decide_eq_true c10
           (try (have AL:decide ((((a0.size:Int) - eZ)) ≤ ((bt a0 eZ))) = true:=by have h_:decide ((wrap64 ((a0.size:Int) - eZ)) ≤ (wrap64 (bt a0 eZ))) = true:=decide_eq_true c10;rw [B.dW (by omega) (by omega)] at h_;rw [B.dW (by omega) (by omega)] at h_;exact h_))
           clear c10
           simp only [Option.some.injEq,Prod.mk.injEq] at H
           obtain ⟨rfl,rfl⟩:=H
           have p7:0 ≤ (eZ:Int):=of_decide_eq_true (by first | (with_reducible assumption) | assumption)
           have q7:eZ < (a0.size:Int):=of_decide_eq_true (by first | (with_reducible assumption) | assumption)
           have hx7:=nQ a0 eZ
           replace p7:=eq_true p7
           replace q7:=eq_true q7
           go_wp2
           go_ret2
           exact ⟨_,by first | rfl | (simp [aI,aJ] <;> rfl) | (simp [*,aI,aJ] <;> rfl),by first | exact Kd.jJ _ _ _ _ _ | exact Kd.lq _ _ _ _ _ | exact Kd.lu _ _ _ _ _ | exact Kd.kZ _ _ _ _ _ | exact Kd.lg _ _ _ _ _,by repeat (first | (with_reducible first | exact HB.out | apply ak | apply ah | apply au) | exact HB.out)⟩
          ·rw [if_neg c10] at H
           have qX:decide ((wrap64 ((a0.size:Int) - eZ)) ≤ (wrap64 (bt a0 eZ))) = false:=decide_eq_false c10
           (try (have AL:decide ((((a0.size:Int) - eZ)) ≤ ((bt a0 eZ))) = false:=by have h_:decide ((wrap64 ((a0.size:Int) - eZ)) ≤ (wrap64 (bt a0 eZ))) = false:=decide_eq_false c10;rw [B.dW (by omega) (by omega)] at h_;rw [B.dW (by omega) (by omega)] at h_;exact h_))
           clear c10
           obtain ⟨l7,Im⟩:∃ j_:Int,(wrap64 (eZ + 1)) = j_:=⟨_,rfl⟩
           replace H:(if 0 ≤ (l7) then (if (l7) ≤ (wrap64 ((l7) + (wrap64 (bt a0 eZ)))) then (if (wrap64 ((l7) + (wrap64 (bt a0 eZ)))) ≤ (a0.size:Int) then (if Es.length < 8796093022208 then (aM.l0 k2 a0 (Es ++ [a0.extract ((l7):Int).toNat ((wrap64 ((l7) + (wrap64 (bt a0 eZ)))):Int).toNat]) (wrap64 ((l7) + (wrap64 (bt a0 eZ))))) else (none)) else (none)) else (none)) else (none)) = some (r1,r2):=by first | (rw [Im] at H;exact H) | (simp only [Im] at H ⊢;exact H)
           have afw:(IntKind.i64.wrap (eZ + 1)) = l7:=(gV _).trans Im
           by_cases c12:0 ≤ (l7)
           ·rw [if_pos c12] at H
            have tX:=eq_true c12
            have tY:decide (0 ≤ (l7)) = true:=decide_eq_true c12
            clear c12
            by_cases c13:(l7) ≤ (wrap64 ((l7) + (wrap64 (bt a0 eZ))))
            ·rw [if_pos c13] at H
             have agY:=eq_true c13
             have agZ:decide ((l7) ≤ (wrap64 ((l7) + (wrap64 (bt a0 eZ))))) = true:=decide_eq_true c13
             by_cases c14:(wrap64 ((l7) + (wrap64 (bt a0 eZ)))) ≤ (a0.size:Int)
             ·rw [if_pos c14] at H
              have Io:=eq_true c14
              have Tt:decide ((wrap64 ((l7) + (wrap64 (bt a0 eZ)))) ≤ (a0.size:Int)) = true:=decide_eq_true c14
              by_cases c15:Es.length < 8796093022208
              ·rw [if_pos c15] at H
               have aaq:=aj.mk c15
               clear c15
               obtain ⟨aar,Et⟩:∃ y_:List ByteArray,y_ = (Es ++ [a0.extract ((l7):Int).toNat ((wrap64 ((l7) + (wrap64 (bt a0 eZ)))):Int).toNat]):=⟨_,rfl⟩
               replace H:(aM.l0 k2 a0 aar (wrap64 ((l7) + (wrap64 (bt a0 eZ))))) = some (r1,r2):=by first | (rw [Et];with_reducible exact H) | (have Gn:=(Option.bind_some _ _).symm.trans H;rw [Et];with_reducible exact Gn) | (have Gn:=(Option.bind_some _ _).symm.trans H;with_reducible exact Gn) | with_reducible exact H | (rw [Et];exact H) | exact H
               have aas:=aj.mk Et
               clear Et
               have H':=aj.mk H
               clear H
               have p7:0 ≤ (eZ:Int):=of_decide_eq_true (by first | (with_reducible assumption) | assumption)
               have q7:eZ < (a0.size:Int):=of_decide_eq_true (by first | (with_reducible assumption) | assumption)
               have hx7:=nQ a0 eZ
               replace p7:=eq_true p7
               replace q7:=eq_true q7
               go_wp2_with (first | ((with_reducible refine oq (b:=.append) (xs:=#[.tmp 41,.tmp 50]) rfl ?_);(try (refine jD (by rfl) ?_;dsimp only));at_builtin;refine Kd.yK Kd.string (w0:=w) w.heap.size rfl (.tmp 41) (.tmp 50) 25 9 (.string ⟨#[]⟩) 16 rfl Try.underlying25 Ij rfl (by decide) (by omega) u4 Es (a0.extract ((l7):Int).toNat ((wrap64 ((l7) + (wrap64 (bt a0 eZ)))):Int).toNat) [.string (a0.extract ((l7):Int).toNat ((wrap64 ((l7) + (wrap64 (bt a0 eZ)))):Int).toNat)] (fun _=>True) (fun _=>False) rfl rfl ?aP (fun _ hk=>hk.elim) ?aF ?aO ?aB ?aS ?aL ?_;(case aP=>exact rfl);(case aB=>exact (by repeat (first | (with_reducible first | exact HB.out | apply ak | apply ah | apply au) | exact HB.out)));(case aF=>exact (fun _ _=>trivial));(case aO=>exact (by (with_reducible repeat (first | apply Kd.fJ | apply Kd.gB | apply Kd.gI));exact qI.out));(case aS=>exact (bK (by repeat (first | (with_reducible first | exact HB.out | apply ak | apply ah | apply au) | exact HB.out))));(case aL=>have:=aaq.out;omega);intro ah5 w16 ho hb hg hat;rw [← aas.out] at ho;have eF:=aj.mk (hb);have iE:=aj.mk (ho);clear HB;clear qI;have HB:=eF;have aat:=iE;clear eF iE;clear ho hb hg hat))
               go_roundg k2
               case measure=>have:=HJ1.out;have:=Tq.out;omega
               case rel=>exact ⟨(aar),(wrap64 ((l7) + (wrap64 (bt a0 eZ)))),(by first | rfl | (simp;done) | (simp only [← Im] <;> (first | rfl | simp)) | (simp [*];done)),H',⟨by have:=HJ1.out;have:=Tq.out;omega⟩,⟨by (with_reducible repeat (first | apply Kd.fJ | apply Kd.gB | apply Kd.gI));exact aat.out⟩,⟨by repeat (first | (with_reducible first | exact HB.out | apply ak | apply ah | apply au) | exact HB.out)⟩⟩
              ·rw [if_neg c15] at H
               exact absurd H (by simp)
             ·rw [if_neg c14] at H
              exact absurd H (by simp)
            ·rw [if_neg c13] at H
             exact absurd H (by simp)
           ·rw [if_neg c12] at H
            exact absurd H (by simp)
       ·rw [if_neg c6] at H
        exact absurd H (by simp)
      ·rw [if_neg c5] at H
       have pR:decide (eZ < (a0.size:Int)) = false:=decide_eq_false c5
       clear c5
       simp only [Option.some.injEq,Prod.mk.injEq] at H
       obtain ⟨rfl,rfl⟩:=H
       go_wp2
       go_ret2
       exact ⟨_,by first | rfl | (simp [aI,aJ] <;> rfl) | (simp [*,aI,aJ] <;> rfl),by first | exact Kd.jJ _ _ _ _ _ | exact Kd.lq _ _ _ _ _ | exact Kd.lu _ _ _ _ _ | exact Kd.kZ _ _ _ _ _ | exact Kd.lg _ _ _ _ _,by repeat (first | (with_reducible first | exact HB.out | apply ak | apply ah | apply au) | exact HB.out)⟩
def dA.f (k:Nat) (a0:ByteArray):Option (Bool):=(aM.f k a0).bind fun Np=>(some Np.2)
set_option maxHeartbeats 8000000 in
set_option maxRecDepth 100000 in
theorem dA.calls (k:Nat) (a0:ByteArray) (r:Bool) (w:World) (h:dA.f k a0 = some r) :
  Calls Try.prog 24 #[.string a0] w fun e w'=>e = .returned (.bool r) ∧ Below w.heap.size w w':=by
 have HB:=aj.mk (Below.refl w.heap.size w)
 have H:((aM.f k a0).bind fun Np=>(some Np.2)) = some r:=h
 clear h
 replace H:=zbm H
 obtain ⟨⟨afx,aau⟩,Nk,H⟩:=H
 replace H:(some aau) = some r:=H
 have A2:=aj.mk Nk
 clear Nk
 obtain rfl:=Option.some.inj H
 go_enter Try.func24,Try.ntmps24
 go_wp2_with (first | ((with_reducible refine aU (f:=46) rfl ?_);refine bP (some 7) rfl rfl Try.func46 (by kernel_rfl) rfl #[.string a0] rfl (by (try simp only [List.map_toArray,List.map_cons,List.map_nil]);first | done | rfl | (simp only [List.length_drop,List.length_take];rfl) | (simp only [ByteArray.size_append,Int.natCast_add];rfl) | (rw [B.dW] <;> first | rfl | omega | (simp only [decide_eq_false_iff_not,decide_eq_true_eq,Int.not_lt,Nat.not_lt,gt_iff_lt] at * <;> omega))) ?_;(with_reducible refine (aM.calls k a0 afx aau _ A2.out).mono ?_);rintro e w3 ⟨ah6,rfl,ho0,hb⟩;refine ⟨_,rfl,?_⟩;have eF:=aj.mk (Kd.tH ho0 (bK (by repeat (first | (with_reducible first | exact HB.out | apply ak | apply ah | apply au) | exact HB.out))));have iE:=aj.mk (bI (by repeat (first | (with_reducible first | exact HB.out | apply ak | apply ah | apply au) | exact HB.out)) hb);clear HB;have ag0:=eF;have HB:=iE;clear eF iE;(try clear hb);(try clear hb2);(try clear hk);(try clear hi);(try clear ho0)))
 go_ret
 exact ⟨by first | rfl | (simp [aI,aJ] <;> rfl) | (simp [*,aI,aJ] <;> rfl),by repeat (first | (with_reducible first | exact HB.out | apply ak | apply ah | apply au) | exact HB.out)⟩
def cu.f (a0:ByteArray):Option ByteArray:=if a0.size ≤ 140737488355328 then some (B.qG a0) else none
set_option maxHeartbeats 8000000 in
set_option maxRecDepth 100000 in
theorem cu.calls (a0:ByteArray) (r:ByteArray) (w:World) (h:cu.f a0 = some r) :
  Calls Try.prog 64 #[.string a0] w fun e w'=>e = .returned (.string r) ∧ Below w.heap.size w w':=by
 unfold cu.f at h
 by_cases hs:a0.size ≤ 140737488355328
 ·rw [if_pos hs] at h
  obtain rfl:=Option.some.inj h
  clear h
  have kc:=fun (W:World)=>Lib.run_convert_string_bytes (P:=Try.prog) W 9 151 5 a0 Try.underlying9 Try.underlying151 Try.underlying5
  have hb0:=aj.mk (B.yT (Below.refl w.heap.size w) (Nat.le_refl _) 5 a0)
  have hr0:=aj.mk (B.yS w 5 a0)
  go_enter Try.func64,Try.ntmps64
  go_wp2
  generalize Lib.bytesWorld w 5 a0 = w1 at hb0 hr0 ⊢
  generalize grownCap w a0.size 0 5 = C
  have hz:=aj.mk (B.numsOf_length a0)
  have hg:=aj.mk (Nat.le_refl w.heap.size)
  generalize hgg:w.heap.size = g at hb0 hr0 hg ⊢
  have hg':=aj.mk hgg
  clear hgg
  go_loopw [4] (fun v wr=>∃ k:Nat,k ≤ a0.size ∧ v = .int .i64 k ∧ aj (B.vR wr g (B.iW k (B.numsOf a0))) ∧ aj (Below g w wr)) (fun v _=>a0.size - (intOf v).toNat)
  case atStart=>exact ⟨0,Nat.zero_le _,rfl,⟨by rw [B.yR];exact hr0.out⟩,hb0⟩
  case round =>
   obtain ⟨k,hk,rfl,hrow,hbel⟩:=hrel
   clear hr0 hb0 kc
   by_cases hlt:k < a0.size
   ·have hkl:k < (B.numsOf a0).length:=by rw [hz.out];exact hlt
    have hc:=(hrow.out k (by rw [B.gQ];exact hkl))
    rw [B.Ej k _ hkl,B.numsOf_at] at hc
    obtain ⟨hc1,hc2⟩:=hc
    have hrange:=B.Az a0 k
    have hset:=aj.mk (B.rowAt_set hrow.out k (B.iQ (bt a0 k)) (by rw [B.gQ];exact hkl))
    have hset':=aj.mk (show B.vR (wr.setCell ⟨g,k,none⟩ (.int .u8 (B.iQ (bt a0 k)))) g (B.iW (k + 1) (B.numsOf a0)) by
     have h1:=hset.out
     rw [← B.numsOf_at,B.uZ k _ hkl] at h1
     rw [← B.numsOf_at]
     exact h1)
    have lD:=aj.mk (hbel.out.setCell (p:=⟨g,k,none⟩) (Nat.le_refl _) (.int .u8 (B.iQ (bt a0 k))))
    have hsame:=aj.mk (show B.iQ (bt a0 k) = bt a0 k → B.vR wr g (B.iW (k + 1) (B.numsOf a0)) by
     intro he j hj
     have h1:=hrow.out j (by rw [B.gQ] at hj ⊢;exact hj)
     rw [← B.uZ k _ hkl,B.numsOf_at,he]
     by_cases e:j = k
     ·subst e
      rw [List.getD_eq_getElem?_getD,List.getElem?_set_self (by rw [B.gQ];exact hkl)]
      exact ⟨hc1,hc2⟩
     ·rw [List.getD_eq_getElem?_getD,List.getElem?_set_ne (fun h=>e h.symm),← List.getD_eq_getElem?_getD]
      exact h1)
    clear hset hrow hkl
    generalize bt a0 k = c at *
    by_cases c1:65 ≤ c
    ·by_cases c2:c ≤ 90
     ·have d1:decide (65 ≤ c) = true:=decide_eq_true c1
      have d2:decide (c ≤ 90) = true:=decide_eq_true c2
      have e1:B.iQ c = c + 32:=by unfold B.iQ;rw [if_pos ⟨c1,c2⟩]
      have e2:(c + 32) % 256 = c + 32:=by omega
      rw [e1] at hset' lD
      have e2':=aj.mk e2
      clear hsame hbel e1 e2 c1 c2
      go_wp2
      all_goals
       go_roundw
       case rel=>exact ⟨k + 1,by omega,by go_num,⟨fun j hj=>by first | exact hset'.out j hj | (rw [e2'.out];exact hset'.out j hj)⟩,⟨by first | exact lD.out | (rw [e2'.out];exact lD.out) | exact ⟨lD.out.os,lD.out.tape,lD.out.output,lD.out.size,lD.out.block⟩⟩⟩
       case measure=>simp [intOf];omega
     ·have d1:decide (65 ≤ c) = true:=decide_eq_true c1
      have d2:decide (c ≤ 90) = false:=decide_eq_false c2
      have e1:B.iQ c = c:=by unfold B.iQ;rw [if_neg (by omega)]
      have hr2:=aj.mk (hsame.out e1)
      clear hsame hset' lD e1 c1 c2
      go_wp2
      go_roundw
      case rel=>exact ⟨k + 1,by omega,by go_num,hr2,hbel⟩
      case measure=>simp [intOf];omega
    ·have d1:decide (65 ≤ c) = false:=decide_eq_false c1
     have e1:B.iQ c = c:=by unfold B.iQ;rw [if_neg (by omega)]
     have hr2:=aj.mk (hsame.out e1)
     clear hsame hset' lD e1 c1
     go_wp2
     go_roundw
     case rel=>exact ⟨k + 1,by omega,by go_num,hr2,hbel⟩
     case measure=>simp [intOf];omega
   ·obtain rfl:k = a0.size:=by omega
    have hl:(B.iW a0.size (B.numsOf a0)).length = a0.size:=by rw [B.gQ];exact hz.out
    have kd:=fun (dst:TypeId) (hd:Try.prog.underlying dst = some .string)=>run_convert_bytes_arg (P:=Try.prog) wr 151 5 Try.underlying151 Try.underlying5 g 0 a0.size C (B.iW a0.size (B.numsOf a0)) hl (fun i hi=>by rw [Nat.zero_add];exact (hrow.out i (by rw [hl];exact hi)).1) dst hd
    replace kd:=kd 9 Try.underlying9
    have he:=aj.mk (show strOfNums (B.iW a0.size (B.numsOf a0)) = B.qG a0 by
     have:=B.Ay (B.numsOf a0)
     rw [hz.out] at this
     rw [this];rfl)
    generalize strOfNums (B.iW a0.size (B.numsOf a0)) = q at kd he
    clear hrow hl hlt
    have he':=he.out
    clear he
    subst he'
    go_wp2
    go_ret
    exact ⟨rfl,by rw [hg'.out];exact hbel.out⟩
 ·rw [if_neg hs] at h
  exact absurd h (by simp)
def gM.f (k:Nat) (a0:ByteArray):Option (ByteArray):=(dA.f k a0).bind fun t117=>(if t117 = true then ((cu.f a0).bind fun zT=>(some zT)) else (some (⟨#[]⟩:ByteArray)))
set_option maxHeartbeats 8000000 in
set_option maxRecDepth 100000 in
theorem gM.calls (k:Nat) (a0:ByteArray) (r:ByteArray) (w:World) (h:gM.f k a0 = some r) :
  Calls Try.prog 37 #[.string a0] w fun e w'=>e = .returned (.string r) ∧ Below w.heap.size w w':=by
 have HB:=aj.mk (Below.refl w.heap.size w)
 have H:((dA.f k a0).bind fun t117=>(if t117 = true then ((cu.f a0).bind fun zT=>(some zT)) else (some (⟨#[]⟩:ByteArray)))) = some r:=h
 clear h
 replace H:=zbm H
 obtain ⟨t117,Nk,H⟩:=H
 replace H:(if t117 = true then ((cu.f a0).bind fun zT=>(some zT)) else (some (⟨#[]⟩:ByteArray))) = some r:=H
 have A2:=aj.mk Nk
 clear Nk
 by_cases c3:t117 = true
 ·subst c3
  have H1:((cu.f a0).bind fun zT=>(some zT)) = some r:=by rw [if_pos rfl] at H;exact H
  clear H
  have H:=H1
  clear H1
  replace H:=zbm H
  obtain ⟨zT,Er,H⟩:=H
  replace H:(some zT) = some r:=H
  have A4:=aj.mk Er
  clear Er
  obtain rfl:=Option.some.inj H
  go_enter Try.func37,Try.ntmps37
  go_wp2_with (first | ((with_reducible refine aU (f:=24) rfl ?_);refine bP (some 4) rfl rfl Try.func24 (by kernel_rfl) rfl #[.string a0] rfl (by (try simp only [List.map_toArray,List.map_cons,List.map_nil]);first | done | rfl | (simp only [List.length_drop,List.length_take];rfl) | (simp only [ByteArray.size_append,Int.natCast_add];rfl) | (rw [B.dW] <;> first | rfl | omega | (simp only [decide_eq_false_iff_not,decide_eq_true_eq,Int.not_lt,Nat.not_lt,gt_iff_lt] at * <;> omega))) ?_;(with_reducible refine (dA.calls k a0 true _ A2.out).mono ?_);rintro e w5 ⟨rfl,hb⟩;refine ⟨_,rfl,?_⟩;have eF:=aj.mk (bI (by repeat (first | (with_reducible first | exact HB.out | apply ak | apply ah | apply au) | exact HB.out)) hb);clear HB;have HB:=eF;clear eF;(try clear hb);(try clear hb2);(try clear hk);(try clear hi)) | ((with_reducible refine aU (f:=64) rfl ?_);refine bP (some 7) rfl rfl Try.func64 (by kernel_rfl) rfl #[.string a0] rfl (by (try simp only [List.map_toArray,List.map_cons,List.map_nil]);first | done | rfl | (simp only [List.length_drop,List.length_take];rfl) | (simp only [ByteArray.size_append,Int.natCast_add];rfl) | (rw [B.dW] <;> first | rfl | omega | (simp only [decide_eq_false_iff_not,decide_eq_true_eq,Int.not_lt,Nat.not_lt,gt_iff_lt] at * <;> omega))) ?_;(with_reducible refine (cu.calls a0 zT _ A4.out).mono ?_);rintro e w6 ⟨rfl,hb⟩;refine ⟨_,rfl,?_⟩;have eF:=aj.mk (bI (by repeat (first | (with_reducible first | exact HB.out | apply ak | apply ah | apply au) | exact HB.out)) hb);clear HB;have HB:=eF;clear eF;(try clear hb);(try clear hb2);(try clear hk);(try clear hi)))
  go_ret
  exact ⟨by first | rfl | (simp [aI,aJ] <;> rfl) | (simp [*,aI,aJ] <;> rfl),by repeat (first | (with_reducible first | exact HB.out | apply ak | apply ah | apply au) | exact HB.out)⟩
 ·replace c3:=Bool.eq_false_iff.mpr c3
  subst c3
  have H1:(some (⟨#[]⟩:ByteArray)) = some r:=by rw [if_neg (show ¬ (false = true) by decide)] at H;exact H
  clear H
  have H:=H1
  clear H1
  obtain rfl:=Option.some.inj H
  go_enter Try.func37,Try.ntmps37
  go_wp2_with (first | ((with_reducible refine aU (f:=24) rfl ?_);refine bP (some 4) rfl rfl Try.func24 (by kernel_rfl) rfl #[.string a0] rfl (by (try simp only [List.map_toArray,List.map_cons,List.map_nil]);first | done | rfl | (simp only [List.length_drop,List.length_take];rfl) | (simp only [ByteArray.size_append,Int.natCast_add];rfl) | (rw [B.dW] <;> first | rfl | omega | (simp only [decide_eq_false_iff_not,decide_eq_true_eq,Int.not_lt,Nat.not_lt,gt_iff_lt] at * <;> omega))) ?_;(with_reducible refine (dA.calls k a0 false _ A2.out).mono ?_);rintro e w7 ⟨rfl,hb⟩;refine ⟨_,rfl,?_⟩;have eF:=aj.mk (bI (by repeat (first | (with_reducible first | exact HB.out | apply ak | apply ah | apply au) | exact HB.out)) hb);clear HB;have HB:=eF;clear eF;(try clear hb);(try clear hb2);(try clear hk);(try clear hi)))
  go_ret
  exact ⟨by first | rfl | (simp [aI,aJ] <;> rfl) | (simp [*,aI,aJ] <;> rfl),by repeat (first | (with_reducible first | exact HB.out | apply ak | apply ah | apply au) | exact HB.out)⟩
end Go.Proofs.Ytfokaoeinpnagaa.ZQ
namespace Go.Proofs.Ytfokaoeinpnagaa.ZQ
open Go.RowKit Go.Proofs.YtfokaoeinpnagaaW.bD Go.Proofs.YtfokaoeinpnagaaW.dJ Go.Proofs.YtfokaoeinpnagaaW.eG Go.Proofs.Ytfokaoeinpnagaa.B
theorem ni {n:ByteArray}:n.toList = ([0]:List UInt8) ↔ n = root:=by
 have:root.toList = ([0]:List UInt8):=by rw [Lib.toList_data];rfl
 rw [← this,toList_inj]
theorem Nq (d:Nat):∀ (k:Nat) (n:ByteArray) (acc:List ByteArray),n.size ≤ d → 1 ≤ n.size → d ≤ 255 → acc.length + d ≤ 1000 → 2 * d + 2 ≤ k →
  bM.l0 k n acc = some (match jR n.size n with | some l=>(acc ++ l,true) | none=>([],false)):=by
 induction d with
 | zero=>intro k n acc h1 h2;omega
 | succ d ih =>
  intro k n acc h1 h2 h3 h4 hk
  obtain ⟨k,rfl⟩:∃ m,k = m + 2:=⟨k - 2,by omega⟩
  rw [bM.l0,if_pos (by omega),bM.j1,yX h2]
  by_cases hr:n = root
  ·have hb:(n.toList != ([0]:List UInt8)) = false:=bne_eq_false_iff_eq.mpr (ni.mpr hr)
   have hb2:(n.toList == ([0]:List UInt8)) = true:=beq_iff_eq.mpr (ni.mpr hr)
   rw [hb,if_neg Bool.false_ne_true,if_pos hr,hb2]
   simp
  ·have hb:(n.toList != ([0]:List UInt8)) = true:=bne_iff_ne.mpr fun h=>hr (ni.mp h)
   have hbr:=gD n 0
   rw [hb,if_pos rfl,if_pos (by omega),if_neg hr,dW (n:=bt n 0) (by omega) (by omega),dW (n:=bt n 0 + 1) (by omega) (by omega),dW (n:=1 + bt n 0) (by omega) (by omega)]
   by_cases c1:bt n 0 < 1
   ·rw [if_pos c1,if_neg (by omega)]
   ·rw [if_neg c1]
    by_cases c2:bt n 0 > 63
    ·rw [if_pos c2,if_neg (by omega)]
    ·rw [if_neg c2]
     by_cases c3:bt n 0 + 1 ≥ (n.size:Int)
     ·rw [if_pos c3,if_neg (by omega)]
     ·rw [if_neg c3,if_pos (by omega),if_pos (by omega),if_pos (by omega),if_pos (by omega),if_pos (by omega)]
      have e:(1 + bt n 0).toNat = 1 + (bt n 0).toNat:=by omega
      rw [e,ih k _ _ (by rw [ByteArray.size_extract];omega) (by rw [ByteArray.size_extract];omega) (by omega) (by simp;omega) (by omega)]
      cases jR (n.extract (1 + (bt n 0).toNat) n.size).size (n.extract (1 + (bt n 0).toNat) n.size) with
      | none=>rfl
      | some l=>simp
def Cu (n:ByteArray):List ByteArray × Bool:=match tT n with | some l=>(l,true) | none=>([],false)
theorem Nr (k:Nat) (hk:600 ≤ k) (n:ByteArray) (hs:n.size ≤ 1000000000):bM.f k n = some (Cu n):=by
 unfold bM.f Cu tT
 by_cases h:n.size ≤ 255
 ·rw [if_neg (by omega),if_pos h]
  by_cases h0:n.size = 0
  ·obtain ⟨k,rfl⟩:∃ m,k = m + 2:=⟨k - 2,by omega⟩
   have hb2:(n.toList == ([0]:List UInt8)) = false:=beq_eq_false_iff_ne.mpr fun h=>by rw [ni] at h;rw [h,kT] at h0;omega
   rw [bM.l0,if_neg (by omega),bM.j1,if_neg Bool.false_ne_true,hb2,jR,if_pos h0]
  ·rw [Nq 255 k n [] h (by omega) (by omega) (by simp) (by omega),yV 255 n h]
   simp
 ·rw [if_pos (by omega),if_neg h]
theorem Gp (n:ByteArray):(Cu n).2 = jT n:=by
 unfold Cu jT
 cases tT n <;> rfl
theorem Eu (k:Nat) (hk:600 ≤ k) (n:ByteArray) (hs:n.size ≤ 1000000000):iR.f k n = some (jT n):=by
 unfold iR.f
 rw [Nr k hk n hs]
 simp only [Option.bind_some,Gp]
theorem V5 (n:ByteArray) (hs:n.size ≤ 1000000000):iX.f n = some (qG n):=by unfold iX.f;rw [if_pos (by omega)]
theorem Ns (n:ByteArray) (hs:n.size ≤ 1000000000):cu.f n = some (qG n):=by unfold cu.f;rw [if_pos (by omega)]
theorem y5 (a b:ByteArray):(a.toList == b.toList) = decide (a = b):=by
 rw [Bool.eq_iff_iff]
 simp only [beq_iff_eq,decide_eq_true_eq]
 exact toList_inj
theorem Nu (n:ByteArray):n.extract 0 n.size = n:=ByteArray.extract_zero_size
theorem JW (d:Nat):∀ (k:Nat) (n:ByteArray) (i:Nat) (acc:List ByteArray),i < n.size → n.size - i ≤ d → n.size ≤ 255 → acc.length + d ≤ 1000 → d + 2 ≤ k →
  ∃ o,aM.l0 k n acc i = some o ∧ (match jR (n.extract i n.size).size (n.extract i n.size) with | some l=>o = (acc ++ l,true) | none=>o.2 = false):=by
 induction d with
 | zero=>intro k n i acc h1 h2;omega
 | succ d ih =>
  intro k n i acc h1 h2 h3 h4 hk
  obtain ⟨k,rfl⟩:∃ m,k = m + 1:=⟨k - 1,by omega⟩
  have hz:(n.extract i n.size).size = n.size - i:=by rw [ByteArray.size_extract];omega
  have hb:bt (n.extract i n.size) 0 = bt n i:=by
   rw [mK (by omega) (by rw [hz];omega)]
   congr 1
  have hbr:=gD n i
  rw [aM.l0,if_pos (by omega),if_pos (by omega),yX (by rw [hz];omega),hb,dW (n:=bt n i) (by omega) (by omega)]
  by_cases c0:bt n i = 0
  ·rw [if_pos c0]
   refine ⟨_,rfl,?_⟩
   by_cases hr:n.extract i n.size = root
   ·have h5:=congrArg ByteArray.size hr
    rw [hz,kT] at h5
    rw [if_pos hr,dW (by omega) (by omega)]
    have:(i:Int) = (n.size:Int) - 1:=by omega
    simp [this]
   ·have h5:n.size - i ≠ 1:=by
     intro h6
     refine hr (Gh (by rw [hz,kT];exact h6) fun j j0 j1=>?_)
     rw [hz] at j1
     have:j = 0:=by omega
     subst this
     rw [hb,c0,Ic]
    rw [if_neg hr,if_neg (by omega),dW (by omega) (by omega)]
    simp
    omega
  ·have hr:n.extract i n.size ≠ root:=by
    intro h5
    rw [h5,Ic] at hb
    exact c0 hb.symm
   rw [if_neg c0,if_neg hr]
   by_cases c2:bt n i > 63
   ·rw [if_pos c2,if_neg (by omega)]
    exact ⟨_,rfl,rfl⟩
   ·rw [if_neg c2,dW (n:=(n.size:Int) - i) (by omega) (by omega)]
    by_cases c3:bt n i ≥ (n.size:Int) - i
    ·rw [if_pos c3,if_neg (by rw [hz];omega)]
     exact ⟨_,rfl,rfl⟩
    ·rw [if_neg c3,dW (n:=(i:Int) + 1) (by omega) (by omega),dW (n:=(i:Int) + 1 + bt n i) (by omega) (by omega),if_pos (by omega),if_pos (by omega),if_pos (by omega),if_pos (by omega)]
     have e:((i:Int) + 1 + bt n i) = ((i + 1 + (bt n i).toNat:Nat):Int):=by omega
     have e1:((i:Int) + 1).toNat = i + 1:=by omega
     rw [e,e1,Int.toNat_natCast]
     by_cases c4:i + 1 + (bt n i).toNat < n.size
     ·obtain ⟨o,ho,hm⟩:=ih k n (i + 1 + (bt n i).toNat) (acc ++ [n.extract (i + 1) (i + 1 + (bt n i).toNat)]) (by omega) (by omega) h3 (by simp;omega) (by omega)
      refine ⟨o,ho,?_⟩
      rw [if_pos (by rw [hz];omega)]
      have x1:(n.extract i n.size).extract 1 (1 + (bt n i).toNat) = n.extract (i + 1) (i + 1 + (bt n i).toNat):=by
       rw [ByteArray.extract_extract];congr 1;omega
      have x2:(n.extract i n.size).extract (1 + (bt n i).toNat) (n.extract i n.size).size = n.extract (i + 1 + (bt n i).toNat) n.size:=by
       rw [hz,ByteArray.extract_extract];congr 1 <;> omega
      rw [x1,x2]
      cases hl:jR (n.extract (i + 1 + (bt n i).toNat) n.size).size (n.extract (i + 1 + (bt n i).toNat) n.size) with
      | none=>rw [hl] at hm;simpa using hm
      | some l=>rw [hl] at hm;simpa using hm
     ·obtain ⟨k,rfl⟩:∃ m,k = m + 1:=⟨k - 1,by omega⟩
      rw [if_neg (by rw [hz];omega),aM.l0,if_neg (by omega)]
      exact ⟨_,rfl,rfl⟩
theorem JX (k:Nat) (hk:600 ≤ k) (n:ByteArray) (hs:n.size ≤ 1000000000) :
  ∃ o,aM.f k n = some o ∧ (match tT n with | some l=>o = (l,true) | none=>o.2 = false):=by
 obtain ⟨k,rfl⟩:∃ m,k = m + 1:=⟨k - 1,by omega⟩
 unfold aM.f tT
 by_cases h0:n.size = 0
 ·rw [if_pos (by omega),aM.j0,if_pos rfl,if_pos (by omega),jR,if_pos h0]
  exact ⟨_,rfl,rfl⟩
 ·rw [if_neg (by omega)]
  by_cases h:n.size ≤ 255
  ·have hd:decide ((n.size:Int) > 255) = false:=decide_eq_false (by omega)
   rw [hd,aM.j0,if_neg Bool.false_ne_true,if_pos h,yV 255 n h]
   have:=JW 255 k n 0 [] (by omega) (by omega) h (by simp) (by omega)
   rw [Nu] at this
   simpa using this
  ·have hd:decide ((n.size:Int) > 255) = true:=decide_eq_true (by omega)
   rw [hd,aM.j0,if_pos rfl,if_neg h]
   exact ⟨_,rfl,rfl⟩
theorem tZ (k:Nat) (hk:600 ≤ k) (n:ByteArray) (hs:n.size ≤ 1000000000):dA.f k n = some (jT n):=by
 obtain ⟨o,ho,hm⟩:=JX k hk n hs
 unfold dA.f jT
 rw [ho]
 simp only [Option.bind_some]
 cases hl:tT n with
 | none=>rw [hl] at hm;simpa using hm
 | some l=>rw [hl] at hm;simp at hm;rw [hm];rfl
end Go.Proofs.Ytfokaoeinpnagaa.ZQ
namespace Go.Proofs.Ytfokaoeinpnagaa.ZQ
open Go.RowKit Go.Proofs.YtfokaoeinpnagaaW.bD Go.Proofs.YtfokaoeinpnagaaW.dJ Go.Proofs.YtfokaoeinpnagaaW.eG
attribute [local go_sem] jy jA kD kE iI iJ jB jC
def eU.f (a0:ByteArray) (a1:Int) (a2:Int):Option (ByteArray × Bool) :=
 if (a0.size:Int) ≤ 9223372036854775807 then
  (if 0 ≤ a1 ∧ 0 ≤ a2 ∧ a1 + a2 ≤ (a0.size:Int) then some (a0.extract a1.toNat (a1 + a2).toNat,true) else some ((⟨#[]⟩:ByteArray),false))
 else none
theorem eU.mid (s:ByteArray) (a b:Int) (h0:0 ≤ a) (h1:0 ≤ b) (h2:a + b ≤ (s.size:Int)) :
  (s.extract a.toNat s.size).extract 0 b.toNat = s.extract a.toNat (a + b).toNat:=by
 rw [ByteArray.extract_extract]
 congr 1
 omega
set_option maxHeartbeats 8000000 in
set_option maxRecDepth 100000 in
theorem eU.calls (a0:ByteArray) (a1:Int) (a2:Int) (r1:ByteArray) (r2:Bool) (w:World) (h:eU.f a0 a1 a2 = some (r1,r2)) :
  Calls Try.prog 94 #[.string a0,.int .i64 a1,.int .i64 a2] w fun e w'=>e = .returned (.tuple #[.string r1,.bool r2]) ∧ aW w w':=by
 unfold eU.f at h
 by_cases hs:(a0.size:Int) ≤ 9223372036854775807
 ·rw [if_pos hs] at h
  by_cases hc:0 ≤ a1 ∧ 0 ≤ a2 ∧ a1 + a2 ≤ (a0.size:Int)
  ·rw [if_pos hc] at h
   simp only [Option.some.injEq,Prod.mk.injEq] at h
   obtain ⟨rfl,rfl⟩:=h
   obtain ⟨h0,h1,h2⟩:=hc
   have hw:wrap64 ((a0.size:Int) - a1) = (a0.size:Int) - a1:=by unfold wrap64;omega
   have hm:=aj.mk (eU.mid a0 a1 a2 h0 h1 h2)
   have c1:decide (a1 < 0) = false:=decide_eq_false (by omega)
   have c2:decide (a2 < 0) = false:=decide_eq_false (by omega)
   have c3:decide ((a0.size:Int) < a1) = false:=decide_eq_false (by omega)
   have c4:decide (wrap64 ((a0.size:Int) - a1) < a2) = false:=decide_eq_false (by omega)
   have c5:=eq_true h0
   have c6:(a1 ≤ (a0.size:Int)) = True:=eq_true (by omega)
   have c7:=eq_true h1
   have c8:(a2 ≤ ((a0.extract a1.toNat a0.size).size:Int)) = True:=eq_true (by simp only [ByteArray.size_extract];omega)
   have c9:(a2 ≤ (a0.size:Int) - (a1.toNat:Int)) = True:=eq_true (by omega)
   have c10:(a2 ≤ ((a0.size - a1.toNat:Nat):Int)) = True:=eq_true (by omega)
   clear hs hw h0 h1 h2
   go_enter Try.func94,Try.ntmps94
   go_wp2
   go_ret2
   exact ⟨by rw [hm.out];rfl,by repeat (first | exact aW.refl _ | apply aW.step)⟩
  ·rw [if_neg hc] at h
   simp only [Option.some.injEq,Prod.mk.injEq] at h
   obtain ⟨rfl,rfl⟩:=h
   by_cases c1:a1 < 0
   ·have c1':decide (a1 < 0) = true:=decide_eq_true c1
    clear hs hc c1
    go_enter Try.func94,Try.ntmps94
    go_wp2
    go_ret2
    exact ⟨rfl,by repeat (first | exact aW.refl _ | apply aW.step)⟩
   ·by_cases c2:a2 < 0
    ·have c1':decide (a1 < 0) = false:=decide_eq_false c1
     have c2':decide (a2 < 0) = true:=decide_eq_true c2
     clear hs hc c1 c2
     go_enter Try.func94,Try.ntmps94
     go_wp2
     go_ret2
     exact ⟨rfl,by repeat (first | exact aW.refl _ | apply aW.step)⟩
    ·by_cases c3:(a0.size:Int) < a1
     ·have c1':decide (a1 < 0) = false:=decide_eq_false c1
      have c2':decide (a2 < 0) = false:=decide_eq_false c2
      have c3':decide ((a0.size:Int) < a1) = true:=decide_eq_true c3
      clear hs hc c1 c2 c3
      go_enter Try.func94,Try.ntmps94
      go_wp2
      go_ret2
      exact ⟨rfl,by repeat (first | exact aW.refl _ | apply aW.step)⟩
     ·have hw:wrap64 ((a0.size:Int) - a1) = (a0.size:Int) - a1:=by unfold wrap64;omega
      have c1':decide (a1 < 0) = false:=decide_eq_false c1
      have c2':decide (a2 < 0) = false:=decide_eq_false c2
      have c3':decide ((a0.size:Int) < a1) = false:=decide_eq_false c3
      have c4':decide (wrap64 ((a0.size:Int) - a1) < a2) = true:=decide_eq_true (by omega)
      clear hs hc c1 c2 c3 hw
      go_enter Try.func94,Try.ntmps94
      go_wp2
      go_ret2
      exact ⟨rfl,by repeat (first | exact aW.refl _ | apply aW.step)⟩
 ·rw [if_neg hs] at h
  exact absurd h (by simp)
def gF.f (a0:Int):Option (Bool):=if a0 ≥ 1 then (some (decide (a0 ≤ 4))) else (some false)
set_option maxHeartbeats 8000000 in
set_option maxRecDepth 100000 in
theorem gF.calls (a0:Int) (r:Bool) (w:World) (h:gF.f a0 = some r) :
  Calls Try.prog 95 #[.int .i64 a0] w fun e w'=>e = .returned (.bool r) ∧ aW w w':=by
 have H:(if a0 ≥ 1 then (some (decide (a0 ≤ 4))) else (some false)) = some r:=h
 clear h
 by_cases c2:a0 ≥ 1
 ·rw [if_pos c2] at H
  have wH:decide (1 ≤ a0) = true:=decide_eq_true c2
  clear c2
  obtain rfl:=Option.some.inj H
  go_enter Try.func95,Try.ntmps95
  go_wp2
  go_ret
  exact ⟨by first | rfl | (simp;done) | (simp [*];done),by repeat (first | exact aW.refl _ | apply aW.step)⟩
 ·rw [if_neg c2] at H
  have wH:decide (1 ≤ a0) = false:=decide_eq_false c2
  clear c2
  obtain rfl:=Option.some.inj H
  go_enter Try.func95,Try.ntmps95
  go_wp2
  go_ret
  exact ⟨by first | rfl | (simp;done) | (simp [*];done),by repeat (first | exact aW.refl _ | apply aW.step)⟩
mutual
def bg.j0 : Nat → Int → ByteArray → Bool → Option (Int × Bool)
 | 0,_,_,_=>none
 | k + 1,x2,x8,x25=>if x25 = true then (some (0,false)) else (bg.l0 k x8 0 x2 0)
def bg.l0 : Nat → ByteArray → Int → Int → Int → Option (Int × Bool)
 | 0,_,_,_,_=>none
 | k + 1,x8,x10,x26,x27=>if x27 < x26 then (if 0 ≤ x27 then (if x27 < (x8.size:Int) then (bg.l0 k x8 (Go.bits .or .i64 (wrap64 (x10 * 256)) (wrap64 (bt x8 x27))) x26 (wrap64 (x27 + 1))) else (none)) else (none)) else (some (x10,true))
end
def bg.f (k:Nat) (a0:ByteArray) (a1:Int) (a2:Int):Option (Int × Bool):=(eU.f a0 a1 a2).bind fun y7=>(if y7.2 = true then ((gF.f a2).bind fun y8=>(bg.j0 k a2 y7.1 (!y8))) else (bg.j0 k a2 y7.1 true))
theorem bg.y9 : ∀ k,(∀ y0 y1 y2,kW (bg.j0 k y0 y1 y2) (bg.j0 (k + 1) y0 y1 y2)) ∧ (∀ y0 y1 y2 y3,kW (bg.l0 k y0 y1 y2 y3) (bg.l0 (k + 1) y0 y1 y2 y3))
 | 0=>⟨fun _ _ _ r h=>by simp [bg.j0] at h,fun _ _ _ _ r h=>by simp [bg.l0] at h⟩
 | k + 1=>by
  obtain ⟨V6,ih1⟩:=bg.y9 k
  refine ⟨?_,?_⟩
  ·intro y0 y1 y2
   unfold bg.j0
   repeat' first
   | (with_reducible exact V6 _ _ _)
   | (with_reducible exact ih1 _ _ _ _)
   | (with_reducible exact kW.refl _)
   | (with_reducible exact kW.none _)
   | (with_reducible refine kW.ite ?_ ?_)
   | (with_reducible refine kW.bind ?_ (fun _=>?_))
   | exact V6 _ _ _
   | exact ih1 _ _ _ _
   | exact kW.none _
   | refine kW.ite ?_ ?_
   | refine kW.bind ?_ (fun _=>?_)
  ·intro y0 y1 y2 y3
   unfold bg.l0
   repeat' first
   | (with_reducible exact V6 _ _ _)
   | (with_reducible exact ih1 _ _ _ _)
   | (with_reducible exact kW.refl _)
   | (with_reducible exact kW.none _)
   | (with_reducible refine kW.ite ?_ ?_)
   | (with_reducible refine kW.bind ?_ (fun _=>?_))
   | exact V6 _ _ _
   | exact ih1 _ _ _ _
   | exact kW.none _
   | refine kW.ite ?_ ?_
   | refine kW.bind ?_ (fun _=>?_)
theorem bg.mono : ∀ a0 a1 a2 k,kW (bg.f k a0 a1 a2) (bg.f (k + 1) a0 a1 a2):=by
 intro a0 a1 a2 k
 obtain ⟨V6,ih1⟩:=bg.y9 k
 unfold bg.f
 repeat' first
   | (with_reducible exact V6 _ _ _)
   | (with_reducible exact ih1 _ _ _ _)
   | (with_reducible exact kW.refl _)
   | (with_reducible exact kW.none _)
   | (with_reducible refine kW.ite ?_ ?_)
   | (with_reducible refine kW.bind ?_ (fun _=>?_))
   | exact V6 _ _ _
   | exact ih1 _ _ _ _
   | exact kW.none _
   | refine kW.ite ?_ ?_
   | refine kW.bind ?_ (fun _=>?_)
set_option maxHeartbeats 8000000 in
set_option maxRecDepth 100000 in
theorem bg.calls (k:Nat) (a0:ByteArray) (a1:Int) (a2:Int) (r1:Int) (r2:Bool) (w:World) (h:bg.f k a0 a1 a2 = some (r1,r2)) :
  Calls Try.prog 80 #[.string a0,.int .i64 a1,.int .i64 a2] w fun e w'=>e = .returned (.tuple #[.int .i64 r1,.bool r2]) ∧ aW w w':=by
 have H:((eU.f a0 a1 a2).bind fun y7=>(if y7.2 = true then ((gF.f a2).bind fun y8=>(bg.j0 k a2 y7.1 (!y8))) else (bg.j0 k a2 y7.1 true))) = some (r1,r2):=h
 clear h
 replace H:=zbm H
 obtain ⟨⟨t119,V7⟩,Er,H⟩:=H
 replace H:(if V7 = true then ((gF.f a2).bind fun y8=>(bg.j0 k a2 t119 (!y8))) else (bg.j0 k a2 t119 true)) = some (r1,r2):=H
 have A4:=aj.mk Er
 clear Er
 have V8:=aj.mk H
 clear H
 go_enter Try.func80,Try.ntmps80
 go_upto_region 2 with (first | ((with_reducible refine aU (f:=94) rfl ?_);refine bP (some 16) rfl rfl Try.func94 (by kernel_rfl) rfl #[.string a0,.int .i64 a1,.int .i64 a2] rfl (by (try simp only [List.map_toArray,List.map_cons,List.map_nil]);first | done | rfl | (simp only [List.length_drop,List.length_take];rfl) | (simp only [ByteArray.size_append,Int.natCast_add];rfl) | (rw [B.dW] <;> first | rfl | omega | (simp only [decide_eq_false_iff_not,decide_eq_true_eq,Int.not_lt,Nat.not_lt,gt_iff_lt] at * <;> omega))) ?_;(with_reducible refine (eU.calls a0 a1 a2 t119 V7 _ A4.out).mono ?_);rintro e w' ⟨rfl,⟨nd,rfl⟩⟩;refine ⟨_,rfl,?_⟩))
 (try simp only [Act.put,List.setIfInBounds_toArray,List.set_cons_zero,List.set_cons_succ])
 go_cut [25] (fun v25 wc=>∃ (kq:Nat) (Ip:Bool),v25 = .bool Ip ∧ aj (bg.j0 kq a2 t119 Ip = some (r1,r2)) ∧ aj (kq ≤ k) ∧ aW w wc)
 case first =>
  have H:=V8.out
  clear V8
  by_cases c6:V7 = true
  ·subst c6
   have H1:((gF.f a2).bind fun y8=>(bg.j0 k a2 t119 (!y8))) = some (r1,r2):=by rw [if_pos rfl] at H;exact H
   clear H
   have H:=H1
   clear H1
   replace H:=zbm H
   obtain ⟨y8,A70,H⟩:=H
   replace H:(bg.j0 k a2 t119 (!y8)) = some (r1,r2):=H
   have A7:=aj.mk A70
   clear A70
   have H':=aj.mk H
   clear H
   go_wp2_with (first | (go_at_call 95;(with_reducible refine (gF.calls a2 y8 _ A7.out).mono ?_);rintro e w' ⟨rfl,⟨nd,rfl⟩⟩))
   go_meet
   case rel=>exact ⟨_,(!y8),(by first | rfl | (simp;done) | (simp [*];done) | (simp [B.aX];done) | (simp [B.aY];done)),H',⟨by first | omega | exact Nat.le_refl _⟩,by repeat (first | exact aW.refl _ | apply aW.step)⟩
  ·replace c6:=Bool.eq_false_iff.mpr c6
   subst c6
   have H1:(bg.j0 k a2 t119 true) = some (r1,r2):=by rw [if_neg (show ¬ (false = true) by decide)] at H;exact H
   clear H
   have H:=H1
   clear H1
   have H':=aj.mk H
   clear H
   go_wp2
   go_meet
   case rel=>exact ⟨_,(true),(by first | rfl | (simp;done) | (simp [*];done) | (simp [B.aX];done) | (simp [B.aY];done)),H',⟨by first | omega | exact Nat.le_refl _⟩,by repeat (first | exact aW.refl _ | apply aW.step)⟩
 case rest =>
  clear V8
  try clear p2
  try clear c6
  obtain ⟨kq,Ip,rfl,HA,HJ4,⟨mc4,rfl⟩⟩:=hcut
  cases kq with
  | zero=>exact absurd HA.out (by simp [bg.j0])
  | succ V9 =>
   have H:=HA.out
   clear HA
   simp only [bg.j0] at H
   by_cases c8:Ip = true
   ·subst c8
    have H1:(some (0,false)) = some (r1,r2):=by rw [if_pos rfl] at H;exact H
    clear H
    have H:=H1
    clear H1
    simp only [Option.some.injEq,Prod.mk.injEq] at H
    obtain ⟨rfl,rfl⟩:=H
    go_wp2
    go_ret2
    exact ⟨by first | rfl | (simp;done) | (simp [*];done),by repeat (first | exact aW.refl _ | apply aW.step)⟩
   ·replace c8:=Bool.eq_false_iff.mpr c8
    subst c8
    have H1:(bg.l0 V9 t119 0 a2 0) = some (r1,r2):=by rw [if_neg (show ¬ (false = true) by decide)] at H;exact H
    clear H
    have H:=H1
    clear H1
    have H':=aj.mk H
    clear H
    go_wp2
    go_loopg [10,27] V9 (fun kq v10 v27 w'=>∃ (uf:Int) (mP:Int),v10 = .int .i64 uf ∧ v27 = .int .i64 mP ∧ aj (bg.l0 kq t119 uf a2 mP = some (r1,r2)) ∧ aj (kq ≤ V9) ∧ aW w w')
    case atStart=>exact ⟨(0),(0),(by first | rfl | (simp;done) | (simp [*];done) | (simp [B.aX];done) | (simp [B.aY];done)),(by first | rfl | (simp;done) | (simp [*];done) | (simp [B.aX];done) | (simp [B.aY];done)),H',⟨Nat.le_refl _⟩,by repeat (first | exact aW.refl _ | apply aW.step)⟩
    case round =>
     clear H'
     try clear p2
     try clear c4
     try clear c6
     try clear c8
     try clear p2
     obtain ⟨uf,mP,rfl,rfl,HA,Tq,⟨m2,rfl⟩⟩:=hrel
     cases gk with
     | zero=>exact absurd HA.out (by simp [bg.l0])
     | succ k2 =>
      have H:=HA.out
      clear HA
      simp only [bg.l0] at H
      by_cases c9:mP < a2
      ·rw [if_pos c9] at H
       have tV:decide (mP < a2) = true:=decide_eq_true c9
       clear c9
       by_cases c10:0 ≤ mP
       ·rw [if_pos c10] at H
        have qX:decide (0 ≤ mP) = true:=decide_eq_true c10
        clear c10
        by_cases c11:mP < (t119.size:Int)
        ·rw [if_pos c11] at H
         have Ni:decide (mP < (t119.size:Int)) = true:=decide_eq_true c11
         clear c11
         have H':=aj.mk H
         clear H
         have p12:0 ≤ (mP:Int):=of_decide_eq_true (by first | (with_reducible assumption) | assumption)
         have q12:mP < (t119.size:Int):=of_decide_eq_true (by first | (with_reducible assumption) | assumption)
         have afy:=nQ t119 mP
         replace p12:=eq_true p12
         replace q12:=eq_true q12
         go_wp2
         go_roundg k2
         case measure=>have:=HJ4.out;have:=Tq.out;omega
         case rel=>exact ⟨(Go.bits .or .i64 (wrap64 (uf * 256)) (wrap64 (bt t119 mP))),(wrap64 (mP + 1)),(by first | rfl | (simp;done) | (simp [*];done) | (simp [B.aX];done) | (simp [B.aY];done)),(by first | rfl | (simp;done) | (simp [*];done) | (simp [B.aX];done) | (simp [B.aY];done)),H',⟨by have:=HJ4.out;have:=Tq.out;omega⟩,by repeat (first | exact aW.refl _ | apply aW.step)⟩
        ·rw [if_neg c11] at H
         exact absurd H (by simp)
       ·rw [if_neg c10] at H
        exact absurd H (by simp)
      ·rw [if_neg c9] at H
       have tV:decide (mP < a2) = false:=decide_eq_false c9
       clear c9
       simp only [Option.some.injEq,Prod.mk.injEq] at H
       obtain ⟨rfl,rfl⟩:=H
       go_wp2
       go_ret2
       exact ⟨by first | rfl | (simp;done) | (simp [*];done),by repeat (first | exact aW.refl _ | apply aW.step)⟩
end Go.Proofs.Ytfokaoeinpnagaa.ZQ
namespace Go.Proofs.Ytfokaoeinpnagaa.ZQ
open Go.RowKit Go.Proofs.YtfokaoeinpnagaaW.bD Go.Proofs.YtfokaoeinpnagaaW.dJ Go.Proofs.YtfokaoeinpnagaaW.eG Go.Proofs.Ytfokaoeinpnagaa.B
def aav : Nat → Int → List Int
 | 0,_=>[]
 | s + 1,n=>n / 256 ^ s % 256 :: aav s n
def Nw (n size:Int):Prop:=1 ≤ size ∧ size ≤ 4 ∧ 0 ≤ n ∧ n < 256 ^ size.toNat
instance (n size:Int):Decidable (Nw n size):=by unfold Nw;infer_instance
def afz (n size:Int):ByteArray:=if Nw n size then strOfNums (aav size.toNat n) else ⟨#[]⟩
def gX (s:ByteArray) (i n:Int):Prop:=0 ≤ i ∧ 0 ≤ n ∧ i + n ≤ (s.size:Int)
instance (s : ByteArray) (i n:Int):Decidable (gX s i n):=by unfold gX;infer_instance
def iq : Nat → ByteArray → Int → Int
 | 0,_,_=>0
 | k + 1,s,i=>iq k s i * 256 + bt s (i + k)
def j3 (s:ByteArray) (i n:Int):Prop:=0 ≤ i ∧ 1 ≤ n ∧ n ≤ 4 ∧ i + n ≤ (s.size:Int)
instance (s : ByteArray) (i n:Int):Decidable (j3 s i n):=by unfold j3;infer_instance
theorem ug (s:ByteArray) (i n:Int) (hs:s.size ≤ 9223372036854775807) :
  eU.f s i n = some (if gX s i n then (s.extract i.toNat (i + n).toNat,true) else (⟨#[]⟩,false)):=by
 unfold eU.f gX
 rw [if_pos (by omega)]
 split <;> rename_i h <;> simp [h]
theorem kX (x b:Int) (hx0:0 ≤ x) (hx:x < 16777216) (hb0:0 ≤ b) (hb:b ≤ 255):Go.bits .or .i64 (wrap64 (x * 256)) (wrap64 b) = x * 256 + b:=by
 rw [dW (by omega) (by omega),dW (by omega) (by omega)]
 refine Go.bits_join .i64 62 (by decide) ?_ 8 (x * 256) b (by omega) (by omega) (by omega) hb0 (by omega) (by omega)
 intro n h0 h1
 rw [IntKind.wrap_i64]
 omega
theorem get_eq (k:Nat) (hk:9 ≤ k) (s:ByteArray) (i n:Int) (hs:s.size ≤ 9223372036854775807) :
  bg.f k s i n = some (if j3 s i n then (iq n.toNat s i,true) else (0,false)):=by
 refine uY (fun k=>bg.mono s i n k) hk ?_
 unfold bg.f
 rw [ug s i n hs]
 by_cases ht:gX s i n
 ·rw [if_pos ht]
  simp only [Option.bind_some,if_true]
  obtain ⟨h0,h1,h2⟩:=ht
  by_cases hz:1 ≤ n ∧ n ≤ 4
  ·have hf:gF.f n = some true:=by unfold gF.f;rw [if_pos (by omega)];simp;omega
   rw [if_pos (show j3 s i n from ⟨h0,hz.1,hz.2,h2⟩),hf]
   have hz':=size_ext h0 h1 h2
   have hb:∀ j,0 ≤ j → j < n → bt (s.extract i.toNat (i + n).toNat) j = bt s (i + j):=fun j a b=>M6 h0 a b h2
   have e0:=hb 0
   have e1:=hb 1
   have e2:=hb 2
   have e3:=hb 3
   have r0:=gD s (i + 0)
   have r1:=gD s (i + 1)
   have r2:=gD s (i + 2)
   have r3:=gD s (i + 3)
   generalize s.extract i.toNat (i + n).toNat = t at *
   clear hb
   obtain ⟨hz1,hz4⟩:=hz
   have hn:n = 1 ∨ n = 2 ∨ n = 3 ∨ n = 4:=by omega
   have y0:wrap64 (0 + 1) = 1:=dW (by omega) (by omega)
   have y1:wrap64 (1 + 1) = 2:=dW (by omega) (by omega)
   have y2:wrap64 (2 + 1) = 3:=dW (by omega) (by omega)
   have y3:wrap64 (3 + 1) = 4:=dW (by omega) (by omega)
   rcases hn with rfl | rfl | rfl | rfl
   ·have o0:=kX 0 (bt s (i + 0)) (by omega) (by omega) r0.1 r0.2
    simp only [bg.j0,bg.l0,Option.bind_some,Bool.not_true,Bool.false_eq_true,if_false,hz',e0 (by omega) (by omega),o0,y0]
    simp [iq]
   ·have o0:=kX 0 (bt s (i + 0)) (by omega) (by omega) r0.1 r0.2
    have o1:=kX (0 * 256 + bt s (i + 0)) (bt s (i + 1)) (by omega) (by omega) r1.1 r1.2
    simp only [bg.j0,bg.l0,Option.bind_some,Bool.not_true,Bool.false_eq_true,if_false,hz',e0 (by omega) (by omega),e1 (by omega) (by omega),o0,o1,y0,y1]
    simp [iq]
   ·have o0:=kX 0 (bt s (i + 0)) (by omega) (by omega) r0.1 r0.2
    have o1:=kX (0 * 256 + bt s (i + 0)) (bt s (i + 1)) (by omega) (by omega) r1.1 r1.2
    have o2:=kX ((0 * 256 + bt s (i + 0)) * 256 + bt s (i + 1)) (bt s (i + 2)) (by omega) (by omega) r2.1 r2.2
    simp only [bg.j0,bg.l0,Option.bind_some,Bool.not_true,Bool.false_eq_true,if_false,hz',e0 (by omega) (by omega),e1 (by omega) (by omega),e2 (by omega) (by omega),o0,o1,o2,y0,y1,y2]
    simp [iq]
   ·have o0:=kX 0 (bt s (i + 0)) (by omega) (by omega) r0.1 r0.2
    have o1:=kX (0 * 256 + bt s (i + 0)) (bt s (i + 1)) (by omega) (by omega) r1.1 r1.2
    have o2:=kX ((0 * 256 + bt s (i + 0)) * 256 + bt s (i + 1)) (bt s (i + 2)) (by omega) (by omega) r2.1 r2.2
    have o3:=kX (((0 * 256 + bt s (i + 0)) * 256 + bt s (i + 1)) * 256 + bt s (i + 2)) (bt s (i + 3)) (by omega) (by omega) r3.1 r3.2
    simp only [bg.j0,bg.l0,Option.bind_some,Bool.not_true,Bool.false_eq_true,if_false,hz',e0 (by omega) (by omega),e1 (by omega) (by omega),e2 (by omega) (by omega),e3 (by omega) (by omega),o0,o1,o2,o3,y0,y1,y2,y3]
    simp [iq]
  ·have hf:gF.f n = some false:=by
    unfold gF.f
    by_cases h2:1 ≤ n
    ·rw [if_pos (by omega)];simp;omega
    ·rw [if_neg (by omega)]
   rw [if_neg (show ¬ j3 s i n from fun h=>hz ⟨h.2.1,h.2.2.1⟩),hf]
   simp [bg.j0]
 ·rw [if_neg ht,if_neg (show ¬ j3 s i n from fun h=>ht ⟨h.1,by have:=h.2.1;omega,h.2.2.2⟩)]
  simp [bg.j0]
theorem Ew (s:ByteArray) (i:Int):iq 1 s i = bt s i:=by simp [iq]
theorem Gq (k:Nat) (s t:ByteArray) (i j:Int) (h:∀ m:Nat,m < k → bt s (i + m) = bt t (j + m)):iq k s i = iq k t j:=by
 induction k with
 | zero=>rfl
 | succ k ih=>simp only [iq];rw [ih fun m hm=>h m (by omega),h k (by omega)]
theorem oC (k:Nat) (s:ByteArray) (i:Int):0 ≤ iq k s i ∧ iq k s i < 256 ^ k:=by
 induction k with
 | zero=>simp [iq]
 | succ k ih =>
  have:=gD s (i + k)
  simp only [iq]
  rw [Int.pow_succ]
  omega
end Go.Proofs.Ytfokaoeinpnagaa.ZQ
namespace Go.Proofs.Ytfokaoeinpnagaa.ZQ
open Go.RowKit Go.Proofs.YtfokaoeinpnagaaW.bD Go.Proofs.YtfokaoeinpnagaaW.dJ Go.Proofs.YtfokaoeinpnagaaW.eG
attribute [local go_sem] jy jA kD kE iI iJ jB jC
def bB.f (a0:ByteArray) (a1:Int) (a2:Int):Option (ByteArray × Bool):=if a1 < 0 then (some ((⟨#[]⟩:ByteArray),false)) else (if a2 < 0 then (some ((⟨#[]⟩:ByteArray),false)) else (if a1 > (a0.size:Int) then (some ((⟨#[]⟩:ByteArray),false)) else (if a2 > (wrap64 ((a0.size:Int) - a1)) then (some ((⟨#[]⟩:ByteArray),false)) else (if 0 ≤ a1 then (if a1 ≤ (wrap64 (a1 + a2)) then (if (wrap64 (a1 + a2)) ≤ (a0.size:Int) then (some (a0.extract (a1:Int).toNat ((wrap64 (a1 + a2)):Int).toNat,true)) else (none)) else (none)) else (none)))))
set_option maxHeartbeats 8000000 in
set_option maxRecDepth 100000 in
theorem bB.calls (a0:ByteArray) (a1:Int) (a2:Int) (r1:ByteArray) (r2:Bool) (w:World) (h:bB.f a0 a1 a2 = some (r1,r2)) :
  Calls Try.prog 79 #[.string a0,.int .i64 a1,.int .i64 a2] w fun e w'=>e = .returned (.tuple #[.string r1,.bool r2]) ∧ aW w w':=by
 have H:(if a1 < 0 then (some ((⟨#[]⟩:ByteArray),false)) else (if a2 < 0 then (some ((⟨#[]⟩:ByteArray),false)) else (if a1 > (a0.size:Int) then (some ((⟨#[]⟩:ByteArray),false)) else (if a2 > (wrap64 ((a0.size:Int) - a1)) then (some ((⟨#[]⟩:ByteArray),false)) else (if 0 ≤ a1 then (if a1 ≤ (wrap64 (a1 + a2)) then (if (wrap64 (a1 + a2)) ≤ (a0.size:Int) then (some (a0.extract (a1:Int).toNat ((wrap64 (a1 + a2)):Int).toNat,true)) else (none)) else (none)) else (none)))))) = some (r1,r2):=h
 clear h
 by_cases c4:a1 < 0
 ·rw [if_pos c4] at H
  have qJ:decide (a1 < 0) = true:=decide_eq_true c4
  clear c4
  simp only [Option.some.injEq,Prod.mk.injEq] at H
  obtain ⟨rfl,rfl⟩:=H
  go_enter Try.func79,Try.ntmps79
  go_wp2
  go_ret2
  exact ⟨by first | rfl | (simp;done) | (simp [*];done),by repeat (first | exact aW.refl _ | apply aW.step)⟩
 ·rw [if_neg c4] at H
  have qJ:decide (a1 < 0) = false:=decide_eq_false c4
  clear c4
  by_cases c5:a2 < 0
  ·rw [if_pos c5] at H
   have pR:decide (a2 < 0) = true:=decide_eq_true c5
   clear c5
   simp only [Option.some.injEq,Prod.mk.injEq] at H
   obtain ⟨rfl,rfl⟩:=H
   go_enter Try.func79,Try.ntmps79
   go_wp2
   go_ret2
   exact ⟨by first | rfl | (simp;done) | (simp [*];done),by repeat (first | exact aW.refl _ | apply aW.step)⟩
  ·rw [if_neg c5] at H
   have pR:decide (a2 < 0) = false:=decide_eq_false c5
   clear c5
   by_cases c6:a1 > (a0.size:Int)
   ·rw [if_pos c6] at H
    have zS:decide ((a0.size:Int) < a1) = true:=decide_eq_true c6
    clear c6
    simp only [Option.some.injEq,Prod.mk.injEq] at H
    obtain ⟨rfl,rfl⟩:=H
    go_enter Try.func79,Try.ntmps79
    go_wp2
    go_ret2
    exact ⟨by first | rfl | (simp;done) | (simp [*];done),by repeat (first | exact aW.refl _ | apply aW.step)⟩
   ·rw [if_neg c6] at H
    have zS:decide ((a0.size:Int) < a1) = false:=decide_eq_false c6
    clear c6
    by_cases c7:a2 > (wrap64 ((a0.size:Int) - a1))
    ·rw [if_pos c7] at H
     have wJ:decide ((wrap64 ((a0.size:Int) - a1)) < a2) = true:=decide_eq_true c7
     (try (have Qo:decide ((((a0.size:Int) - a1)) < a2) = true:=by have h_:decide ((wrap64 ((a0.size:Int) - a1)) < a2) = true:=decide_eq_true c7;rw [B.dW (by omega) (by omega)] at h_;exact h_))
     clear c7
     simp only [Option.some.injEq,Prod.mk.injEq] at H
     obtain ⟨rfl,rfl⟩:=H
     go_enter Try.func79,Try.ntmps79
     go_wp2
     go_ret2
     exact ⟨by first | rfl | (simp;done) | (simp [*];done),by repeat (first | exact aW.refl _ | apply aW.step)⟩
    ·rw [if_neg c7] at H
     have wJ:decide ((wrap64 ((a0.size:Int) - a1)) < a2) = false:=decide_eq_false c7
     (try (have Qo:decide ((((a0.size:Int) - a1)) < a2) = false:=by have h_:decide ((wrap64 ((a0.size:Int) - a1)) < a2) = false:=decide_eq_false c7;rw [B.dW (by omega) (by omega)] at h_;exact h_))
     clear c7
     by_cases c8:0 ≤ a1
     ·rw [if_pos c8] at H
      have u7:=eq_true c8
      have vk:decide (0 ≤ a1) = true:=decide_eq_true c8
      clear c8
      by_cases c9:a1 ≤ (wrap64 (a1 + a2))
      ·rw [if_pos c9] at H
       have tV:=eq_true c9
       have Ep:decide (a1 ≤ (wrap64 (a1 + a2))) = true:=decide_eq_true c9
       by_cases c10:(wrap64 (a1 + a2)) ≤ (a0.size:Int)
       ·rw [if_pos c10] at H
        have qX:=eq_true c10
        have AL:decide ((wrap64 (a1 + a2)) ≤ (a0.size:Int)) = true:=decide_eq_true c10
        simp only [Option.some.injEq,Prod.mk.injEq] at H
        obtain ⟨rfl,rfl⟩:=H
        go_enter Try.func79,Try.ntmps79
        go_wp2
        go_ret2
        exact ⟨by first | rfl | (simp;done) | (simp [*];done),by repeat (first | exact aW.refl _ | apply aW.step)⟩
       ·rw [if_neg c10] at H
        exact absurd H (by simp)
      ·rw [if_neg c9] at H
       exact absurd H (by simp)
     ·rw [if_neg c8] at H
      exact absurd H (by simp)
mutual
def av.j0 : Nat → Int → ByteArray → Bool → Option (Int × Bool)
 | 0,_,_,_=>none
 | k + 1,x2,x8,x28=>if x28 = true then (some (0,false)) else (av.l0 k x2 x8 0 0)
def av.l0 : Nat → Int → ByteArray → Int → Int → Option (Int × Bool)
 | 0,_,_,_,_=>none
 | k + 1,x2,x8,x10,x11=>if x11 < x2 then (if 0 ≤ x11 then (if x11 < (x8.size:Int) then (av.l0 k x2 x8 (wrap64 ((wrap64 (256 * x10)) + (wrap64 (bt x8 x11)))) (wrap64 (x11 + 1))) else (none)) else (none)) else (some (x10,true))
end
def av.f (k:Nat) (a0:ByteArray) (a1:Int) (a2:Int):Option (Int × Bool):=(bB.f a0 a1 a2).bind fun uh=>(if uh.2 = true then (if a2 < 1 then (av.j0 k a2 uh.1 true) else (av.j0 k a2 uh.1 (decide (a2 > 4)))) else (av.j0 k a2 uh.1 true))
set_option maxHeartbeats 8000000 in
set_option maxRecDepth 100000 in
theorem av.calls (k:Nat) (a0:ByteArray) (a1:Int) (a2:Int) (r1:Int) (r2:Bool) (w:World) (h:av.f k a0 a1 a2 = some (r1,r2)) :
  Calls Try.prog 77 #[.string a0,.int .i64 a1,.int .i64 a2] w fun e w'=>e = .returned (.tuple #[.int .i64 r1,.bool r2]) ∧ aW w w':=by
 have H:((bB.f a0 a1 a2).bind fun uh=>(if uh.2 = true then (if a2 < 1 then (av.j0 k a2 uh.1 true) else (av.j0 k a2 uh.1 (decide (a2 > 4)))) else (av.j0 k a2 uh.1 true))) = some (r1,r2):=h
 clear h
 replace H:=zbm H
 obtain ⟨⟨t141,Wd⟩,Er,H⟩:=H
 replace H:(if Wd = true then (if a2 < 1 then (av.j0 k a2 t141 true) else (av.j0 k a2 t141 (decide (a2 > 4)))) else (av.j0 k a2 t141 true)) = some (r1,r2):=H
 have A4:=aj.mk Er
 clear Er
 have V8:=aj.mk H
 clear H
 go_enter Try.func77,Try.ntmps77
 go_upto_region 2 with (first | ((with_reducible refine aU (f:=79) rfl ?_);refine bP (some 16) rfl rfl Try.func79 (by kernel_rfl) rfl #[.string a0,.int .i64 a1,.int .i64 a2] rfl (by (try simp only [List.map_toArray,List.map_cons,List.map_nil]);first | done | rfl | (simp only [List.length_drop,List.length_take];rfl) | (simp only [ByteArray.size_append,Int.natCast_add];rfl) | (rw [B.dW] <;> first | rfl | omega | (simp only [decide_eq_false_iff_not,decide_eq_true_eq,Int.not_lt,Nat.not_lt,gt_iff_lt] at * <;> omega))) ?_;(with_reducible refine (bB.calls a0 a1 a2 t141 Wd _ A4.out).mono ?_);rintro e w' ⟨rfl,⟨nd,rfl⟩⟩;refine ⟨_,rfl,?_⟩))
 (try simp only [Act.put,List.setIfInBounds_toArray,List.set_cons_zero,List.set_cons_succ])
 go_cut [28] (fun v28 wc=>∃ (kq:Nat) (Iq:Bool),v28 = .bool Iq ∧ aj (av.j0 kq a2 t141 Iq = some (r1,r2)) ∧ aj (kq ≤ k) ∧ aW w wc)
 case first =>
  have H:=V8.out
  clear V8
  by_cases c6:Wd = true
  ·subst c6
   have H1:(if a2 < 1 then (av.j0 k a2 t141 true) else (av.j0 k a2 t141 (decide (a2 > 4)))) = some (r1,r2):=by rw [if_pos rfl] at H;exact H
   clear H
   have H:=H1
   clear H1
   by_cases c7:a2 < 1
   ·rw [if_pos c7] at H
    have wJ:decide (a2 < 1) = true:=decide_eq_true c7
    clear c7
    (first | rw [wJ] | rw [Qp] | (simp only [gV,iD];rw [wJ]) | skip)
    have H':=aj.mk H
    clear H
    go_wp2
    go_meet
    case rel=>exact ⟨_,(true),(by first | rfl | (simp;done) | (simp [*];done) | (simp [B.aX];done) | (simp [B.aY];done)),H',⟨by first | omega | exact Nat.le_refl _⟩,by repeat (first | exact aW.refl _ | apply aW.step)⟩
   ·rw [if_neg c7] at H
    have wJ:decide (a2 < 1) = false:=decide_eq_false c7
    clear c7
    (first | rw [wJ] | rw [Qp] | (simp only [gV,iD];rw [wJ]) | skip)
    have H':=aj.mk H
    clear H
    go_wp2
    go_meet
    case rel=>exact ⟨_,(decide (a2 > 4)),(by first | rfl | (simp;done) | (simp [*];done) | (simp [B.aX];done) | (simp [B.aY];done)),H',⟨by first | omega | exact Nat.le_refl _⟩,by repeat (first | exact aW.refl _ | apply aW.step)⟩
  ·replace c6:=Bool.eq_false_iff.mpr c6
   subst c6
   have H1:(av.j0 k a2 t141 true) = some (r1,r2):=by rw [if_neg (show ¬ (false = true) by decide)] at H;exact H
   clear H
   have H:=H1
   clear H1
   have H':=aj.mk H
   clear H
   go_wp2
   go_meet
   case rel=>exact ⟨_,(true),(by first | rfl | (simp;done) | (simp [*];done) | (simp [B.aX];done) | (simp [B.aY];done)),H',⟨by first | omega | exact Nat.le_refl _⟩,by repeat (first | exact aW.refl _ | apply aW.step)⟩
 case rest =>
  clear V8
  try clear p2
  try clear c6
  try clear c7
  try clear wJ
  try clear Qp
  obtain ⟨kq,Iq,rfl,HA,HJ4,⟨mc4,rfl⟩⟩:=hcut
  cases kq with
  | zero=>exact absurd HA.out (by simp [av.j0])
  | succ V9 =>
   have H:=HA.out
   clear HA
   simp only [av.j0] at H
   by_cases c8:Iq = true
   ·subst c8
    have H1:(some (0,false)) = some (r1,r2):=by rw [if_pos rfl] at H;exact H
    clear H
    have H:=H1
    clear H1
    simp only [Option.some.injEq,Prod.mk.injEq] at H
    obtain ⟨rfl,rfl⟩:=H
    go_wp2
    go_ret2
    exact ⟨by first | rfl | (simp;done) | (simp [*];done),by repeat (first | exact aW.refl _ | apply aW.step)⟩
   ·replace c8:=Bool.eq_false_iff.mpr c8
    subst c8
    have H1:(av.l0 V9 a2 t141 0 0) = some (r1,r2):=by rw [if_neg (show ¬ (false = true) by decide)] at H;exact H
    clear H
    have H:=H1
    clear H1
    have H':=aj.mk H
    clear H
    go_wp2
    go_loopg [10,11] V9 (fun kq v10 v11 w'=>∃ (uf:Int) (mQ:Int),v10 = .int .i64 uf ∧ v11 = .int .i64 mQ ∧ aj (av.l0 kq a2 t141 uf mQ = some (r1,r2)) ∧ aj (kq ≤ V9) ∧ aW w w')
    case atStart=>exact ⟨(0),(0),(by first | rfl | (simp;done) | (simp [*];done) | (simp [B.aX];done) | (simp [B.aY];done)),(by first | rfl | (simp;done) | (simp [*];done) | (simp [B.aX];done) | (simp [B.aY];done)),H',⟨Nat.le_refl _⟩,by repeat (first | exact aW.refl _ | apply aW.step)⟩
    case round =>
     clear H'
     try clear p2
     try clear c4
     try clear c6
     try clear c7
     try clear wJ
     try clear Qp
     try clear c8
     try clear p2
     obtain ⟨uf,mQ,rfl,rfl,HA,Tq,⟨m2,rfl⟩⟩:=hrel
     cases gk with
     | zero=>exact absurd HA.out (by simp [av.l0])
     | succ k2 =>
      have H:=HA.out
      clear HA
      simp only [av.l0] at H
      by_cases c9:mQ < a2
      ·rw [if_pos c9] at H
       have tV:decide (mQ < a2) = true:=decide_eq_true c9
       clear c9
       by_cases c10:0 ≤ mQ
       ·rw [if_pos c10] at H
        have qX:decide (0 ≤ mQ) = true:=decide_eq_true c10
        clear c10
        by_cases c11:mQ < (t141.size:Int)
        ·rw [if_pos c11] at H
         have Ni:decide (mQ < (t141.size:Int)) = true:=decide_eq_true c11
         clear c11
         have H':=aj.mk H
         clear H
         have p12:0 ≤ (mQ:Int):=of_decide_eq_true (by first | (with_reducible assumption) | assumption)
         have q12:mQ < (t141.size:Int):=of_decide_eq_true (by first | (with_reducible assumption) | assumption)
         have afy:=nQ t141 mQ
         replace p12:=eq_true p12
         replace q12:=eq_true q12
         go_wp2
         go_roundg k2
         case measure=>have:=HJ4.out;have:=Tq.out;omega
         case rel=>exact ⟨(wrap64 ((wrap64 (256 * uf)) + (wrap64 (bt t141 mQ)))),(wrap64 (mQ + 1)),(by first | rfl | (simp;done) | (simp [*];done) | (simp [B.aX];done) | (simp [B.aY];done)),(by first | rfl | (simp;done) | (simp [*];done) | (simp [B.aX];done) | (simp [B.aY];done)),H',⟨by have:=HJ4.out;have:=Tq.out;omega⟩,by repeat (first | exact aW.refl _ | apply aW.step)⟩
        ·rw [if_neg c11] at H
         exact absurd H (by simp)
       ·rw [if_neg c10] at H
        exact absurd H (by simp)
      ·rw [if_neg c9] at H
       have tV:decide (mQ < a2) = false:=decide_eq_false c9
       clear c9
       simp only [Option.some.injEq,Prod.mk.injEq] at H
       obtain ⟨rfl,rfl⟩:=H
       go_wp2
       go_ret2
       exact ⟨by first | rfl | (simp;done) | (simp [*];done),by repeat (first | exact aW.refl _ | apply aW.step)⟩
end Go.Proofs.Ytfokaoeinpnagaa.ZQ
namespace Go.Proofs.Ytfokaoeinpnagaa.ZQ
open Go.RowKit Go.Proofs.YtfokaoeinpnagaaW.bD Go.Proofs.YtfokaoeinpnagaaW.dJ Go.Proofs.YtfokaoeinpnagaaW.eG Go.Proofs.Ytfokaoeinpnagaa.B
theorem pU (s:ByteArray) (i n:Int) (hs:s.size ≤ 1000000) :
  bB.f s i n = some (if gX s i n then (s.extract i.toNat (i + n).toNat,true) else (⟨#[]⟩,false)):=by
 have u:gX s i n = (0 ≤ i ∧ 0 ≤ n ∧ i + n ≤ (s.size:Int)):=rfl
 unfold bB.f
 by_cases h0:i < 0
 ·rw [if_pos h0,if_neg (by rw [u];omega)]
 ·by_cases h1:n < 0
  ·rw [if_neg h0,if_pos h1,if_neg (by rw [u];omega)]
  ·by_cases h2:i > (s.size:Int)
   ·rw [if_neg h0,if_neg h1,if_pos h2,if_neg (by rw [u];omega)]
   ·rw [if_neg h0,if_neg h1,if_neg h2]
    have e1:wrap64 ((s.size:Int) - i) = s.size - i:=dW (by omega) (by omega)
    rw [e1]
    by_cases h3:n > (s.size:Int) - i
    ·rw [if_pos h3,if_neg (by rw [u];omega)]
    ·have e2:wrap64 (i + n) = i + n:=dW (by omega) (by omega)
     rw [if_neg h3,e2,if_pos (by omega),if_pos (by omega),if_pos (by omega),if_pos (by rw [u];omega)]
theorem Gr (n:Nat) (hn:n ≤ 4) (t:ByteArray) (ht:t.size = n) (d:Nat):∀ k j,n - j = d → j ≤ n → d < k →
  av.l0 k n t (iq j t 0) j = some (iq n t 0,true):=by
 induction d with
 | zero =>
  intro k j hd hj hk
  obtain rfl:j = n:=by omega
  obtain ⟨k,rfl⟩:∃ m,k = m + 1:=⟨k - 1,by omega⟩
  rw [av.l0,if_neg (by omega)]
 | succ d ih =>
  intro k j hd hj hk
  obtain ⟨k,rfl⟩:∃ m,k = m + 1:=⟨k - 1,by omega⟩
  have hr:=oC j t 0
  have hp:(256:Int) ^ j ≤ 16777216:=by
   have:j = 0 ∨ j = 1 ∨ j = 2 ∨ j = 3:=by omega
   rcases this with rfl | rfl | rfl | rfl <;> simp
  have hb:=gD t j
  rw [av.l0,if_pos (by omega),if_pos (by omega),if_pos (by omega),dW (n:=bt t j) (by omega) (by omega),dW (n:=256 * iq j t 0) (by omega) (by omega),dW (n:=256 * iq j t 0 + bt t j) (by omega) (by omega),dW (n:=(j:Int) + 1) (by omega) (by omega)]
  have e:256 * iq j t 0 + bt t j = iq (j + 1) t 0:=by
   simp only [iq]
   rw [show (0:Int) + (j:Int) = j from by omega]
   omega
  rw [e,show ((j:Int) + 1) = ((j + 1:Nat):Int) from by omega]
  exact ih k (j + 1) (by omega) (by omega) (by omega)
theorem rO (k:Nat) (hk:9 ≤ k) (s:ByteArray) (i n:Int) (hs:s.size ≤ 1000000) :
  av.f k s i n = some (if j3 s i n then (iq n.toNat s i,true) else (0,false)):=by
 obtain ⟨k,rfl⟩:∃ m,k = m + 1:=⟨k - 1,by omega⟩
 unfold av.f
 rw [pU s i n hs]
 simp only [Option.bind_some]
 by_cases ht:gX s i n
 ·simp only [if_pos ht,if_true]
  obtain ⟨h0,h1,h2⟩:=ht
  by_cases c1:n < 1
  ·rw [if_pos c1,av.j0,if_pos rfl,if_neg (fun h=>by have:=h.2.1;omega)]
  ·rw [if_neg c1]
   by_cases c2:n > 4
   ·rw [decide_eq_true c2,av.j0,if_pos rfl,if_neg (fun h=>by have:=h.2.2.1;omega)]
   ·rw [decide_eq_false c2,av.j0,if_neg Bool.false_ne_true,if_pos ⟨h0,by omega,by omega,h2⟩]
    have hz:=size_ext h0 h1 h2
    have e:((n.toNat:Nat):Int) = n:=by omega
    have:=Gr n.toNat (by omega) (s.extract i.toNat (i + n).toNat) (by omega) n.toNat k 0 (by omega) (by omega) (by omega)
    rw [e] at this
    rw [show (0:Int) = ((0:Nat):Int) from rfl]
    refine Eq.trans this ?_
    congr 2
    refine Gq _ _ _ _ _ fun m hm=>?_
    rw [show (0:Int) + (m:Int) = m from by omega,M6 h0 (by omega) (by omega) h2]
 ·simp only [if_neg ht,Bool.false_eq_true,if_false]
  rw [av.j0,if_pos rfl,if_neg (fun h=>ht ⟨h.1,by have:=h.2.1;omega,h.2.2.2⟩)]
end Go.Proofs.Ytfokaoeinpnagaa.ZQ
namespace Go.Proofs.Ytfokaoeinpnagaa.B
open Go.RowKit Go.Proofs.YtfokaoeinpnagaaW.bD
structure vo (T e:TypeId) (B b o:Nat) (cs:Array Value) (p v:Value) (bs:List Value) (w:World):Prop where
 base:B ≤ b
 blk:w.heap[b]? = some (.cells cs T (0,0))
 p_:cs[o]? = some p
 v_:cs[o + 1]? = some v
 self:p = .pointer none ∨ p = .pointer (some ⟨b,o,none⟩)
 own:w.ownsRow B e 1 v bs.length bs
 ne:v.ownBlock ≠ some b
theorem vo.lt {T e:TypeId} {B b o:Nat} {cs:Array Value} {p v:Value} {bs:List Value} {w:World} (h:vo T e B b o cs p v bs w):b < w.heap.size:=by
 rcases Nat.lt_or_ge b w.heap.size with h' | h'
 ·exact h'
 ·have:=h.blk;rw [Array.getElem?_eq_none h'] at this;cases this
theorem heap_set {w:World} {b o:Nat} {cs:Array Value} {T:TypeId} {fr:Nat × Nat} (h:w.heap[b]? = some (.cells cs T fr)) (x:Value):(w.setCell ⟨b,o,none⟩ x).heap[b]? = some (.cells (cs.setIfInBounds o x) T fr):=by
 simp [World.setCell,Array.getElem?_modify,h]
theorem Cv {w:World} {B b o:Nat} {e:TypeId} {n k:Nat} {v x:Value} {xs:List Value} (h:w.ownsRow B e n v k xs) (hne:v.ownBlock ≠ some b):(w.setCell ⟨b,o,none⟩ x).ownsRow B e n v k xs :=
 h.kept (row:=some b) ⟨rfl,rfl,rfl,by simp [World.setCell],fun k _ hk=>Below.heap_setCell _ _ _ _ (fun e=>hk (by simp [e]))⟩ (Or.inr hne)
theorem vo.used {T e:TypeId} {B b o:Nat} {cs:Array Value} {p v:Value} {bs:List Value} {w:World} (h:vo T e B b o cs p v bs w) :
  vo T e B b o (cs.setIfInBounds o (.pointer (some ⟨b,o,none⟩))) (.pointer (some ⟨b,o,none⟩)) v bs (w.setCell ⟨b,o,none⟩ (.pointer (some ⟨b,o,none⟩))):=by
 have ho:o < cs.size:=by
  rcases Nat.lt_or_ge o cs.size with h' | h'
  ·exact h'
  ·have:=h.p_;rw [Array.getElem?_eq_none h'] at this;cases this
 exact ⟨h.base,heap_set h.blk _,by simp [ho],by simpa [Array.getElem?_setIfInBounds] using h.v_,.inr rfl,Cv h.own h.ne,h.ne⟩
theorem vo.JY {T e:TypeId} {B b o:Nat} {cs:Array Value} {v:Value} {bs:List Value} {w:World} (h:vo T e B b o cs (.pointer (some ⟨b,o,none⟩)) v bs w) :
  cs.setIfInBounds o (.pointer (some ⟨b,o,none⟩)) = cs:=by
 apply Array.ext_getElem?
 intro i
 rw [Array.getElem?_setIfInBounds]
 by_cases e:o = i
 ·subst e
  have:=h.p_
  rw [if_pos rfl]
  split
  ·exact this.symm
  ·rename_i hn;rw [Array.getElem?_eq_none (by omega)] at this;cases this
 ·rw [if_neg e]
theorem vo.put {T e:TypeId} {B b o:Nat} {cs:Array Value} {p v v':Value} {bs bs':List Value} {w w':World} (h:vo T e B b o cs p v bs w) (hb:w'.heap[b]? = some (.cells cs T (0,0))) (hown:w'.ownsRow B e 1 v' bs'.length bs') (hTe:T ≠ e) :
  vo T e B b o (cs.setIfInBounds (o + 1) v') p v' bs' (w'.setCell ⟨b,o + 1,none⟩ v'):=by
 have hne:=Lib.ownBlock_ne hown hb hTe
 have ho:o + 1 < cs.size:=by
  rcases Nat.lt_or_ge (o + 1) cs.size with h' | h'
  ·exact h'
  ·have:=h.v_;rw [Array.getElem?_eq_none h'] at this;cases this
 exact ⟨h.base,heap_set hb _,by simpa [Array.getElem?_setIfInBounds] using h.p_,by simp [ho],h.self,Cv hown hne,hne⟩
theorem vo.set {T e:TypeId} {B b o:Nat} {cs:Array Value} {p v:Value} {bs:List Value} {w:World} (h:vo T e B b o cs p v bs w) (i:Nat) (x:Value) (h1:i ≠ o) (h2:i ≠ o + 1) :
  vo T e B b o (cs.setIfInBounds i x) p v bs (w.setCell ⟨b,i,none⟩ x) :=
 ⟨h.base,heap_set h.blk _,by rw [Array.getElem?_setIfInBounds,if_neg h1];exact h.p_,by rw [Array.getElem?_setIfInBounds,if_neg h2];exact h.v_,h.self,Cv h.own h.ne,h.ne⟩
theorem vo.drewN {T e:TypeId} {B b o:Nat} {cs:Array Value} {p v:Value} {bs:List Value} {w:World} (h:vo T e B b o cs p v bs w) (n:Nat):vo T e B b o cs p v bs (w.drewN n):=⟨h.base,h.blk,h.p_,h.v_,h.self,h.own,h.ne⟩
theorem vo.below {T e:TypeId} {B b o:Nat} {cs:Array Value} {p v:Value} {bs:List Value} {w w':World} (h:vo T e B b o cs p v bs w) (hb:Below w.heap.size w w'):vo T e B b o cs p v bs w' :=
 ⟨h.base,(hb.block b h.lt).trans h.blk,h.p_,h.v_,h.self,tu h.own hb,h.ne⟩
theorem wK (t s:ByteArray):Lib.strCells t ++ Lib.strCells s = Lib.strCells (t ++ s):=by
 simp [Lib.strCells]
theorem za (t:ByteArray):Lib.strCells t = Lib.byteCells t.data.toList:=rfl
end Go.Proofs.Ytfokaoeinpnagaa.B
namespace Go.Proofs.Ytfokaoeinpnagaa.ZQ
open Go.Shelf Go.RowKit
set_option maxRecDepth 100000
def vU : Go.Shelf.Ren:=⟨fun | 156=>110 | 165=>115 | 166=>114 | 169=>112 | 240=>116 | 241=>117 | 276=>118 | 277=>119 | n=>n,fun | 0=>0 | 3=>3 | 4=>4 | 5=>5 | 9=>9 | 20=>20 | 31=>25 | 37=>151 | 70=>172 | 72=>174 | 75=>183 | 76=>184 | 80=>161 | 127=>187 | 164=>188 | n=>n,fun n=>n⟩
theorem Ir : Lays.n156 Try.prog vU where
 mixed:=by kernel_rfl
 f156:=by kernel_rfl
 f165:=by kernel_rfl
 f166:=by kernel_rfl
 f169:=by kernel_rfl
 f240:=by kernel_rfl
 f241:=by kernel_rfl
 f276:=by kernel_rfl
 f277:=by kernel_rfl
 t0:=Try.underlying0
 a0:=Try.isAgg0
 z0:=Try.sizeOf0
 v0:=Try.zeroValue0
 t3:=Try.underlying3
 a3:=Try.isAgg3
 z3:=Try.sizeOf3
 v3:=Try.zeroValue3
 t4:=Try.underlying4
 a4:=Try.isAgg4
 z4:=Try.sizeOf4
 v4:=Try.zeroValue4
 t9:=Try.underlying9
 a9:=Try.isAgg9
 z9:=Try.sizeOf9
 v9:=Try.zeroValue9
 t20:=Try.underlying20
 a20:=Try.isAgg20
 z20:=Try.sizeOf20
 v20:=Try.zeroValue20
 t31:=Try.underlying25
 a31:=Try.isAgg25
 z31:=Try.sizeOf25
 v31:=Try.zeroValue25
 t37:=Try.underlying151
 a37:=Try.isAgg151
 z37:=Try.sizeOf151
 v37:=Try.zeroValue151
 t70:=Try.underlying172
 a70:=Try.isAgg172
 z70:=Try.sizeOf172
 v70:=Try.zeroValue172
 t72:=Try.underlying174
 a72:=Try.isAgg174
 z72:=Try.sizeOf174
 v72:=Try.zeroValue174
 t75:=Try.underlying183
 a75:=Try.isAgg183
 z75:=Try.sizeOf183
 v75:=Try.zeroValue183
 t76:=Try.underlying184
 a76:=Try.isAgg184
 z76:=Try.sizeOf184
 v76:=Try.zeroValue184
 t127:=Try.underlying187
 a127:=Try.isAgg187
 z127:=Try.sizeOf187
 v127:=Try.zeroValue187
 t164:=Try.underlying188
 a164:=Try.isAgg188
 z164:=Try.sizeOf188
 v164:=Try.zeroValue188
theorem vV : Builder.Extra Try.prog vU where
 sizeBuilder:=by kernel_rfl
 liesBuilder:=by kernel_rfl
 t5:=Try.underlying5
 a5:=Try.isAgg5
 z5:=Try.sizeOf5
 v5:=Try.zeroValue5
 infoByte:=by kernel_rfl
 cellsByte:=by kernel_rfl
 sizeByte:=by kernel_rfl
 neB5:=by decide
end Go.Proofs.Ytfokaoeinpnagaa.ZQ
namespace Go.Proofs.Ytfokaoeinpnagaa.ZQ
open Go.RowKit Go.Proofs.YtfokaoeinpnagaaW.bD Go.Proofs.YtfokaoeinpnagaaW.dJ Go.Proofs.YtfokaoeinpnagaaW.eG
attribute [local go_sem] jy jA kD kE iI iJ jB jC
set_option maxHeartbeats 2000000 in
set_option maxRecDepth 100000 in
theorem aZ.told (T:TypeId) (B0 b o:Nat) (cs:Array Value) (p v:Value) (l:List UInt8) (w:World) (h:B.vo T 5 B0 b o cs p v (Lib.byteCells l) w) (h0:l ≠ []) :
  Calls Try.prog 112 #[.pointer (some ⟨b,o,none⟩)] w fun e w'=>e = .returned (.string ⟨l.toArray⟩) ∧ ∃ g,B0 ≤ g ∧ g ≠ b ∧ w' = w.drew.freeze ⟨g,0,none⟩ l.length:=by
 have hl0:l.length ≠ 0:=by simpa using h0
 have hown:=h.own
 rw [Lib.byteCells_length] at hown
 obtain ⟨g,cap,cur,rfl,hbg,hg,hnc,hcm,hcs,htake⟩:∃ g cap cur,v = .slice (some ⟨g,0,none⟩) l.length cap ∧ B0 ≤ g ∧ w.heap[g]? = some (.cells cur 5 (0,0)) ∧ l.length ≤ cap ∧ cap ≤ maxLen ∧ cur.size = cap * 1 ∧ cur.toList.take (l.length * 1) = Lib.byteCells l:=by
  rcases hown.2 with ⟨_,hz⟩ | ⟨g,cap,cur,hv,r⟩
  ·exact absurd hz hl0
  ·exact ⟨g,cap,cur,hv,r⟩
 have hgb:g ≠ b:=fun e=>h.ne (by rw [e];rfl)
 have c1:w.drew.cell? ⟨b,o + 1,none⟩ = some (.slice (some ⟨g,0,none⟩) l.length cap):=by
  have:w.drew.heap[b]? = some (.cells cs T (0,0)):=h.blk
  rw [Lib.cell_of_heap this];exact h.v_
 have hSD:(Builtin.unsafeSliceData_ #[151] 187 #[.slice (some ⟨g,0,none⟩) l.length cap]).run Try.prog w.drew = .ok (.pointer (some ⟨g,0,none⟩)) w.drew :=
  Lib.run_unsafeSliceData_row _ _ _ _ _ _ (by omega)
 have hUS:(Builtin.unsafeString_ #[187,3] 9 #[.pointer (some ⟨g,0,none⟩),.int .i64 l.length]).run Try.prog w.drew = .ok (.string ⟨l.toArray⟩) (w.drew.freeze ⟨g,0,none⟩ l.length):=by
  refine Lib.run_unsafeString_row w.drew 187 3 9 5 Try.underlying187 (by kernel_rfl) g cur.size (by have hg':w.drew.heap[g]? = some (.cells cur 5 (0,0)):=hg;simp [World.shape?,hg']) l h0 (by omega) (by unfold maxLen at hcm;omega) ?_
  intro j x hx
  have:=hown.cells (g:=g) rfl j (.int .u8 x.toNat) (by simp [Lib.byteCells,hx])
  exact this
 have afA:=aj.mk hbg
 have hgb':=aj.mk hgb
 clear hbg hgb h hown hg hnc hcm hcs htake hl0 h0
 go_enter Try.func112,Try.ntmps112
 go_wp2
 go_region
 all_goals (go_wp2;go_ret;exact ⟨rfl,_,afA.out,hgb'.out,rfl⟩)
def aZ.Kept (b:Nat) (w w':World):Prop:=∀ a:Addr,a.block = b → w'.cell? a = w.cell? a ∧ w'.frozen? a = w.frozen? a
theorem aZ.Kept.of_block {b:Nat} {w w':World} (h:w'.heap[b]? = w.heap[b]?):aZ.Kept b w w':=by
 rintro a rfl
 exact ⟨World.cell?_of_block h,World.frozen?_of_block h⟩
theorem aZ.Cw (W:World) (q:Option Addr):(Builtin.unsafeString_ #[187,3] 9 #[.pointer q,.int .i64 0]).run Try.prog W = .ok (.string .empty) W :=
 Lib.run_unsafeString_none W _ _ _ q
set_option maxHeartbeats 2000000 in
set_option maxRecDepth 100000 in
theorem aZ.of_nil (B0 b o:Nat) (w:World) (c1:w.drew.cell? ⟨b,o + 1,none⟩ = some (.slice none 0 0)) :
  Calls Try.prog 112 #[.pointer (some ⟨b,o,none⟩)] w fun e w'=>e = .returned (.string ⟨#[]⟩) ∧ aZ.Kept b w w' ∧ Below B0 w w':=by
 have hUS:=aZ.Cw
 have hSD:(Builtin.unsafeSliceData_ #[151] 187 #[.slice none 0 0]).run Try.prog w.drew = .ok (.pointer none) w.drew:=rfl
 go_enter Try.func112,Try.ntmps112
 go_wp2
 go_region
 all_goals (go_wp2;go_ret;exact ⟨rfl,aZ.Kept.of_block rfl,Below.drew (Below.refl B0 w)⟩)
set_option maxHeartbeats 2000000 in
set_option maxRecDepth 100000 in
theorem aZ.JZ (B0 b o g:Nat) (cur:Array Value) (w:World) (hBw:B0 ≤ w.heap.size) (hlt:b < w.heap.size) (c0:w.cell? ⟨b,o + 1,none⟩ = some (.slice (some ⟨g,0,none⟩) 0 0)) (hg:w.heap[g]? = some (.cells cur 5 (0,0))) :
  Calls Try.prog 112 #[.pointer (some ⟨b,o,none⟩)] w fun e w'=>e = .returned (.string ⟨#[]⟩) ∧ aZ.Kept b w w' ∧ Below B0 w w':=by
 have hUS:=aZ.Cw
 have hSD:(Builtin.unsafeSliceData_ #[151] 187 #[.slice (some ⟨g,0,none⟩) 0 0]).run Try.prog w.drew = .ok (.pointer (some ⟨w.drew.heap.size,0,none⟩)) (w.drew.alloc (.view ⟨g,0,none⟩ 5)) :=
  Lib.run_unsafeSliceData_zero w.drew _ _ 5 Try.underlying187 ⟨g,0,none⟩ 0 (5,cur.size) (by have hg':w.drew.heap[g]? = some (.cells cur 5 (0,0)):=hg;simp [World.shape?,hg'])
 have hold:(w.drew.alloc (.view ⟨g,0,none⟩ 5)).heap[b]? = w.heap[b]?:=(Lib.alloc_old w.drew _ b hlt)
 have c2:(w.drew.alloc (.view ⟨g,0,none⟩ 5)).cell? ⟨b,o + 1,none⟩ = some (.slice (some ⟨g,0,none⟩) 0 0):=by
  rw [World.cell?_of_block (w:=w) (a:=⟨b,o + 1,none⟩) hold];exact c0
 have c3:(w.alloc (.view ⟨g,0,none⟩ 5)).drew.cell? ⟨b,o + 1,none⟩ = some (.slice (some ⟨g,0,none⟩) 0 0):=c2
 have hold':=aj.mk hold
 have hBw':=aj.mk hBw
 clear hold hBw hlt
 go_enter Try.func112,Try.ntmps112
 go_wp2
 go_region
 all_goals (go_wp2;go_ret;exact ⟨rfl,aZ.Kept.of_block hold'.out,(Below.drew (Below.refl B0 w)).alloc hBw'.out _⟩)
set_option maxHeartbeats 2000000 in
set_option maxRecDepth 100000 in
theorem aZ.Qq (B0 b o g cap:Nat) (w:World) (hc0:cap ≠ 0) (c1:w.drew.cell? ⟨b,o + 1,none⟩ = some (.slice (some ⟨g,0,none⟩) 0 cap)) :
  Calls Try.prog 112 #[.pointer (some ⟨b,o,none⟩)] w fun e w'=>e = .returned (.string ⟨#[]⟩) ∧ aZ.Kept b w w' ∧ Below B0 w w':=by
 have hUS:=aZ.Cw
 have hSD:(Builtin.unsafeSliceData_ #[151] 187 #[.slice (some ⟨g,0,none⟩) 0 cap]).run Try.prog w.drew = .ok (.pointer (some ⟨g,0,none⟩)) w.drew :=
  Lib.run_unsafeSliceData_row _ _ _ _ _ _ hc0
 clear hc0
 go_enter Try.func112,Try.ntmps112
 go_wp2
 go_region
 all_goals (go_wp2;go_ret;exact ⟨rfl,aZ.Kept.of_block rfl,Below.drew (Below.refl B0 w)⟩)
theorem aZ.any (T:TypeId) (B0 b o:Nat) (cs:Array Value) (p v:Value) (t:ByteArray) (w:World) (h:B.vo T 5 B0 b o cs p v (Lib.strCells t) w) (hBw:B0 ≤ w.heap.size) :
  Calls Try.prog 112 #[.pointer (some ⟨b,o,none⟩)] w fun e w'=>e = .returned (.string t) ∧ aZ.Kept b w w' ∧ Below B0 w w':=by
 have c1:∀ W:World,W.heap = w.heap → W.cell? ⟨b,o + 1,none⟩ = some v:=by
  intro W hW
  have:W.heap[b]? = some (.cells cs T (0,0)):=by rw [hW];exact h.blk
  rw [Lib.cell_of_heap this];exact h.v_
 by_cases h0:t.data.toList = []
 ·have ht:t = ⟨#[]⟩:=ByteArray.ext (Array.toList_inj.mp h0)
  subst ht
  rcases h.own.2 with ⟨rfl,_⟩ | ⟨g,cap,cur,rfl,hbg,hg,_,_,_,_⟩
  ·exact aZ.of_nil B0 b o w (c1 _ rfl)
  ·by_cases hc:cap = 0
   ·subst hc
    exact aZ.JZ B0 b o g cur w hBw h.lt (c1 _ rfl) hg
   ·exact aZ.Qq B0 b o g cap w hc (c1 _ rfl)
 ·refine (aZ.told T B0 b o cs p v t.data.toList w (by rw [← B.za];exact h) h0).mono ?_
  rintro e w' ⟨rfl,g,h1,h2,rfl⟩
  refine ⟨rfl,aZ.Kept.of_block ?_,Lib.below_freeze (Below.drew (Below.refl B0 w)) (p:=⟨g,0,none⟩) h1 _⟩
  unfold World.freeze
  split
  ·rfl
  ·simp [Array.getElem?_modify,h2]
   rfl
set_option maxHeartbeats 1000000 in
set_option maxRecDepth 100000 in
theorem qL.any (T:TypeId) (B0 b o:Nat) (cs:Array Value) (p v:Value) (bs:List Value) (w:World) (h:B.vo T 5 B0 b o cs p v bs w) :
  Calls Try.prog 113 #[.pointer (some ⟨b,o,none⟩)] w fun e w'=>e = .returned (.int .i64 bs.length) ∧ w = w':=by
 obtain ⟨ao,cap,rfl⟩:∃ ao cap,v = .slice ao bs.length cap:=by
  rcases h.own.2 with ⟨hv,h0⟩ | ⟨g,cap,cur,hv,_⟩
  ·exact ⟨none,0,by rw [hv,h0]⟩
  ·exact ⟨_,_,hv⟩
 have c1:w.cell? ⟨b,o + 1,none⟩ = some (.slice ao bs.length cap):=by rw [Lib.cell_of_heap h.blk];exact h.v_
 clear h
 go_enter Try.func113,Try.ntmps113
 go_wp2
 go_ret
 exact ⟨rfl,rfl⟩
theorem cB.info : (Try.prog.info? 174).map (·.size) = some 2:=by kernel_rfl
set_option maxHeartbeats 1000000 in
set_option maxRecDepth 100000 in
theorem cB.used (b o:Nat) (w:World) (h0:w.cell? ⟨b,o,none⟩ = some (.pointer (some ⟨b,o,none⟩))) :
  Calls Try.prog 116 #[.pointer (some ⟨b,o,none⟩)] w fun e w'=>e = .returned (.tuple #[]) ∧ w' = w:=by
 obtain ⟨j,hj,_⟩:=Option.map_eq_some_iff.1 cB.info
 go_enter Try.func116,Try.ntmps116
 go_wp2
 rw [Lib.run_neq_ptr_same w _ Try.underlying172 hj]
 go_wp2
 go_end0
 exact ⟨rfl,rfl⟩
set_option maxHeartbeats 1000000 in
set_option maxRecDepth 100000 in
theorem cB.fresh (b o:Nat) (T:TypeId) (n:Nat) (w:World) (h0:w.cell? ⟨b,o,none⟩ = some (.pointer none)) (hsh:w.shape? b = some (T,n)) (hn:o < n)
  (hlies:liesAt Try.prog Try.prog.depth T (n / Try.prog.cellsOf T) o 174 1 = true) (hfz:w.frozen? ⟨b,o,none⟩ = false) :
  Calls Try.prog 116 #[.pointer (some ⟨b,o,none⟩)] w fun e w'=>e = .returned (.tuple #[]) ∧ w' = w.setCell ⟨b,o,none⟩ (.pointer (some ⟨b,o,none⟩)):=by
 obtain ⟨j,hj,hjs⟩:=Option.map_eq_some_iff.1 cB.info
 have afB:j.size ≠ 0:=by rw [hjs];decide
 clear hjs
 have hn':=aj.mk hn
 clear hn
 go_enter Try.func116,Try.ntmps116
 go_wp2
 rw [Lib.run_to_unsafe w ⟨b,o,none⟩ Try.underlying172 Try.underlying188 hj afB hsh hn'.out]
 simp only [Result.andThen]
 rw [Oper.upon_value]
 go_wp2
 rw [run_callFunc_extern Try.func118 (by kernel_rfl) (by kernel_rfl) (by kernel_rfl) (e:=Extern.AbiNoEscape.same) (by kernel_rfl)]
 rw [Lib.run_noEscape]
 simp only [Result.andThen]
 rw [Oper.upon_value]
 go_wp2
 rw [Lib.run_from_unsafe w ⟨b,o,none⟩ Try.underlying188 Try.underlying172 hj hsh hlies]
 simp only [Result.andThen]
 rw [Oper.upon_value]
 go_wp2
 go_end0
 exact ⟨rfl,rfl⟩
theorem cB.any (T:TypeId) (B0 b o:Nat) (cs:Array Value) (p v:Value) (bs:List Value) (w:World) (h:B.vo T 5 B0 b o cs p v bs w)
  (hlies:liesAt Try.prog Try.prog.depth T (cs.size / Try.prog.cellsOf T) o 174 1 = true) :
  Calls Try.prog 116 #[.pointer (some ⟨b,o,none⟩)] w fun e w'=>e = .returned (.tuple #[]) ∧
   B.vo T 5 B0 b o (cs.setIfInBounds o (.pointer (some ⟨b,o,none⟩))) (.pointer (some ⟨b,o,none⟩)) v bs w' ∧ Below B0 w w':=by
 have ho:o < cs.size:=by
  rcases Nat.lt_or_ge o cs.size with h' | h'
  ·exact h'
  ·have:=h.p_;rw [Array.getElem?_eq_none h'] at this;cases this
 have hsh:w.shape? b = some (T,cs.size):=by simp [World.shape?,h.blk]
 have hc:w.cell? ⟨b,o,none⟩ = some p:=by rw [Lib.cell_of_heap h.blk];exact h.p_
 rcases h.self with rfl | rfl
 ·refine (cB.fresh b o T cs.size w hc hsh ho hlies (Lib.frozen_of_heap h.blk o)).mono ?_
  rintro e w' ⟨rfl,rfl⟩
  exact ⟨rfl,h.used,(Below.refl B0 w).setCell (p:=⟨b,o,none⟩) h.base _⟩
 ·refine (cB.used b o w hc).mono ?_
  rintro e w' ⟨rfl,rfl⟩
  exact ⟨rfl,by rw [h.JY];exact h,Below.refl B0 _⟩
theorem gT.infoByte : (Try.prog.info? 5).map (fun i=>(i.zero,i.size,i.bytes)) = some (some (.int .u8 0),1,1):=by kernel_rfl
set_option maxHeartbeats 2000000 in
set_option maxRecDepth 100000 in
theorem gT.any (T:TypeId) (B0 b o:Nat) (cs:Array Value) (p v:Value) (t:ByteArray) (s:ByteArray) (w:World) (h:B.vo T 5 B0 b o cs p v (Lib.strCells t) w)
  (hlies:liesAt Try.prog Try.prog.depth T (cs.size / Try.prog.cellsOf T) o 174 1 = true) (hT:T ≠ 5) (hlen:t.size + s.size ≤ 140737488355328) (hBw:B0 ≤ w.heap.size) :
  Calls Try.prog 114 #[.pointer (some ⟨b,o,none⟩),.string s] w fun e w'=>e = .returned (.tuple #[.int .i64 s.size,.nilIface]) ∧
   (∃ v',B.vo T 5 B0 b o ((cs.setIfInBounds o (.pointer (some ⟨b,o,none⟩))).setIfInBounds (o + 1) v') (.pointer (some ⟨b,o,none⟩)) v' (Lib.strCells (t ++ s)) w') ∧ Below B0 w w':=by
 obtain ⟨i0,hi,hz0,hz1,hz2⟩:=info_parts gT.infoByte
 have hL:=Lib.strCells_length t
 have Wh:=aj.mk hlies
 clear hlies
 have hC:=aj.mk h
 clear h
 have hT':=aj.mk hT
 clear hT
 have hlen':=aj.mk hlen
 clear hlen
 go_enter Try.func114,Try.ntmps114
 go_wp2_with (go_at_call 116;refine (cB.any T B0 b o cs p v _ _ hC.out Wh.out).mono ?_)
 rintro e w1 ⟨rfl,h1,hb1⟩
 have c1:w1.cell? ⟨b,o + 1,none⟩ = some v:=by rw [Lib.cell_of_heap h1.blk];exact h1.v_
 have hown:=h1.own
 go_wp2_with (at_builtin;refine Lib.wpList_append_own_string _ rfl _ _ 151 9 rfl B0 5 i0 Try.underlying151 Try.underlying9 hi hz0 hz1 hz2 _ _ _ rfl hown s rfl ?c3 ?c4 ?c5 ?_)
 case c3=>rw [hL];unfold maxLen;have:=hlen'.out;omega
 case c4=>rw [hL];have:=hlen'.out;omega
 case c5=>have:=hb1.size;omega
 intro v' w2 hown' hgrow _
 have hlt:=h1.lt
 have hb2:w2.heap[b]? = some (.cells (cs.setIfInBounds o (.pointer (some ⟨b,o,none⟩))) T (0,0)):=by
  rw [hgrow.block b hlt (fun e=>h1.ne e.symm)]
  exact h1.blk
 have d1:w2.cell? ⟨b,o + 1,none⟩ = some v:=by rw [Lib.cell_of_heap hb2];exact h1.v_
 have f1:w2.frozen? ⟨b,o + 1,none⟩ = false:=Lib.frozen_of_heap hb2 (o + 1)
 obtain ⟨ao,n',cap,rfl⟩:∃ ao n' cap,v' = .slice ao n' cap:=by
  rcases hown'.2 with ⟨hv,_⟩ | ⟨g,cap,cur,hv,_⟩
  ·exact ⟨_,_,_,hv⟩
  ·exact ⟨_,_,_,hv⟩
 have hown2:w2.ownsRow B0 5 1 (.slice ao n' cap) (Lib.strCells (t ++ s)).length (Lib.strCells (t ++ s)):=by
  rw [← B.wK]
  simpa [Lib.strCells_length] using hown'
 have hput:=aj.mk (h1.put hb2 hown2 hT'.out)
 have hbel:=aj.mk ((hb1.grown hgrow (by have:=hb1.size;omega) (fun k hk=>(hown.lt k hk).1)).setCell (p:=⟨b,o + 1,none⟩) h1.base (.slice ao n' cap))
 clear hb2 hown2 hown' hgrow h1 hown hL hb1 c1
 go_wp2
 go_ret2
 exact ⟨rfl,⟨_,hput.out⟩,hbel.out⟩
def strings_Join.cat : List ByteArray → ByteArray
 | []=>⟨#[]⟩
 | x :: l=>x ++ strings_Join.cat l
theorem strings_Join.ze : ∀ l:List ByteArray,(⟨(Lib.join (l.map (·.data.toList)) (⟨#[]⟩:ByteArray).data.toList).toArray⟩:ByteArray) = strings_Join.cat l
 | []=>rfl
 | [x]=>by
  rw [List.map_cons,List.map_nil,Lib.join_one]
  refine ByteArray.ext ?_
  simp [strings_Join.cat,ByteArray.data_append]
 | x :: y :: l=>by
  have h:=strings_Join.ze (y :: l)
  refine ByteArray.ext ?_
  rw [strings_Join.cat,ByteArray.data_append,← h]
  simp [Lib.join,List.intercalate]
theorem strings_Join.calls (v:Value) (l:List ByteArray) (base:Nat) (ok:Nat → Prop) (w:World) (hr:Kd.R Kd.string 9 w base ok v l) (hl:l.length ≤ 1000000) (hz:(strings_Join.cat l).size ≤ 140737488355328) :
  Calls Try.prog 110 #[v,.string ⟨#[]⟩] w fun e w'=>e = .returned (.string (strings_Join.cat l)) ∧ Below w.heap.size w w':=by
 have ho:=Kd.tL hr
 rcases ho.2 with ⟨rfl,h0⟩ | ⟨g,cap,cur,rfl,hg,hh,hc,_,_,ht⟩
 ·obtain rfl:=List.length_eq_zero_iff.mp h0
  exact (Any.strings_Join_none Ir vV none 0 ⟨#[]⟩ w).mono fun e w' ⟨he,hw⟩=>⟨he,hw ▸ Below.refl _ _⟩
 ·have hlt:g < w.heap.size:=(Array.getElem?_eq_some_iff.1 hh).1
  have hcells:∀ (j:Nat) x,l[j]? = some x → w.cell? ⟨g,0 + j,none⟩ = some (.string x):=by
   intro j x hx
   have hj:j < l.length:=(List.getElem?_eq_some_iff.1 hx).1
   have h:=(Kd.MX ByteArray.empty hr (j:Int) (by omega) (by omega)).1
   rw [Nat.zero_add]
   rw [Int.toNat_natCast] at h
   rw [h]
   unfold Gf
   rw [Int.toNat_natCast,List.getD_eq_getElem?_getD,hx]
   rfl
  have hlen:(Lib.join (l.map (·.data.toList)) (⟨#[]⟩:ByteArray).data.toList).length ≤ 140737488355328:=by
   have h:=congrArg ByteArray.size (strings_Join.ze l)
   rw [← h] at hz
   simpa [ByteArray.size] using hz
  refine (Any.strings_Join Ir vV g 0 cap l ⟨#[]⟩ w hcells hlt (by omega) hc hlen).mono fun e w' ⟨he,hw⟩=>⟨?_,hw⟩
  rw [he,strings_Join.ze]
end Go.Proofs.Ytfokaoeinpnagaa.ZQ
namespace Go.Proofs.Ytfokaoeinpnagaa.ZQ
open Go.RowKit Go.Proofs.YtfokaoeinpnagaaW.bD Go.Proofs.YtfokaoeinpnagaaW.dJ Go.Proofs.YtfokaoeinpnagaaW.eG
attribute [local go_sem] jy jA kD kE iI iJ jB jC
def aA.cs (msg:ByteArray) (i l n:Int) (p v:Value):Array Value:=#[.string msg,.int .i64 i,.int .i64 l,.int .i64 n,p,v]
def aA.Rd (B0 g:Nat) (msg:ByteArray) (i l n:Int) (t:ByteArray) (w:World):Prop :=
 ∃ p v,B.vo 176 5 B0 g 4 (aA.cs msg i l n p v) p v (Lib.strCells t) w
theorem aA.Rd.cells {B0 g:Nat} {msg:ByteArray} {i l n:Int} {t:ByteArray} {w:World} (h:aA.Rd B0 g msg i l n t w) :
  w.cell? ⟨g,0,none⟩ = some (.string msg) ∧ w.cell? ⟨g,1,none⟩ = some (.int .i64 i) ∧ w.cell? ⟨g,2,none⟩ = some (.int .i64 l) ∧ w.cell? ⟨g,3,none⟩ = some (.int .i64 n) ∧
  w.frozen? ⟨g,1,none⟩ = false ∧ w.frozen? ⟨g,2,none⟩ = false ∧ w.frozen? ⟨g,3,none⟩ = false:=by
 obtain ⟨p,v,h⟩:=h
 exact ⟨by rw [Lib.cell_of_heap h.blk];rfl,by rw [Lib.cell_of_heap h.blk];rfl,by rw [Lib.cell_of_heap h.blk];rfl,by rw [Lib.cell_of_heap h.blk];rfl,Lib.frozen_of_heap h.blk 1,Lib.frozen_of_heap h.blk 2,Lib.frozen_of_heap h.blk 3⟩
theorem aA.Rd.base {B0 g:Nat} {msg:ByteArray} {i l n:Int} {t:ByteArray} {w:World} (h:aA.Rd B0 g msg i l n t w):B0 ≤ g ∧ g < w.heap.size:=by
 obtain ⟨p,v,h⟩:=h
 exact ⟨h.base,h.lt⟩
theorem aA.Rd.drewN {B0 g:Nat} {msg:ByteArray} {i l n:Int} {t:ByteArray} {w:World} (h:aA.Rd B0 g msg i l n t w) (m:Nat):aA.Rd B0 g msg i l n t (w.drewN m):=by
 obtain ⟨p,v,h⟩:=h
 exact ⟨p,v,h.drewN m⟩
theorem aA.Rd.set1 {B0 g:Nat} {msg:ByteArray} {i l n:Int} {t:ByteArray} {w:World} (h:aA.Rd B0 g msg i l n t w) (x:Int):aA.Rd B0 g msg x l n t (w.setCell ⟨g,1,none⟩ (.int .i64 x)):=by
 obtain ⟨p,v,h⟩:=h
 exact ⟨p,v,h.set 1 _ (by omega) (by omega)⟩
theorem aA.Rd.set2 {B0 g:Nat} {msg:ByteArray} {i l n:Int} {t:ByteArray} {w:World} (h:aA.Rd B0 g msg i l n t w) (x:Int):aA.Rd B0 g msg i x n t (w.setCell ⟨g,2,none⟩ (.int .i64 x)):=by
 obtain ⟨p,v,h⟩:=h
 exact ⟨p,v,h.set 2 _ (by omega) (by omega)⟩
theorem aA.Rd.aaw {B0 g:Nat} {msg:ByteArray} {i l n:Int} {t:ByteArray} {w:World} (h:aA.Rd B0 g msg i l n t w) (x:Int):aA.Rd B0 g msg i l x t (w.setCell ⟨g,3,none⟩ (.int .i64 x)):=by
 obtain ⟨p,v,h⟩:=h
 exact ⟨p,v,h.set 3 _ (by omega) (by omega)⟩
set_option maxHeartbeats 2000000 in
set_option maxRecDepth 100000 in
theorem aA.cut (B0 g:Nat) (msg:ByteArray) (i l n:Int) (t:ByteArray) (w:World) (h:aA.Rd B0 g msg i l n t w) (hs:msg.size ≤ 140737488355328) (hg:¬ j3 msg i 2) :
  Calls Try.prog 108 #[.pointer (some ⟨g,0,none⟩)] w fun e w'=>e = .returned (.int .i64 2) ∧ aA.Rd B0 g msg i l n t w' ∧ Below B0 w w':=by
 have hget:=get_eq 9 (Nat.le_refl _) msg i 2 (by omega)
 rw [if_neg hg] at hget
 have nu:=aj.mk hget
 obtain ⟨c0,c1,c2,c3,f1,f2,f3⟩:=h.cells
 have hR:=aj.mk h
 clear hget h hs hg
 go_enter Try.func108,Try.ntmps108
 go_wp2
 go_quiet ((go_at_call 80;exact Calls.quiet_of ((bg.calls 9 msg i 2 _ _ _ nu.out).mono fun _ _ h=>⟨h.1,h.2.out⟩)))
 go_wp2
 go_ret
 exact ⟨rfl,hR.out.drewN _,ah (Below.refl B0 w) _⟩
set_option maxHeartbeats 2000000 in
set_option maxRecDepth 100000 in
theorem aA.name (B0 g:Nat) (msg:ByteArray) (i l n:Int) (t:ByteArray) (w:World) (h:aA.Rd B0 g msg i l n t w) (hs:msg.size ≤ 140737488355328) (hg:j3 msg i 2) (hl:l ≤ iq 2 msg i - 49152) :
  Calls Try.prog 108 #[.pointer (some ⟨g,0,none⟩)] w fun e w'=>e = .returned (.int .i64 3) ∧ aA.Rd B0 g msg i l n t w' ∧ Below B0 w w':=by
 have hget:=get_eq 9 (Nat.le_refl _) msg i 2 (by omega)
 rw [if_pos hg] at hget
 have hr:=oC 2 msg i
 have nu:=aj.mk (show bg.f 9 msg i 2 = some (iq 2 msg i,true) from hget)
 obtain ⟨c0,c1,c2,c3,f1,f2,f3⟩:=h.cells
 have hR:=aj.mk h
 generalize iq 2 msg i = q at nu hr hl
 have hb0:0 ≤ q:=hr.1
 have hb1:q ≤ 65535:=by have:=hr.2;simp at this;omega
 have d1:decide (l ≤ q - 49152) = true:=decide_eq_true hl
 clear hget h hs hg hr hl
 go_enter Try.func108,Try.ntmps108
 go_wp2
 go_quiet ((go_at_call 80;exact Calls.quiet_of ((bg.calls 9 msg i 2 _ _ _ nu.out).mono fun _ _ h=>⟨h.1,h.2.out⟩)))
 go_wp2
 go_ret
 exact ⟨rfl,hR.out.drewN _,ah (Below.refl B0 w) _⟩
set_option maxHeartbeats 2000000 in
set_option maxRecDepth 100000 in
theorem aA.ok (B0 g:Nat) (msg:ByteArray) (i l n:Int) (t:ByteArray) (w:World) (h:aA.Rd B0 g msg i l n t w) (hs:msg.size ≤ 140737488355328) (hg:j3 msg i 2) (hl:iq 2 msg i - 49152 < l) (n':Int) (hn0:aj (n' = if n = -1 then i + 2 else n)) :
  Calls Try.prog 108 #[.pointer (some ⟨g,0,none⟩)] w fun e w'=>e = .returned (.int .i64 0) ∧ aA.Rd B0 g msg (iq 2 msg i - 49152) (iq 2 msg i - 49152) n' t w' ∧ Below B0 w w':=by
 have hget:=get_eq 9 (Nat.le_refl _) msg i 2 (by omega)
 rw [if_pos hg] at hget
 have hr:=oC 2 msg i
 have nu:=aj.mk (show bg.f 9 msg i 2 = some (iq 2 msg i,true) from hget)
 obtain ⟨c0,c1,c2,c3,f1,f2,f3⟩:=h.cells
 have hR:=aj.mk h
 have hi0:=hg.1
 have hi1:i ≤ 140737488355328:=by have:=hg.2.2.2;omega
 have hB:=aj.mk h.base.1
 generalize iq 2 msg i = q at nu hr hl ⊢
 have hb0:0 ≤ q:=hr.1
 have hb1:q ≤ 65535:=by have:=hr.2;simp at this;omega
 have d1:decide (l ≤ q - 49152) = false:=decide_eq_false (by omega)
 by_cases hn:n = -1
 ·subst hn
  have e':=hn0.out
  rw [if_pos rfl] at e'
  subst e'
  clear hn0
  have Ky:=aj.mk (((hR.out.aaw (i + 2)).set1 (q - 49152)).set2 (q - 49152))
  have hBl:=aj.mk ((((Below.refl B0 w).setCell (p:=⟨g,3,none⟩) hB.out (.int .i64 (i + 2))).setCell (p:=⟨g,1,none⟩) hB.out (.int .i64 (q - 49152))).setCell (p:=⟨g,2,none⟩) hB.out (.int .i64 (q - 49152)))
  clear hget h hs hg hr hl hR
  go_enter Try.func108,Try.ntmps108
  go_wp2
  go_quiet ((go_at_call 80;exact Calls.quiet_of ((bg.calls 9 msg i 2 _ _ _ nu.out).mono fun _ _ h=>⟨h.1,h.2.out⟩)))
  go_wp2
  go_ret
  exact ⟨rfl,Ky.out.drewN _,ah hBl.out _⟩
 ·have e':=hn0.out
  have d2:(n == -1) = false:=by simpa using hn
  rw [if_neg hn] at e'
  subst e'
  clear hn0
  have Ky:=aj.mk ((hR.out.set1 (q - 49152)).set2 (q - 49152))
  have hBl:=aj.mk (((Below.refl B0 w).setCell (p:=⟨g,1,none⟩) hB.out (.int .i64 (q - 49152))).setCell (p:=⟨g,2,none⟩) hB.out (.int .i64 (q - 49152)))
  clear hget h hs hg hr hl hR hn
  go_enter Try.func108,Try.ntmps108
  go_wp2
  go_quiet ((go_at_call 80;exact Calls.quiet_of ((bg.calls 9 msg i 2 _ _ _ nu.out).mono fun _ _ h=>⟨h.1,h.2.out⟩)))
  go_wp2
  go_ret
  exact ⟨rfl,Ky.out.drewN _,ah hBl.out _⟩
theorem jS.str (B0 g:Nat) (msg:ByteArray) (i l n:Int) (t:ByteArray) (w:World) (h:aA.Rd B0 g msg i l n t w) (hw:B0 ≤ w.heap.size) :
  Calls Try.prog 112 #[.pointer (some ⟨g,4,none⟩)] w fun e w'=>e = .returned (.string t) ∧ (w'.cell? ⟨g,3,none⟩ = some (.int .i64 n)) ∧ Below B0 w w':=by
 have hc:=h.cells.2.2.2.1
 obtain ⟨p,v,h⟩:=h
 refine (aZ.any _ B0 g 4 _ p v t w h hw).mono ?_
 rintro e w' ⟨rfl,hk,hb⟩
 exact ⟨rfl,by rw [(hk ⟨g,3,none⟩ rfl).1];exact hc,hb⟩
set_option maxHeartbeats 4000000 in
set_option maxRecDepth 100000 in
theorem jS.any (B0 g:Nat) (msg:ByteArray) (i l n:Int) (t:ByteArray) (w:World) (h:aA.Rd B0 g msg i l n t w) (hw:B0 ≤ w.heap.size) (ht:t.size ≤ 140737488355328) (hi:0 ≤ i) (hi2:i ≤ 140737488355328)
  (n':Int) (hn0:aj (n' = if n = -1 then i + 1 else n)) :
  Calls Try.prog 107 #[.pointer (some ⟨g,0,none⟩)] w fun e w'=>e = .returned (.tuple #[.string (t ++ (⟨#[0]⟩:ByteArray)),.int .i64 n',.int .i64 0]) ∧ Below B0 w w':=by
 obtain ⟨c0,c1,c2,c3,f1,f2,f3⟩:=h.cells
 have hR:=aj.mk h
 have hB:=aj.mk h.base.1
 have hw':=aj.mk hw
 have ht1:(t.size + 1 ≤ 9223372036854775807) = True:=eq_true (by omega)
 have ht2:(9223372036854775807 < t.size + 1) = False:=eq_false (by omega)
 have ht3:decide (t.size + 1 ≤ 9223372036854775807) = true:=decide_eq_true (by omega)
 by_cases hn:n = -1
 ·subst hn
  have e':=hn0.out
  rw [if_pos rfl] at e'
  subst e'
  clear hn0
  have Ky:=aj.mk (hR.out.aaw (i + 1))
  have hc3:=Ky.out.cells.2.2.2.1
  have hBl:=aj.mk ((Below.refl B0 w).setCell (p:=⟨g,3,none⟩) hB.out (.int .i64 (i + 1)))
  have hsz:=aj.mk (show B0 ≤ (w.setCell ⟨g,3,none⟩ (.int .i64 (i + 1))).heap.size by have:=hBl.out.size;omega)
  clear h hw hR ht hB hw'
  go_enter Try.func107,Try.ntmps107
  go_wp2
  generalize w.setCell ⟨g,3,none⟩ (.int .i64 (i + 1)) = w1 at *
  clear c0 c1 c2 c3 f1 f2 f3
  go_region_with (go_at_call 112;refine (jS.str B0 g msg i l (i + 1) t _ (by first | exact Ky.out | exact Ky.out.drewN 1 | exact Ky.out.drewN _) (by first | exact hsz.out | (simp;exact hsz.out))).mono ?_;rintro e w' ⟨rfl,hk3,hb⟩;have hb':=aj.mk hb;clear hb)
  all_goals
   go_wp2
   go_ret3
   exact ⟨rfl,by first | exact hBl.out.trans hb'.out | exact (jv hBl.out).trans hb'.out | exact jv (hBl.out.trans hb'.out) | exact hBl.out.trans (jv hb'.out)⟩
 ·have e':=hn0.out
  have d2:(n == -1) = false:=by simpa using hn
  rw [if_neg hn] at e'
  subst e'
  clear hn0
  clear h hw ht hB
  go_enter Try.func107,Try.ntmps107
  go_wp2
  clear c0 c1 c2 f1 f2 f3
  go_region_with (go_at_call 112;refine (jS.str B0 g msg i l n' t _ (by first | exact hR.out | exact hR.out.drewN 1 | exact hR.out.drewN _) (by first | exact hw'.out | (simp;exact hw'.out))).mono ?_;rintro e w' ⟨rfl,hk3,hb⟩;have hb':=aj.mk hb;clear hb)
  all_goals
   go_wp2
   go_ret3
   exact ⟨rfl,by first | exact hb'.out | exact (jv (Below.refl B0 w)).trans hb'.out | exact jv hb'.out⟩
set_option maxHeartbeats 4000000 in
set_option maxRecDepth 100000 in
theorem dw.cut (B0 g:Nat) (msg:ByteArray) (i l n z:Int) (t:ByteArray) (w:World) (h:aA.Rd B0 g msg i l n t w) (hs:msg.size ≤ 140737488355328) (hz0:0 ≤ z) (hz1:z ≤ 255) (hg:¬ gX msg i (1 + z)) :
  Calls Try.prog 109 #[.pointer (some ⟨g,0,none⟩),.int .i64 z] w fun e w'=>e = .returned (.int .i64 2) ∧ aA.Rd B0 g msg i l n t w' ∧ Below B0 w w':=by
 have hget:=ug msg i (1 + z) (by omega)
 rw [if_neg hg] at hget
 have nu:=aj.mk hget
 obtain ⟨c0,c1,c2,c3,f1,f2,f3⟩:=h.cells
 have hR:=aj.mk h
 clear hget h hs hg
 go_enter Try.func109,Try.ntmps109
 go_wp2
 go_quiet ((go_at_call 94;exact Calls.quiet_of ((eU.calls msg i (1 + z) _ _ _ nu.out).mono fun _ _ h=>⟨h.1,h.2.out⟩)))
 go_wp2
 go_ret
 exact ⟨rfl,hR.out.drewN _,ah (Below.refl B0 w) _⟩
theorem dw.len (B0 g:Nat) (msg:ByteArray) (i l n:Int) (t:ByteArray) (w:World) (h:aA.Rd B0 g msg i l n t w) :
  Calls Try.prog 113 #[.pointer (some ⟨g,4,none⟩)] w fun e w'=>e = .returned (.int .i64 t.size) ∧ w = w':=by
 obtain ⟨p,v,h⟩:=h
 have:=qL.any _ B0 g 4 _ p v _ w h
 rw [Lib.strCells_length] at this
 exact this
theorem dw.lies : liesAt Try.prog Try.prog.depth 176 (6 / Try.prog.cellsOf 176) 4 174 1 = true:=by kernel_rfl
theorem dw.write (B0 g:Nat) (msg:ByteArray) (i l n:Int) (t s:ByteArray) (w:World) (h:aA.Rd B0 g msg i l n t w) (hlen:t.size + s.size ≤ 140737488355328) (hBw:B0 ≤ w.heap.size) :
  Calls Try.prog 114 #[.pointer (some ⟨g,4,none⟩),.string s] w fun e w'=>e = .returned (.tuple #[.int .i64 s.size,.nilIface]) ∧ aA.Rd B0 g msg i l n (t ++ s) w' ∧ Below B0 w w':=by
 obtain ⟨p,v,h⟩:=h
 refine (gT.any _ B0 g 4 _ p v t s w h dw.lies (by decide) hlen hBw).mono ?_
 rintro e w' ⟨rfl,⟨v',h'⟩,hb⟩
 exact ⟨rfl,⟨_,v',h'⟩,hb⟩
set_option maxHeartbeats 4000000 in
set_option maxRecDepth 100000 in
theorem dw.name (B0 g:Nat) (msg:ByteArray) (i l n z:Int) (t:ByteArray) (w:World) (h:aA.Rd B0 g msg i l n t w) (hs:msg.size ≤ 140737488355328) (hz0:0 ≤ z) (hz1:z ≤ 255) (hg:gX msg i (1 + z)) (ht:t.size ≤ 140737488355328) (hl:255 ≤ (t.size:Int) + (1 + z)) :
  Calls Try.prog 109 #[.pointer (some ⟨g,0,none⟩),.int .i64 z] w fun e w'=>e = .returned (.int .i64 3) ∧ aA.Rd B0 g msg i l n t w' ∧ Below B0 w w':=by
 have hget:=ug msg i (1 + z) (by omega)
 rw [if_pos hg] at hget
 have hsz:=B.size_ext hg.1 hg.2.1 hg.2.2
 have nu:=aj.mk hget
 obtain ⟨c0,c1,c2,c3,f1,f2,f3⟩:=h.cells
 have hR:=aj.mk h
 generalize msg.extract i.toNat (i + (1 + z)).toNat = lb at *
 have hlb:lb.size ≤ 256:=by omega
 have d1:decide (255 ≤ (t.size:Int) + (lb.size:Int)) = true:=decide_eq_true (by omega)
 have d2:decide (255 ≤ t.size + lb.size) = true:=decide_eq_true (by omega)
 clear hget h hs hg hsz hl
 go_enter Try.func109,Try.ntmps109
 go_wp2
 go_quiet ((go_at_call 94;exact Calls.quiet_of ((eU.calls msg i (1 + z) _ _ _ nu.out).mono fun _ _ h=>⟨h.1,h.2.out⟩)))
 go_wp2_with (go_at_call 113;refine (dw.len B0 g msg i l n t _ (hR.out.drewN _)).mono ?_;rintro e w' ⟨rfl,rfl⟩)
 go_ret
 exact ⟨rfl,hR.out.drewN _,ah (Below.refl B0 w) _⟩
set_option maxHeartbeats 4000000 in
set_option maxRecDepth 100000 in
theorem dw.ok (B0 g:Nat) (msg:ByteArray) (i l n z:Int) (t:ByteArray) (w:World) (h:aA.Rd B0 g msg i l n t w) (hw:B0 ≤ w.heap.size) (hs:msg.size ≤ 140737488355328) (hz0:0 ≤ z) (hz1:z ≤ 255) (hg:gX msg i (1 + z)) (hl:(t.size:Int) + (1 + z) < 255) :
  Calls Try.prog 109 #[.pointer (some ⟨g,0,none⟩),.int .i64 z] w fun e w'=>e = .returned (.int .i64 0) ∧ aA.Rd B0 g msg (i + (1 + z)) l n (t ++ msg.extract i.toNat (i + (1 + z)).toNat) w' ∧ Below B0 w w':=by
 have hget:=ug msg i (1 + z) (by omega)
 rw [if_pos hg] at hget
 have hsz:=B.size_ext hg.1 hg.2.1 hg.2.2
 have nu:=aj.mk hget
 obtain ⟨c0,c1,c2,c3,f1,f2,f3⟩:=h.cells
 have hR:=aj.mk h
 have hi0:=hg.1
 have hi1:i ≤ 140737488355328:=by have:=hg.2.2;omega
 have hB:=aj.mk h.base.1
 generalize msg.extract i.toNat (i + (1 + z)).toNat = lb at *
 have hlb:lb.size ≤ 256:=by omega
 have htb:t.size ≤ 256:=by omega
 have d1:decide (255 ≤ (t.size:Int) + (lb.size:Int)) = false:=decide_eq_false (by omega)
 have d2:decide (255 ≤ t.size + lb.size) = false:=decide_eq_false (by omega)
 have hsum:=aj.mk (show i + (lb.size:Int) = i + (1 + z) by omega)
 have hw':=aj.mk hw
 clear hget h hs hg hsz hl hw
 go_enter Try.func109,Try.ntmps109
 go_wp2
 go_quiet ((go_at_call 94;exact Calls.quiet_of ((eU.calls msg i (1 + z) _ _ _ nu.out).mono fun _ _ h=>⟨h.1,h.2.out⟩)))
 go_wp2_with (first | (go_at_call 113;refine (dw.len B0 g msg i l n t _ (hR.out.drewN _)).mono ?_;rintro e w' ⟨rfl,rfl⟩) | (go_at_call 114;refine (dw.write B0 g msg i l n t lb _ (hR.out.drewN _) (by omega) (by simpa using hw'.out)).mono ?_))
 rintro e w1 ⟨rfl,Ky,hb1⟩
 obtain ⟨e0,e1,e2,e3,g1,g2,g3⟩:=Ky.cells
 have hR2:=aj.mk (Ky.set1 (i + (1 + z)))
 rw [← hsum.out] at hR2
 have hBl:=aj.mk ((ah (Below.refl B0 w) _).trans (hb1.setCell (p:=⟨g,1,none⟩) hB.out (.int .i64 (i + (lb.size:Int)))))
 clear Ky hb1 c0 c1 c2 c3 f1 f2 f3
 go_wp2
 go_ret
 exact ⟨rfl,by rw [← hsum.out];exact hR2.out,hBl.out⟩
def bE.l : Nat → ByteArray → Int → Int → Int → ByteArray → Option (ByteArray × Int × Int)
 | 0,_,_,_,_,_=>none
 | k + 1,msg,i,least,next,t =>
  if j3 msg i 1 then
   (if bt msg i = 0 then some (t ++ (⟨#[0]⟩:ByteArray),(if next = -1 then i + 1 else next),0)
   else if 192 ≤ bt msg i then
    (if j3 msg i 2 then
     (if iq 2 msg i - 49152 ≥ least then some (⟨#[]⟩,0,3)
     else bE.l k msg (iq 2 msg i - 49152) (iq 2 msg i - 49152) (if next = -1 then i + 2 else next) t)
    else some (⟨#[]⟩,0,2))
   else if 63 < bt msg i then some (⟨#[]⟩,0,3)
   else if gX msg i (1 + bt msg i) then
    (if (t.size:Int) + (1 + bt msg i) ≥ 255 then some (⟨#[]⟩,0,3)
    else bE.l k msg (i + (1 + bt msg i)) least next (t ++ msg.extract i.toNat (i + (1 + bt msg i)).toNat))
   else some (⟨#[]⟩,0,2))
  else some (⟨#[]⟩,0,2)
def bE.f (k:Nat) (a0:ByteArray) (a1:Int):Option (ByteArray × Int × Int):=if a0.size ≤ 140737488355328 then bE.l k a0 a1 a1 (-1) ⟨#[]⟩ else none
theorem bE.y9 : ∀ k m i l n t,kW (bE.l k m i l n t) (bE.l (k + 1) m i l n t)
 | 0,_,_,_,_,_=>fun r h=>by simp [bE.l] at h
 | k + 1,m,i,l,n,t=>by
  have ih:=bE.y9 k
  rw [bE.l,bE.l]
  repeat' first
   | (with_reducible exact ih _ _ _ _ _)
   | (with_reducible exact kW.refl _)
   | (with_reducible refine kW.ite ?_ ?_)
theorem bE.mono : ∀ a0 a1 k,kW (bE.f k a0 a1) (bE.f (k + 1) a0 a1):=by
 intro a0 a1 k
 unfold bE.f
 exact kW.ite (bE.y9 k _ _ _ _ _) (kW.refl _)
theorem bE.afC (msg:ByteArray) (i:Int) (hs:msg.size ≤ 140737488355328) (hg:j3 msg i 1):bg.f 9 msg i 1 = some (bt msg i,true):=by
 have h:=get_eq 9 (Nat.le_refl _) msg i 1 (by omega)
 rw [if_pos hg] at h
 rw [h]
 congr 1
 exact congrArg (·,true) (Ew msg i)
theorem bE.start (w:World) (msg:ByteArray) (i:Int) :
  aA.Rd w.heap.size w.heap.size msg i i (-1) ⟨#[]⟩ (w.alloc (.cells #[.string msg,.int .i64 i,.int .i64 i,.int .i64 (-1),.pointer none,.slice none 0 0] 176)) :=
 ⟨.pointer none,.slice none 0 0,Nat.le_refl _,heap_alloc_new w _,rfl,rfl,.inl rfl,World.ownsRow_nil _ _ _ _,by simp [Value.ownBlock]⟩
def bE.St (R:ByteArray × Int × Int) (B0 g:Nat) (msg:ByteArray) (k:Nat) (x:Int) (w:World):Prop :=
 (x = 0 ∧ ∃ i l n t,aA.Rd B0 g msg i l n t w ∧ bE.l k msg i l n t = some R ∧ t.size ≤ 255) ∨ (x ≠ 0 ∧ R = (⟨#[]⟩,0,x))
set_option maxHeartbeats 16000000 in
set_option maxRecDepth 100000 in
theorem bE.calls (k:Nat) (a0:ByteArray) (a1:Int) (r1:ByteArray) (r2 r3:Int) (w:World) (h:bE.f k a0 a1 = some (r1,r2,r3)) :
  Calls Try.prog 92 #[.string a0,.int .i64 a1] w fun e w'=>e = .returned (.tuple #[.string r1,.int .i64 r2,.int .i64 r3]) ∧ Below w.heap.size w w':=by
 unfold bE.f at h
 by_cases hs:a0.size ≤ 140737488355328
 ·rw [if_pos hs] at h
  have hR:=aj.mk (bE.start w a0 a1)
  have hB:=aj.mk (ak (Below.refl w.heap.size w) (.cells #[.string a0,.int .i64 a1,.int .i64 a1,.int .i64 (-1),.pointer none,.slice none 0 0] 176))
  have hH:=aj.mk h
  have hsz:=aj.mk hs
  clear h hs
  go_enter Try.func92,Try.ntmps92
  go_wp2
  go_step3
  go_wp2
  go_step3
  go_wp2
  have hSt:=aj.mk (show bE.St (r1,r2,r3) w.heap.size w.heap.size a0 k 0 _ from .inl ⟨rfl,a1,a1, -1,⟨#[]⟩,hR.out,hH.out,by decide⟩)
  clear hR hH
  generalize w.alloc (.cells #[.string a0,.int .i64 a1,.int .i64 a1,.int .i64 (-1),.pointer none,.slice none 0 0] 176) = w1 at hSt hB ⊢
  generalize hgg:w.heap.size = g at hSt hB ⊢
  have hg':=aj.mk hgg
  clear hgg
  go_loopg [8] k (fun kq v8 wr=>∃ x:Int,v8 = .int .i64 x ∧ aj (bE.St (r1,r2,r3) g g a0 kq x wr) ∧ aj (kq ≤ k) ∧ aj (Below g w wr))
  case atStart=>exact ⟨0,rfl,hSt,⟨Nat.le_refl _⟩,hB⟩
  case round =>
   clear hSt hB
   obtain ⟨x,rfl,HS,HK,HB⟩:=hrel
   rcases HS.out with ⟨hx,i,l,n,t,hR0,hH0,ht0⟩ | ⟨hx,hR⟩
   ·subst hx
    clear HS
    cases gk with
    | zero=>exact absurd hH0 (by simp [bE.l])
    | succ k2 =>
     have hR:=aj.mk hR0
     have m0:=hR0.cells.1
     have m1:=hR0.cells.2.1
     have hsz':=hsz.out
     have hBs:=aj.mk (show g ≤ wr.heap.size by have:=hR0.base.2;omega)
     have ht:=aj.mk ht0
     rw [bE.l] at hH0
     clear hR0 ht0
     by_cases hg:j3 a0 i 1
     ·rw [if_pos hg] at hH0
      have hget:=aj.mk (bE.afC a0 i hsz' hg)
      have hi0:=hg.1
      have hi1:i ≤ 140737488355328:=by have:=hg.2.2.2;omega
      have hii:=aj.mk (And.intro hi0 hi1)
      have hbr:=gD a0 i
      clear hi0 hi1 hsz' hg
      by_cases c1:bt a0 i = 0
      ·rw [if_pos c1] at hH0
       rw [c1] at hget
       simp only [Option.some.injEq,Prod.mk.injEq] at hH0
       obtain ⟨rfl,h2,rfl⟩:=hH0
       have h2':=aj.mk h2.symm
       clear c1 hbr h2
       go_wp2
       go_quiet ((go_at_call 80;exact Calls.quiet_of ((bg.calls 9 a0 i 1 _ _ _ hget.out).mono fun _ _ h=>⟨h.1,h.2.out⟩)))
       go_wp2_with (go_at_call 107;refine (jS.any g g a0 i l n t _ (hR.out.drewN _) (by simpa using hBs.out) (by have:=ht.out;omega) hii.out.1 hii.out.2 r2 h2').mono ?_;rintro e w' ⟨rfl,hb⟩)
       (try rw [Exit.noGoto_ret])
       go_ret3
       exact ⟨rfl,by rw [hg'.out];exact (ah HB.out _).trans hb⟩
      ·rw [if_neg c1] at hH0
       have d1:(bt a0 i == 0) = false:=by simpa using c1
       by_cases c2:192 ≤ bt a0 i
       ·rw [if_pos c2] at hH0
        have d2:decide (192 ≤ bt a0 i) = true:=decide_eq_true c2
        by_cases c3:j3 a0 i 2
        ·rw [if_pos c3] at hH0
         by_cases c4:iq 2 a0 i - 49152 ≥ l
         ·rw [if_pos c4] at hH0
          simp only [Option.some.injEq,Prod.mk.injEq] at hH0
          obtain ⟨rfl,rfl,rfl⟩:=hH0
          have hF:=fun (W:World) (hW:aA.Rd g g a0 i l n t W)=>aA.name g g a0 i l n t W hW hsz.out c3 c4
          have hF':=aj.mk hF
          clear hF c1 c2 c3 c4 hbr
          generalize bt a0 i = c at *
          go_wp2
          go_quiet ((go_at_call 80;exact Calls.quiet_of ((bg.calls 9 a0 i 1 _ _ _ hget.out).mono fun _ _ h=>⟨h.1,h.2.out⟩)))
          go_wp2_with (go_at_call 108;refine (hF'.out _ (hR.out.drewN _)).mono ?_;rintro e w' ⟨rfl,hR',hb⟩)
          go_roundg k2
          case measure=>have:=HK.out;omega
          case rel=>exact ⟨3,rfl,⟨.inr ⟨by decide,rfl⟩⟩,⟨by have:=HK.out;omega⟩,⟨(ah HB.out _).trans hb⟩⟩
         ·rw [if_neg c4] at hH0
          have hF:=fun (W:World) (hW:aA.Rd g g a0 i l n t W)=>aA.ok g g a0 i l n t W hW hsz.out c3 (by omega) _ ⟨rfl⟩
          have hF':=aj.mk hF
          have hH1:=aj.mk hH0
          clear hF c1 c2 c3 c4 hbr hH0
          generalize bt a0 i = c at *
          go_wp2
          go_quiet ((go_at_call 80;exact Calls.quiet_of ((bg.calls 9 a0 i 1 _ _ _ hget.out).mono fun _ _ h=>⟨h.1,h.2.out⟩)))
          go_wp2_with (go_at_call 108;refine (hF'.out _ (hR.out.drewN _)).mono ?_;rintro e w' ⟨rfl,hR',hb⟩)
          go_roundg k2
          case measure=>have:=HK.out;omega
          case rel=>exact ⟨0,rfl,⟨.inl ⟨rfl,_,_,_,_,hR',hH1.out,ht.out⟩⟩,⟨by have:=HK.out;omega⟩,⟨(ah HB.out _).trans hb⟩⟩
        ·rw [if_neg c3] at hH0
         simp only [Option.some.injEq,Prod.mk.injEq] at hH0
         obtain ⟨rfl,rfl,rfl⟩:=hH0
         have hF:=fun (W:World) (hW:aA.Rd g g a0 i l n t W)=>aA.cut g g a0 i l n t W hW hsz.out c3
         have hF':=aj.mk hF
         clear hF c1 c2 c3 hbr
         generalize bt a0 i = c at *
         go_wp2
         go_quiet ((go_at_call 80;exact Calls.quiet_of ((bg.calls 9 a0 i 1 _ _ _ hget.out).mono fun _ _ h=>⟨h.1,h.2.out⟩)))
         go_wp2_with (go_at_call 108;refine (hF'.out _ (hR.out.drewN _)).mono ?_;rintro e w' ⟨rfl,hR',hb⟩)
         go_roundg k2
         case measure=>have:=HK.out;omega
         case rel=>exact ⟨2,rfl,⟨.inr ⟨by decide,rfl⟩⟩,⟨by have:=HK.out;omega⟩,⟨(ah HB.out _).trans hb⟩⟩
       ·rw [if_neg c2] at hH0
        have d2:decide (192 ≤ bt a0 i) = false:=decide_eq_false c2
        by_cases c3:63 < bt a0 i
        ·rw [if_pos c3] at hH0
         have d3:decide (63 < bt a0 i) = true:=decide_eq_true c3
         simp only [Option.some.injEq,Prod.mk.injEq] at hH0
         obtain ⟨rfl,rfl,rfl⟩:=hH0
         clear c1 c2 c3 hbr
         generalize bt a0 i = c at *
         go_wp2
         go_quiet ((go_at_call 80;exact Calls.quiet_of ((bg.calls 9 a0 i 1 _ _ _ hget.out).mono fun _ _ h=>⟨h.1,h.2.out⟩)))
         go_wp2
         go_roundg k2
         case measure=>have:=HK.out;omega
         case rel=>exact ⟨3,rfl,⟨.inr ⟨by decide,rfl⟩⟩,⟨by have:=HK.out;omega⟩,⟨ah HB.out _⟩⟩
        ·rw [if_neg c3] at hH0
         have d3:decide (63 < bt a0 i) = false:=decide_eq_false c3
         by_cases c4:gX a0 i (1 + bt a0 i)
         ·rw [if_pos c4] at hH0
          by_cases c5:(t.size:Int) + (1 + bt a0 i) ≥ 255
          ·rw [if_pos c5] at hH0
           simp only [Option.some.injEq,Prod.mk.injEq] at hH0
           obtain ⟨rfl,rfl,rfl⟩:=hH0
           have hF:=fun (W:World) (hW:aA.Rd g g a0 i l n t W)=>dw.name g g a0 i l n (bt a0 i) t W hW hsz.out hbr.1 hbr.2 c4 (by have:=ht.out;omega) c5
           have hF':=aj.mk hF
           clear hF c1 c2 c3 c4 c5 hbr
           generalize bt a0 i = c at *
           go_wp2
           go_quiet ((go_at_call 80;exact Calls.quiet_of ((bg.calls 9 a0 i 1 _ _ _ hget.out).mono fun _ _ h=>⟨h.1,h.2.out⟩)))
           go_wp2_with (go_at_call 109;refine (hF'.out _ (hR.out.drewN _)).mono ?_;rintro e w' ⟨rfl,hR',hb⟩)
           go_roundg k2
           case measure=>have:=HK.out;omega
           case rel=>exact ⟨3,rfl,⟨.inr ⟨by decide,rfl⟩⟩,⟨by have:=HK.out;omega⟩,⟨(ah HB.out _).trans hb⟩⟩
          ·rw [if_neg c5] at hH0
           have hF:=fun (W:World) (hw:g ≤ W.heap.size) (hW:aA.Rd g g a0 i l n t W)=>dw.ok g g a0 i l n (bt a0 i) t W hW hw hsz.out hbr.1 hbr.2 c4 (by omega)
           have hF':=aj.mk hF
           have hH1:=aj.mk hH0
           have hz:=B.size_ext c4.1 c4.2.1 c4.2.2
           have ht2:=aj.mk (show (t ++ a0.extract i.toNat (i + (1 + bt a0 i)).toNat).size ≤ 255 by rw [ByteArray.size_append];omega)
           clear hF c1 c2 c3 c4 c5 hbr hH0 hz
           generalize bt a0 i = c at *
           go_wp2
           go_quiet ((go_at_call 80;exact Calls.quiet_of ((bg.calls 9 a0 i 1 _ _ _ hget.out).mono fun _ _ h=>⟨h.1,h.2.out⟩)))
           go_wp2_with (go_at_call 109;refine (hF'.out _ (by simpa using hBs.out) (hR.out.drewN _)).mono ?_;rintro e w' ⟨rfl,hR',hb⟩)
           go_roundg k2
           case measure=>have:=HK.out;omega
           case rel=>exact ⟨0,rfl,⟨.inl ⟨rfl,_,_,_,_,hR',hH1.out,ht2.out⟩⟩,⟨by have:=HK.out;omega⟩,⟨(ah HB.out _).trans hb⟩⟩
         ·rw [if_neg c4] at hH0
          simp only [Option.some.injEq,Prod.mk.injEq] at hH0
          obtain ⟨rfl,rfl,rfl⟩:=hH0
          have hF:=fun (W:World) (hW:aA.Rd g g a0 i l n t W)=>dw.cut g g a0 i l n (bt a0 i) t W hW hsz.out hbr.1 hbr.2 c4
          have hF':=aj.mk hF
          clear hF c1 c2 c3 c4 hbr
          generalize bt a0 i = c at *
          go_wp2
          go_quiet ((go_at_call 80;exact Calls.quiet_of ((bg.calls 9 a0 i 1 _ _ _ hget.out).mono fun _ _ h=>⟨h.1,h.2.out⟩)))
          go_wp2_with (go_at_call 109;refine (hF'.out _ (hR.out.drewN _)).mono ?_;rintro e w' ⟨rfl,hR',hb⟩)
          go_roundg k2
          case measure=>have:=HK.out;omega
          case rel=>exact ⟨2,rfl,⟨.inr ⟨by decide,rfl⟩⟩,⟨by have:=HK.out;omega⟩,⟨(ah HB.out _).trans hb⟩⟩
     ·rw [if_neg hg] at hH0
      have h:=get_eq 9 (Nat.le_refl _) a0 i 1 (by omega)
      rw [if_neg hg] at h
      have hget:=aj.mk h
      simp only [Option.some.injEq,Prod.mk.injEq] at hH0
      obtain ⟨rfl,rfl,rfl⟩:=hH0
      clear hg h hsz'
      go_wp2
      go_quiet ((go_at_call 80;exact Calls.quiet_of ((bg.calls 9 a0 i 1 _ _ _ hget.out).mono fun _ _ h=>⟨h.1,h.2.out⟩)))
      go_wp2
      (try rw [Exit.noGoto_ret])
      go_ret3
      exact ⟨rfl,by rw [hg'.out];exact ah HB.out _⟩
   ·simp only [Prod.mk.injEq] at hR
    obtain ⟨rfl,rfl,rfl⟩:=hR
    have d1:(r3 == 0) = false:=by simpa using hx
    clear HS hx
    go_wp2
    (try rw [Exit.noGoto_ret])
    go_ret3
    exact ⟨rfl,by rw [hg'.out];exact HB.out⟩
 ·rw [if_neg hs] at h
  exact absurd h (by simp)
end Go.Proofs.Ytfokaoeinpnagaa.ZQ

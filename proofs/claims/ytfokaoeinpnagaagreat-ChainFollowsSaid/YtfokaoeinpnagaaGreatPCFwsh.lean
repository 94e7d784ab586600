/- A part of the proof of ChainFollows: cut, joined and given short names by a program of this session (wip/tools/pack.py); Lean checks it. No condition. -/
import Derived.Test.YtfokaoeinpnagaaGreatPCFwsg
import Derived.BigRegion
import Derived.Laws.BitsLemmas
import Derived.WalkSpells
import Derived.Test.YtfokaoeinpnagaaGreatProg
import Derived.Shelf.Strings.OnBuilder
import Derived.KernelRfl
import Derived.Laws.Externs
import Derived.LaidEqlPtr
import Derived.WideMake
import Derived.WalkKit
import Derived.Below
import Derived.Test.YtfokaoeinpnagaaGreatPCFwsd
set_option linter.unusedSectionVars false
set_option linter.unusedSimpArgs false
set_option linter.unusedVariables false
set_option maxHeartbeats 16000000
set_option maxRecDepth 100000
namespace Go.Proofs.YtfokaoeinpnagaaGreat.ZQ
section
open Go.RowKit Go.Proofs.YtfokaoeinpnagaaGreatW.bI Go.Proofs.YtfokaoeinpnagaaGreatW.eF Go.Proofs.YtfokaoeinpnagaaGreatW.fK
attribute [local go_sem] j4 j5 lS lT ji jk j6 kg
mutual
def aR.j0 : Nat → ByteArray → List ByteArray → Bool → Option (List ByteArray × Bool)
 | 0,_,_,_=>none
 | k + 1,x0,x4,Ui=>if Ui = true then (some (([]:List ByteArray),false)) else (aR.l0 k x0 x4 0)
def aR.l0 : Nat → ByteArray → List ByteArray → Int → Option (List ByteArray × Bool)
 | 0,_,_,_=>none
 | k + 1,x0,x4,x5=>if x5 < (x0.size:Int) then (if 0 ≤ x5 then (if (wrap64 (bt x0 x5)) = 0 then (some (x4,(x5 == (wrap64 ((x0.size:Int) - 1))))) else (if (wrap64 (bt x0 x5)) > 63 then (some (([]:List ByteArray),false)) else (if (wrap64 (bt x0 x5)) ≥ (wrap64 ((x0.size:Int) - x5)) then (some (([]:List ByteArray),false)) else (if 0 ≤ (wrap64 (x5 + 1)) then (if (wrap64 (x5 + 1)) ≤ (wrap64 ((wrap64 (x5 + 1)) + (wrap64 (bt x0 x5)))) then (if (wrap64 ((wrap64 (x5 + 1)) + (wrap64 (bt x0 x5)))) ≤ (x0.size:Int) then (if x4.length < 8796093022208 then (aR.l0 k x0 (x4 ++ [x0.extract ((wrap64 (x5 + 1)):Int).toNat ((wrap64 ((wrap64 (x5 + 1)) + (wrap64 (bt x0 x5)))):Int).toNat]) (wrap64 ((wrap64 (x5 + 1)) + (wrap64 (bt x0 x5))))) else (none)) else (none)) else (none)) else (none))))) else (none)) else (some (([]:List ByteArray),false))
end
def aR.f (k:Nat) (a0:ByteArray):Option (List ByteArray × Bool):=if (a0.size:Int) < 1 then (aR.j0 k a0 ([]:List ByteArray) true) else (aR.j0 k a0 ([]:List ByteArray) (decide ((a0.size:Int) > 255)))
theorem aR.calls (k:Nat) (a0:ByteArray) (r1:List ByteArray) (r2:Bool) (w:World) (h:aR.f k a0 = some (r1,r2)) :
  Calls Tryz.prog 77 #[.string a0] w fun e w'=>∃ Qp:Value,e = .returned (.tuple #[Qp,.bool r2]) ∧ Kd.R Kd.string 9 w' w.heap.size (fun _=>True) Qp r1 ∧ Below w.heap.size w w':=by
 have HB:=aj.mk (Below.refl w.heap.size w)
 have H:(if (a0.size:Int) < 1 then (aR.j0 k a0 ([]:List ByteArray) true) else (aR.j0 k a0 ([]:List ByteArray) (decide ((a0.size:Int) > 255)))) = some (r1,r2):=h
 clear h
 have Y6:=aj.mk H
 clear H
 go_enter Tryz.func77,Tryz.ntmps77
 go_upto_region 2 with (fail)
 go_cut [14] (fun v14 wc=>∃ (kq:Nat) (bX:Bool),v14 = .bool bX ∧ aj (aR.j0 kq a0 ([]:List ByteArray) bX = some (r1,r2)) ∧ aj (kq ≤ k) ∧ aj (Kd.R Kd.string 9 wc w.heap.size (fun _=>True) (.slice none 0 0) ([]:List ByteArray)) ∧ aj (Below w.heap.size w wc))
 case first =>
  have H:=Y6.out
  clear Y6
  by_cases c3:(a0.size:Int) < 1
  ·rw [alx c3] at H
   have tJ:decide ((a0.size:Int) < 1) = true:=alz c3
   have Ez:decide (a0.size < 1) = true:=alz (by omega)
   clear c3
   (first | rw [tJ] | rw [Qv] | (simp only [iN,iZ];rw [tJ]) | skip)
   have H':=aj.mk H
   clear H
   go_wp2
   go_meet
   case rel=>exact ⟨_,(true),(by first | rfl | (simp;done) | (simp [*];done) | (simp [B.aY];done) | (simp [B.aZ];done)),H',⟨by first | omega | exact alC _⟩,⟨by first | exact Kd.kF _ _ _ _ _ | exact Kd.mM _ _ _ _ _ | exact Kd.mO _ _ _ _ _ | exact Kd.mJ _ _ _ _ _ | exact Kd.mK _ _ _ _ _⟩,⟨by repeat (first | exact HB.out | apply ak | apply ah | apply au)⟩⟩
  ·rw [aly c3] at H
   have tJ:decide ((a0.size:Int) < 1) = false:=alB c3
   have Ez:decide (a0.size < 1) = false:=alB (by omega)
   clear c3
   (first | rw [tJ] | rw [Qv] | (simp only [iN,iZ];rw [tJ]) | skip)
   have H':=aj.mk H
   clear H
   go_wp2
   go_meet
   case rel=>exact ⟨_,(decide ((a0.size:Int) > 255)),(by first | rfl | (simp;done) | (simp [*];done) | (simp [B.aY];done) | (simp [B.aZ];done)),H',⟨by first | omega | exact alC _⟩,⟨by first | exact Kd.kF _ _ _ _ _ | exact Kd.mM _ _ _ _ _ | exact Kd.mO _ _ _ _ _ | exact Kd.mJ _ _ _ _ _ | exact Kd.mK _ _ _ _ _⟩,⟨by repeat (first | exact HB.out | apply ak | apply ah | apply au)⟩⟩
 case rest =>
  clear Y6
  try clear p2
  try clear c3
  try clear tJ
  try clear Ez
  try clear Qv
  obtain ⟨kq,bX,rfl,HA,HJ1,tF,HB⟩:=hcut
  cases kq with
  | zero=>exact absurd HA.out (by simp [aR.j0])
  | succ kj1 =>
   have H:=HA.out
   clear HA
   simp only [aR.j0] at H
   by_cases c4:bX = true
   ·subst c4
    have H1:(some (([]:List ByteArray),false)) = some (r1,r2):=by rw [alx rfl] at H;exact H
    clear H
    have H:=H1
    clear H1
    simp only [alI,alK] at H
    obtain ⟨rfl,rfl⟩:=H
    go_wp2
    go_ret2
    exact ⟨_,by first | rfl | (simp [aM,aN] <;> rfl) | (simp [*,aM,aN] <;> rfl),by first | exact Kd.kF _ _ _ _ _ | exact Kd.mM _ _ _ _ _ | exact Kd.mO _ _ _ _ _ | exact Kd.mJ _ _ _ _ _ | exact Kd.mK _ _ _ _ _,by repeat (first | exact HB.out | apply ak | apply ah | apply au)⟩
   ·replace c4:=amg.mpr c4
    subst c4
    have H1:(aR.l0 kj1 a0 ([]:List ByteArray) 0) = some (r1,r2):=by rw [aly (show ¬ (false = true) by decide)] at H;exact H
    clear H
    have H:=H1
    clear H1
    have H':=aj.mk H
    clear H
    go_wp2
    go_loopg [4,5] kj1 (fun kq v4 v5 w'=>∃ (GU:List ByteArray) (fV:Int),v5 = .int .i64 fV ∧ aj (aR.l0 kq a0 GU fV = some (r1,r2)) ∧ aj (kq ≤ kj1) ∧ aj (Kd.R Kd.string 9 w' w.heap.size (fun _=>True) v4 GU) ∧ aj (Below w.heap.size w w'))
    case atStart=>exact ⟨(([]:List ByteArray)),(0),(by first | rfl | (simp;done) | (simp [*];done) | (simp [B.aY];done) | (simp [B.aZ];done)),H',⟨alC _⟩,⟨by (with_reducible repeat (first | apply Kd.fH | apply Kd.gB | apply Kd.gL));exact tF.out⟩,⟨by repeat (first | exact HB.out | apply ak | apply ah | apply au)⟩⟩
    case round =>
     clear H'
     try clear p2
     try clear c3
     try clear tJ
     try clear Ez
     try clear Qv
     try clear c4
     try clear p2
     obtain ⟨GU,fV,rfl,HA,WB,tF,HB⟩:=hrel
     cases gk with
     | zero=>exact absurd HA.out (by simp [aR.l0])
     | succ k2 =>
      have H:=HA.out
      clear HA
      simp only [aR.l0] at H
      by_cases c5:fV < (a0.size:Int)
      ·rw [alx c5] at H
       have rO:decide (fV < (a0.size:Int)) = true:=alz c5
       clear c5
       by_cases c6:0 ≤ fV
       ·rw [alx c6] at H
        have BJ:decide (0 ≤ fV) = true:=alz c6
        clear c6
        by_cases c8:(wrap64 (bt a0 fV)) = 0
        ·rw [alx c8] at H
         have uE:((wrap64 (bt a0 fV)) == 0) = true:=alW.mpr c8
         have uF:((wrap64 (bt a0 fV)) != 0) = false:=ami.mpr c8
         (try (have Qw:(((bt a0 fV)) == 0) = true:=by have h_:((wrap64 (bt a0 fV)) == 0) = true:=alW.mpr c8;rw [B.iC (by omega) (by omega)] at h_;exact h_))
         (try (have ac2:(((bt a0 fV)) != 0) = false:=by have h_:((wrap64 (bt a0 fV)) != 0) = false:=ami.mpr c8;rw [B.iC (by omega) (by omega)] at h_;exact h_))
         clear c8
         simp only [alI,alK] at H
         obtain ⟨rfl,rfl⟩:=H
         have p7:0 ≤ (fV:Int):=alQ (by first | (with_reducible assumption) | assumption)
         have q7:fV < (a0.size:Int):=alQ (by first | (with_reducible assumption) | assumption)
         have hx7:=pW a0 fV
         replace p7:=alH p7
         replace q7:=alH q7
         go_wp2
         go_ret2
         exact ⟨_,by first | rfl | (simp [aM,aN] <;> rfl) | (simp [*,aM,aN] <;> rfl),by (with_reducible repeat (first | apply Kd.fH | apply Kd.gB | apply Kd.gL));exact tF.out,by repeat (first | exact HB.out | apply ak | apply ah | apply au)⟩
        ·rw [aly c8] at H
         have uE:((wrap64 (bt a0 fV)) == 0) = false:=amd.mpr c8
         have uF:((wrap64 (bt a0 fV)) != 0) = true:=amf.mpr c8
         (try (have Qw:(((bt a0 fV)) == 0) = false:=by have h_:((wrap64 (bt a0 fV)) == 0) = false:=amd.mpr c8;rw [B.iC (by omega) (by omega)] at h_;exact h_))
         (try (have ac2:(((bt a0 fV)) != 0) = true:=by have h_:((wrap64 (bt a0 fV)) != 0) = true:=amf.mpr c8;rw [B.iC (by omega) (by omega)] at h_;exact h_))
         by_cases c9:(wrap64 (bt a0 fV)) > 63
         ·rw [alx c9] at H
          have vW:decide (63 < (wrap64 (bt a0 fV))) = true:=alz c9
          (try (have GQ:decide (63 < ((bt a0 fV))) = true:=by have h_:decide (63 < (wrap64 (bt a0 fV))) = true:=alz c9;rw [B.iC (by omega) (by omega)] at h_;exact h_))
          clear c9
          simp only [alI,alK] at H
          obtain ⟨rfl,rfl⟩:=H
          have p7:0 ≤ (fV:Int):=alQ (by first | (with_reducible assumption) | assumption)
          have q7:fV < (a0.size:Int):=alQ (by first | (with_reducible assumption) | assumption)
          have hx7:=pW a0 fV
          replace p7:=alH p7
          replace q7:=alH q7
          go_wp2
          go_ret2
          exact ⟨_,by first | rfl | (simp [aM,aN] <;> rfl) | (simp [*,aM,aN] <;> rfl),by first | exact Kd.kF _ _ _ _ _ | exact Kd.mM _ _ _ _ _ | exact Kd.mO _ _ _ _ _ | exact Kd.mJ _ _ _ _ _ | exact Kd.mK _ _ _ _ _,by repeat (first | exact HB.out | apply ak | apply ah | apply au)⟩
         ·rw [aly c9] at H
          have vW:decide (63 < (wrap64 (bt a0 fV))) = false:=alB c9
          (try (have GQ:decide (63 < ((bt a0 fV))) = false:=by have h_:decide (63 < (wrap64 (bt a0 fV))) = false:=alB c9;rw [B.iC (by omega) (by omega)] at h_;exact h_))
          clear c9
          by_cases c10:(wrap64 (bt a0 fV)) ≥ (wrap64 ((a0.size:Int) - fV))
          ·rw [alx c10] at H
           have tY:decide ((wrap64 ((a0.size:Int) - fV)) ≤ (wrap64 (bt a0 fV))) = true:=alz c10
           (try (have CO:decide ((((a0.size:Int) - fV)) ≤ ((bt a0 fV))) = true:=by have h_:decide ((wrap64 ((a0.size:Int) - fV)) ≤ (wrap64 (bt a0 fV))) = true:=alz c10;rw [B.iC (by omega) (by omega)] at h_;rw [B.iC (by omega) (by omega)] at h_;exact h_))
           clear c10
           simp only [alI,alK] at H
           obtain ⟨rfl,rfl⟩:=H
           have p7:0 ≤ (fV:Int):=alQ (by first | (with_reducible assumption) | assumption)
           have q7:fV < (a0.size:Int):=alQ (by first | (with_reducible assumption) | assumption)
           have hx7:=pW a0 fV
           replace p7:=alH p7
           replace q7:=alH q7
           go_wp2
           go_ret2
           exact ⟨_,by first | rfl | (simp [aM,aN] <;> rfl) | (simp [*,aM,aN] <;> rfl),by first | exact Kd.kF _ _ _ _ _ | exact Kd.mM _ _ _ _ _ | exact Kd.mO _ _ _ _ _ | exact Kd.mJ _ _ _ _ _ | exact Kd.mK _ _ _ _ _,by repeat (first | exact HB.out | apply ak | apply ah | apply au)⟩
          ·rw [aly c10] at H
           have tY:decide ((wrap64 ((a0.size:Int) - fV)) ≤ (wrap64 (bt a0 fV))) = false:=alB c10
           (try (have CO:decide ((((a0.size:Int) - fV)) ≤ ((bt a0 fV))) = false:=by have h_:decide ((wrap64 ((a0.size:Int) - fV)) ≤ (wrap64 (bt a0 fV))) = false:=alB c10;rw [B.iC (by omega) (by omega)] at h_;rw [B.iC (by omega) (by omega)] at h_;exact h_))
           clear c10
           obtain ⟨nK,KO⟩:∃ j_:Int,(wrap64 (fV + 1)) = j_:=⟨_,rfl⟩
           replace H:(if 0 ≤ (nK) then (if (nK) ≤ (wrap64 ((nK) + (wrap64 (bt a0 fV)))) then (if (wrap64 ((nK) + (wrap64 (bt a0 fV)))) ≤ (a0.size:Int) then (if GU.length < 8796093022208 then (aR.l0 k2 a0 (GU ++ [a0.extract ((nK):Int).toNat ((wrap64 ((nK) + (wrap64 (bt a0 fV)))):Int).toNat]) (wrap64 ((nK) + (wrap64 (bt a0 fV))))) else (none)) else (none)) else (none)) else (none)) = some (r1,r2):=by first | (rw [KO] at H;exact H) | (simp only [KO] at H ⊢;exact H)
           have aiF:(IntKind.i64.wrap (fV + 1)) = nK:=(iN _).trans KO
           by_cases c12:0 ≤ (nK)
           ·rw [alx c12] at H
            have vX:=alH c12
            have vY:decide (0 ≤ (nK)) = true:=alz c12
            clear c12
            by_cases c13:(nK) ≤ (wrap64 ((nK) + (wrap64 (bt a0 fV))))
            ·rw [alx c13] at H
             have aj5:=alH c13
             have aj6:decide ((nK) ≤ (wrap64 ((nK) + (wrap64 (bt a0 fV))))) = true:=alz c13
             by_cases c14:(wrap64 ((nK) + (wrap64 (bt a0 fV)))) ≤ (a0.size:Int)
             ·rw [alx c14] at H
              have CP:=alH c14
              have WC:decide ((wrap64 ((nK) + (wrap64 (bt a0 fV)))) ≤ (a0.size:Int)) = true:=alz c14
              by_cases c15:GU.length < 8796093022208
              ·rw [alx c15] at H
               have ac3:=aj.mk c15
               clear c15
               obtain ⟨ac4,GV⟩:∃ y_:List ByteArray,y_ = (GU ++ [a0.extract ((nK):Int).toNat ((wrap64 ((nK) + (wrap64 (bt a0 fV)))):Int).toNat]):=⟨_,rfl⟩
               replace H:(aR.l0 k2 a0 ac4 (wrap64 ((nK) + (wrap64 (bt a0 fV))))) = some (r1,r2):=by first | (rw [GV];with_reducible exact H) | (have Jj:=(Option.bind_some _ _).symm.trans H;rw [GV];with_reducible exact Jj) | (have Jj:=(Option.bind_some _ _).symm.trans H;with_reducible exact Jj) | with_reducible exact H | (rw [GV];exact H) | exact H
               have ac5:=aj.mk GV
               clear GV
               have H':=aj.mk H
               clear H
               have p7:0 ≤ (fV:Int):=alQ (by first | (with_reducible assumption) | assumption)
               have q7:fV < (a0.size:Int):=alQ (by first | (with_reducible assumption) | assumption)
               have hx7:=pW a0 fV
               replace p7:=alH p7
               replace q7:=alH q7
               go_wp2_with (first | ((with_reducible refine qA (b:=.append) (xs:=#[.tmp 41,.tmp 50]) rfl ?_);(try (refine Av (by rfl) ?_;dsimp only));at_builtin;refine Kd.Ad Kd.string (w0:=w) w.heap.size rfl (.tmp 41) (.tmp 50) 40 9 (.string ⟨#[]⟩) 16 rfl Tryz.underlying40 KJ rfl (by decide) (by omega) u4 GU (a0.extract ((nK):Int).toNat ((wrap64 ((nK) + (wrap64 (bt a0 fV)))):Int).toNat) [.string (a0.extract ((nK):Int).toNat ((wrap64 ((nK) + (wrap64 (bt a0 fV)))):Int).toNat)] (fun _=>True) (fun _=>False) rfl rfl ?aP (fun _ hk=>hk.elim) ?aF ?aO ?aB ?aS ?aL ?_;(case aP=>exact rfl);(case aB=>exact (by repeat first | exact HB.out | apply ak | apply ah | apply au));(case aF=>exact (fun _ _=>trivial));(case aO=>exact (by (with_reducible repeat (first | apply Kd.fH | apply Kd.gB | apply Kd.gL));exact tF.out));(case aS=>exact (cB (by repeat first | exact HB.out | apply ak | apply ah | apply au)));(case aL=>have:=ac3.out;omega);intro alg w16 ho hb hg hat;rw [← ac5.out] at ho;have fJ:=aj.mk (hb);have jr:=aj.mk (ho);clear HB;clear tF;have HB:=fJ;have ac6:=jr;clear fJ jr;clear ho hb hg hat))
               go_roundg k2
               case measure=>have:=HJ1.out;have:=WB.out;omega
               case rel=>exact ⟨(ac4),(wrap64 ((nK) + (wrap64 (bt a0 fV)))),(by first | rfl | (simp;done) | (simp only [← KO] <;> (first | rfl | simp)) | (simp [*];done)),H',⟨by have:=HJ1.out;have:=WB.out;omega⟩,⟨by (with_reducible repeat (first | apply Kd.fH | apply Kd.gB | apply Kd.gL));exact ac6.out⟩,⟨by repeat (first | exact HB.out | apply ak | apply ah | apply au)⟩⟩
              ·rw [aly c15] at H
               exact absurd H (by simp)
             ·rw [aly c14] at H
              exact absurd H (by simp)
            ·rw [aly c13] at H
             exact absurd H (by simp)
           ·rw [aly c12] at H
            exact absurd H (by simp)
       ·rw [aly c6] at H
        exact absurd H (by simp)
      ·rw [aly c5] at H
       have rO:decide (fV < (a0.size:Int)) = false:=alB c5
       clear c5
       simp only [alI,alK] at H
       obtain ⟨rfl,rfl⟩:=H
       go_wp2
       go_ret2
       exact ⟨_,by first | rfl | (simp [aM,aN] <;> rfl) | (simp [*,aM,aN] <;> rfl),by first | exact Kd.kF _ _ _ _ _ | exact Kd.mM _ _ _ _ _ | exact Kd.mO _ _ _ _ _ | exact Kd.mJ _ _ _ _ _ | exact Kd.mK _ _ _ _ _,by repeat (first | exact HB.out | apply ak | apply ah | apply au)⟩
def dV.f (k:Nat) (a0:ByteArray):Option (Bool):=(aR.f k a0).bind fun Qx=>(some Qx.2)
theorem dV.calls (k:Nat) (a0:ByteArray) (r:Bool) (w:World) (h:dV.f k a0 = some r) :
  Calls Tryz.prog 42 #[.string a0] w fun e w'=>e = .returned (.bool r) ∧ Below w.heap.size w w':=by
 have HB:=aj.mk (Below.refl w.heap.size w)
 have H:((aR.f k a0).bind fun Qx=>(some Qx.2)) = some r:=h
 clear h
 replace H:=zbm H
 obtain ⟨⟨aiG,ac7⟩,Qu,H⟩:=H
 replace H:(some ac7) = some r:=H
 have A2:=aj.mk Qu
 clear Qu
 obtain rfl:=al0 H
 go_enter Tryz.func42,Tryz.ntmps42
 go_wp2_with (first | ((with_reducible refine aQ (f:=77) rfl ?_);refine bW (some 7) rfl rfl Tryz.func77 (by kernel_rfl) rfl #[.string a0] rfl (by (try simp only [alJ,alD,alE]) <;> rfl) ?_;(with_reducible refine (aR.calls k a0 aiG ac7 _ A2.out).mono ?_);rintro e w3 ⟨alh,rfl,ho0,hb⟩;refine ⟨_,rfl,?_⟩;have fJ:=aj.mk (Kd.sI ho0 (cB (by repeat first | exact HB.out | apply ak | apply ah | apply au)));have jr:=aj.mk (bP (by repeat first | exact HB.out | apply ak | apply ah | apply au) hb);clear HB;have aj7:=fJ;have HB:=jr;clear fJ jr;(try clear hb);(try clear hb2);(try clear hk);(try clear hi);(try clear ho0)))
 go_ret
 exact ⟨by first | rfl | (simp [aM,aN] <;> rfl) | (simp [*,aM,aN] <;> rfl),by repeat (first | exact HB.out | apply ak | apply ah | apply au)⟩
def dK.f (a0:ByteArray):Option ByteArray:=if a0.size ≤ 140737488355328 then some (B.qM a0) else none
theorem dK.calls (a0:ByteArray) (r:ByteArray) (w:World) (h:dK.f a0 = some r) :
  Calls Tryz.prog 76 #[.string a0] w fun e w'=>e = .returned (.string r) ∧ Below w.heap.size w w':=by
 unfold dK.f at h
 by_cases hs:a0.size ≤ 140737488355328
 ·rw [alx hs] at h
  obtain rfl:=al0 h
  clear h
  have kc:=fun (W:World)=>Lib.run_convert_string_bytes (P:=Tryz.prog) W 9 189 5 a0 Tryz.underlying9 Tryz.underlying189 Tryz.underlying5
  have hb0:=aj.mk (B.Al (Below.refl w.heap.size w) (alC _) 5 a0)
  have hr0:=aj.mk (B.Ak w 5 a0)
  go_enter Tryz.func76,Tryz.ntmps76
  go_wp2
  generalize Lib.bytesWorld w 5 a0 = w1 at hb0 hr0 ⊢
  generalize grownCap w a0.size 0 5 = C
  have hz:=aj.mk (B.numsOf_length a0)
  have hg:=aj.mk (alC w.heap.size)
  generalize hgg:w.heap.size = g at hb0 hr0 hg ⊢
  have hg':=aj.mk hgg
  clear hgg
  go_loopw [4] (fun v wr=>∃ k:Nat,k ≤ a0.size ∧ v = .int .i64 k ∧ aj (B.xX wr g (B.jL k (B.numsOf a0))) ∧ aj (Below g w wr)) (fun v _=>a0.size - (intOf v).toNat)
  case atStart=>exact ⟨0,amn _,rfl,⟨by rw [B.Aj];exact hr0.out⟩,hb0⟩
  case round =>
   obtain ⟨k,hk,rfl,hrow,hbel⟩:=hrel
   clear hr0 hb0 kc
   by_cases hlt:k < a0.size
   ·have hkl:k < (B.numsOf a0).length:=by rw [hz.out];exact hlt
    have hc:=(hrow.out k (by rw [B.iK];exact hkl))
    rw [B.GI k _ hkl,B.numsOf_at] at hc
    obtain ⟨hc1,hc2⟩:=hc
    have hrange:=B.CB a0 k
    have hset:=aj.mk (B.rowAt_set hrow.out k (B.jD (bt a0 k)) (by rw [B.iK];exact hkl))
    have hset':=aj.mk (show B.xX (wr.setCell ⟨g,k,none⟩ (.int .u8 (B.jD (bt a0 k)))) g (B.jL (k + 1) (B.numsOf a0)) by
     have h1:=hset.out
     rw [← B.numsOf_at,B.xq k _ hkl] at h1
     rw [← B.numsOf_at]
     exact h1)
    have mQ:=aj.mk (hbel.out.setCell (p:=⟨g,k,none⟩) (alC _) (.int .u8 (B.jD (bt a0 k))))
    have hsame:=aj.mk (show B.jD (bt a0 k) = bt a0 k → B.xX wr g (B.jL (k + 1) (B.numsOf a0)) by
     intro he j hj
     have h1:=hrow.out j (by rw [B.iK] at hj ⊢;exact hj)
     rw [← B.xq k _ hkl,B.numsOf_at,he]
     by_cases e:j = k
     ·subst e
      rw [al8,List.getElem?_set_self (by rw [B.iK];exact hkl)]
      exact ⟨hc1,hc2⟩
     ·rw [al8,List.getElem?_set_ne (fun h=>e h.symm),← al8]
      exact h1)
    clear hset hrow hkl
    generalize bt a0 k = c at *
    by_cases c1:65 ≤ c
    ·by_cases c2:c ≤ 90
     ·have d1:decide (65 ≤ c) = true:=alz c1
      have d2:decide (c ≤ 90) = true:=alz c2
      have e1:B.jD c = c + 32:=by unfold B.jD;rw [alx ⟨c1,c2⟩]
      have e2:(c + 32) % 256 = c + 32:=by omega
      rw [e1] at hset' mQ
      have e2':=aj.mk e2
      clear hsame hbel e1 e2 c1 c2
      go_wp2
      all_goals
       go_roundw
       case rel=>exact ⟨k + 1,by omega,by go_num,⟨fun j hj=>by first | exact hset'.out j hj | (rw [e2'.out];exact hset'.out j hj)⟩,⟨by first | exact mQ.out | (rw [e2'.out];exact mQ.out) | exact ⟨mQ.out.os,mQ.out.tape,mQ.out.output,mQ.out.size,mQ.out.block⟩⟩⟩
       case measure=>simp [intOf];omega
     ·have d1:decide (65 ≤ c) = true:=alz c1
      have d2:decide (c ≤ 90) = false:=alB c2
      have e1:B.jD c = c:=by unfold B.jD;rw [aly (by omega)]
      have hr2:=aj.mk (hsame.out e1)
      clear hsame hset' mQ e1 c1 c2
      go_wp2
      go_roundw
      case rel=>exact ⟨k + 1,by omega,by go_num,hr2,hbel⟩
      case measure=>simp [intOf];omega
    ·have d1:decide (65 ≤ c) = false:=alB c1
     have e1:B.jD c = c:=by unfold B.jD;rw [aly (by omega)]
     have hr2:=aj.mk (hsame.out e1)
     clear hsame hset' mQ e1 c1
     go_wp2
     go_roundw
     case rel=>exact ⟨k + 1,by omega,by go_num,hr2,hbel⟩
     case measure=>simp [intOf];omega
   ·obtain rfl:k = a0.size:=by omega
    have hl:(B.jL a0.size (B.numsOf a0)).length = a0.size:=by rw [B.iK];exact hz.out
    have kd:=fun (dst:TypeId) (hd:Tryz.prog.underlying dst = some .string)=>run_convert_bytes_arg (P:=Tryz.prog) wr 189 5 Tryz.underlying189 Tryz.underlying5 g 0 a0.size C (B.jL a0.size (B.numsOf a0)) hl (fun i hi=>by rw [amc];exact (hrow.out i (by rw [hl];exact hi)).1) dst hd
    replace kd:=kd 9 Tryz.underlying9
    have he:=aj.mk (show strOfNums (B.jL a0.size (B.numsOf a0)) = B.qM a0 by
     have:=B.Cz (B.numsOf a0)
     rw [hz.out] at this
     rw [this];rfl)
    generalize strOfNums (B.jL a0.size (B.numsOf a0)) = q at kd he
    clear hrow hl hlt
    have he':=he.out
    clear he
    subst he'
    go_wp2
    go_ret
    exact ⟨rfl,by rw [hg'.out];exact hbel.out⟩
 ·rw [aly hs] at h
  exact absurd h (by simp)
def gy.f (k:Nat) (a0:ByteArray):Option (ByteArray):=(dV.f k a0).bind fun t117=>(if t117 = true then ((dK.f a0).bind fun BK=>(some BK)) else (some (⟨#[]⟩:ByteArray)))
theorem gy.calls (k:Nat) (a0:ByteArray) (r:ByteArray) (w:World) (h:gy.f k a0 = some r) :
  Calls Tryz.prog 41 #[.string a0] w fun e w'=>e = .returned (.string r) ∧ Below w.heap.size w w':=by
 have HB:=aj.mk (Below.refl w.heap.size w)
 have H:((dV.f k a0).bind fun t117=>(if t117 = true then ((dK.f a0).bind fun BK=>(some BK)) else (some (⟨#[]⟩:ByteArray)))) = some r:=h
 clear h
 replace H:=zbm H
 obtain ⟨t117,Qu,H⟩:=H
 replace H:(if t117 = true then ((dK.f a0).bind fun BK=>(some BK)) else (some (⟨#[]⟩:ByteArray))) = some r:=H
 have A2:=aj.mk Qu
 clear Qu
 by_cases c3:t117 = true
 ·subst c3
  have H1:((dK.f a0).bind fun BK=>(some BK)) = some r:=by rw [alx rfl] at H;exact H
  clear H
  have H:=H1
  clear H1
  replace H:=zbm H
  obtain ⟨BK,GR,H⟩:=H
  replace H:(some BK) = some r:=H
  have A4:=aj.mk GR
  clear GR
  obtain rfl:=al0 H
  go_enter Tryz.func41,Tryz.ntmps41
  go_wp2_with (first | ((with_reducible refine aQ (f:=42) rfl ?_);refine bW (some 4) rfl rfl Tryz.func42 (by kernel_rfl) rfl #[.string a0] rfl (by (try simp only [alJ,alD,alE]) <;> rfl) ?_;(with_reducible refine (dV.calls k a0 true _ A2.out).mono ?_);rintro e w5 ⟨rfl,hb⟩;refine ⟨_,rfl,?_⟩;have fJ:=aj.mk (bP (by repeat first | exact HB.out | apply ak | apply ah | apply au) hb);clear HB;have HB:=fJ;clear fJ;(try clear hb);(try clear hb2);(try clear hk);(try clear hi)) | ((with_reducible refine aQ (f:=76) rfl ?_);refine bW (some 7) rfl rfl Tryz.func76 (by kernel_rfl) rfl #[.string a0] rfl (by (try simp only [alJ,alD,alE]) <;> rfl) ?_;(with_reducible refine (dK.calls a0 BK _ A4.out).mono ?_);rintro e w6 ⟨rfl,hb⟩;refine ⟨_,rfl,?_⟩;have fJ:=aj.mk (bP (by repeat first | exact HB.out | apply ak | apply ah | apply au) hb);clear HB;have HB:=fJ;clear fJ;(try clear hb);(try clear hb2);(try clear hk);(try clear hi)))
  go_ret
  exact ⟨by first | rfl | (simp [aM,aN] <;> rfl) | (simp [*,aM,aN] <;> rfl),by repeat (first | exact HB.out | apply ak | apply ah | apply au)⟩
 ·replace c3:=amg.mpr c3
  subst c3
  have H1:(some (⟨#[]⟩:ByteArray)) = some r:=by rw [aly (show ¬ (false = true) by decide)] at H;exact H
  clear H
  have H:=H1
  clear H1
  obtain rfl:=al0 H
  go_enter Tryz.func41,Tryz.ntmps41
  go_wp2_with (first | ((with_reducible refine aQ (f:=42) rfl ?_);refine bW (some 4) rfl rfl Tryz.func42 (by kernel_rfl) rfl #[.string a0] rfl (by (try simp only [alJ,alD,alE]) <;> rfl) ?_;(with_reducible refine (dV.calls k a0 false _ A2.out).mono ?_);rintro e w7 ⟨rfl,hb⟩;refine ⟨_,rfl,?_⟩;have fJ:=aj.mk (bP (by repeat first | exact HB.out | apply ak | apply ah | apply au) hb);clear HB;have HB:=fJ;clear fJ;(try clear hb);(try clear hb2);(try clear hk);(try clear hi)))
  go_ret
  exact ⟨by first | rfl | (simp [aM,aN] <;> rfl) | (simp [*,aM,aN] <;> rfl),by repeat (first | exact HB.out | apply ak | apply ah | apply au)⟩
end
section
open Go.RowKit Go.Proofs.YtfokaoeinpnagaaGreatW.bI Go.Proofs.YtfokaoeinpnagaaGreatW.eF Go.Proofs.YtfokaoeinpnagaaGreatW.fK Go.Proofs.YtfokaoeinpnagaaGreat.B
theorem oO {n:ByteArray}:n.toList = ([0]:List UInt8) ↔ n = root:=by
 have:root.toList = ([0]:List UInt8):=by rw [Lib.toList_data];rfl
 rw [← this,toList_inj]
theorem Qy (d:Nat):∀ (k:Nat) (n:ByteArray) (acc:List ByteArray),n.size ≤ d → 1 ≤ n.size → d ≤ 255 → acc.length + d ≤ 1000 → 2 * d + 2 ≤ k →
  bT.l0 k n acc = some (match kP n.size n with | some l=>(acc ++ l,true) | none=>([],false)):=by
 induction d with
 | zero=>intro k n acc h1 h2;omega
 | succ d ih =>
  intro k n acc h1 h2 h3 h4 hk
  obtain ⟨k,rfl⟩:∃ m,k = m + 2:=⟨k - 2,by omega⟩
  rw [bT.l0,alx (by omega),bT.j1,Ap h2]
  by_cases hr:n = root
  ·have hb:(n.toList != ([0]:List UInt8)) = false:=ami.mpr (oO.mpr hr)
   have hb2:(n.toList == ([0]:List UInt8)) = true:=alW.mpr (oO.mpr hr)
   rw [hb,aly amT,alx hr,hb2]
   simp
  ·have hb:(n.toList != ([0]:List UInt8)) = true:=amf.mpr fun h=>hr (oO.mp h)
   have hbr:=iA n 0
   rw [hb,alx rfl,alx (by omega),aly hr,iC (n:=bt n 0) (by omega) (by omega),iC (n:=bt n 0 + 1) (by omega) (by omega),iC (n:=1 + bt n 0) (by omega) (by omega)]
   by_cases c1:bt n 0 < 1
   ·rw [alx c1,aly (by omega)]
   ·rw [aly c1]
    by_cases c2:bt n 0 > 63
    ·rw [alx c2,aly (by omega)]
    ·rw [aly c2]
     by_cases c3:bt n 0 + 1 ≥ (n.size:Int)
     ·rw [alx c3,aly (by omega)]
     ·rw [aly c3,alx (by omega),alx (by omega),alx (by omega),alx (by omega),alx (by omega)]
      have e:(1 + bt n 0).toNat = 1 + (bt n 0).toNat:=by omega
      rw [e,ih k _ _ (by rw [al1];omega) (by rw [al1];omega) (by omega) (by simp;omega) (by omega)]
      cases kP (n.extract (1 + (bt n 0).toNat) n.size).size (n.extract (1 + (bt n 0).toNat) n.size) with
      | none=>rfl
      | some l=>simp
def EA (n:ByteArray):List ByteArray × Bool:=match vU n with | some l=>(l,true) | none=>([],false)
theorem Qz (k:Nat) (hk:600 ≤ k) (n:ByteArray) (hs:n.size ≤ 1000000000):bT.f k n = some (EA n):=by
 unfold bT.f EA vU
 by_cases h:n.size ≤ 255
 ·rw [aly (by omega),alx h]
  by_cases h0:n.size = 0
  ·obtain ⟨k,rfl⟩:∃ m,k = m + 2:=⟨k - 2,by omega⟩
   have hb2:(n.toList == ([0]:List UInt8)) = false:=amd.mpr fun h=>by rw [oO] at h;rw [h,mq] at h0;omega
   rw [bT.l0,aly (by omega),bT.j1,aly amT,hb2,kP,alx h0]
  ·rw [Qy 255 k n [] h (by omega) (by omega) (by simp) (by omega),Ao 255 n h]
   simp
 ·rw [alx (by omega),aly h]
theorem Jk (n:ByteArray):(EA n).2 = kK n:=by
 unfold EA kK
 cases vU n <;> rfl
theorem GX (k:Nat) (hk:600 ≤ k) (n:ByteArray) (hs:n.size ≤ 1000000000):jE.f k n = some (kK n):=by
 unfold jE.f
 rw [Qz k hk n hs]
 simp only [Option.bind_some,Jk]
theorem Y7 (n:ByteArray) (hs:n.size ≤ 1000000000):jM.f n = some (qM n):=by unfold jM.f;rw [alx (by omega)]
theorem QA (n:ByteArray) (hs:n.size ≤ 1000000000):dK.f n = some (qM n):=by unfold dK.f;rw [alx (by omega)]
theorem Ay (a b:ByteArray):(a.toList == b.toList) = decide (a = b):=by
 rw [Bool.eq_iff_iff]
 simp only [alW,alL]
 exact toList_inj
theorem QB (n:ByteArray):n.extract 0 n.size = n:=anI
theorem MB (d:Nat):∀ (k:Nat) (n:ByteArray) (i:Nat) (acc:List ByteArray),i < n.size → n.size - i ≤ d → n.size ≤ 255 → acc.length + d ≤ 1000 → d + 2 ≤ k →
  ∃ o,aR.l0 k n acc i = some o ∧ (match kP (n.extract i n.size).size (n.extract i n.size) with | some l=>o = (acc ++ l,true) | none=>o.2 = false):=by
 induction d with
 | zero=>intro k n i acc h1 h2;omega
 | succ d ih =>
  intro k n i acc h1 h2 h3 h4 hk
  obtain ⟨k,rfl⟩:∃ m,k = m + 1:=⟨k - 1,by omega⟩
  have hz:(n.extract i n.size).size = n.size - i:=by rw [al1];omega
  have hb:bt (n.extract i n.size) 0 = bt n i:=by
   rw [oo (by omega) (by rw [hz];omega)]
   congr 1
  have hbr:=iA n i
  rw [aR.l0,alx (by omega),alx (by omega),Ap (by rw [hz];omega),hb,iC (n:=bt n i) (by omega) (by omega)]
  by_cases c0:bt n i = 0
  ·rw [alx c0]
   refine ⟨_,rfl,?_⟩
   by_cases hr:n.extract i n.size = root
   ·have h5:=al2 ByteArray.size hr
    rw [hz,mq] at h5
    rw [alx hr,iC (by omega) (by omega)]
    have:(i:Int) = (n.size:Int) - 1:=by omega
    simp [this]
   ·have h5:n.size - i ≠ 1:=by
     intro h6
     refine hr (Jf (by rw [hz,mq];exact h6) fun j j0 j1=>?_)
     rw [hz] at j1
     have:j = 0:=by omega
     subst this
     rw [hb,c0,KE]
    rw [aly hr,aly (by omega),iC (by omega) (by omega)]
    simp
    omega
  ·have hr:n.extract i n.size ≠ root:=by
    intro h5
    rw [h5,KE] at hb
    exact c0 hb.symm
   rw [aly c0,aly hr]
   by_cases c2:bt n i > 63
   ·rw [alx c2,aly (by omega)]
    exact ⟨_,rfl,rfl⟩
   ·rw [aly c2,iC (n:=(n.size:Int) - i) (by omega) (by omega)]
    by_cases c3:bt n i ≥ (n.size:Int) - i
    ·rw [alx c3,aly (by rw [hz];omega)]
     exact ⟨_,rfl,rfl⟩
    ·rw [aly c3,iC (n:=(i:Int) + 1) (by omega) (by omega),iC (n:=(i:Int) + 1 + bt n i) (by omega) (by omega),alx (by omega),alx (by omega),alx (by omega),alx (by omega)]
     have e:((i:Int) + 1 + bt n i) = ((i + 1 + (bt n i).toNat:Nat):Int):=by omega
     have e1:((i:Int) + 1).toNat = i + 1:=by omega
     rw [e,e1,Int.toNat_natCast]
     by_cases c4:i + 1 + (bt n i).toNat < n.size
     ·obtain ⟨o,ho,hm⟩:=ih k n (i + 1 + (bt n i).toNat) (acc ++ [n.extract (i + 1) (i + 1 + (bt n i).toNat)]) (by omega) (by omega) h3 (by simp;omega) (by omega)
      refine ⟨o,ho,?_⟩
      rw [alx (by rw [hz];omega)]
      have x1:(n.extract i n.size).extract 1 (1 + (bt n i).toNat) = n.extract (i + 1) (i + 1 + (bt n i).toNat):=by
       rw [anJ];congr 1;omega
      have x2:(n.extract i n.size).extract (1 + (bt n i).toNat) (n.extract i n.size).size = n.extract (i + 1 + (bt n i).toNat) n.size:=by
       rw [hz,anJ];congr 1 <;> omega
      rw [x1,x2]
      cases hl:kP (n.extract (i + 1 + (bt n i).toNat) n.size).size (n.extract (i + 1 + (bt n i).toNat) n.size) with
      | none=>rw [hl] at hm;simpa using hm
      | some l=>rw [hl] at hm;simpa using hm
     ·obtain ⟨k,rfl⟩:∃ m,k = m + 1:=⟨k - 1,by omega⟩
      rw [aly (by rw [hz];omega),aR.l0,aly (by omega)]
      exact ⟨_,rfl,rfl⟩
theorem MC (k:Nat) (hk:600 ≤ k) (n:ByteArray) (hs:n.size ≤ 1000000000) :
  ∃ o,aR.f k n = some o ∧ (match vU n with | some l=>o = (l,true) | none=>o.2 = false):=by
 obtain ⟨k,rfl⟩:∃ m,k = m + 1:=⟨k - 1,by omega⟩
 unfold aR.f vU
 by_cases h0:n.size = 0
 ·rw [alx (by omega),aR.j0,alx rfl,alx (by omega),kP,alx h0]
  exact ⟨_,rfl,rfl⟩
 ·rw [aly (by omega)]
  by_cases h:n.size ≤ 255
  ·have hd:decide ((n.size:Int) > 255) = false:=alB (by omega)
   rw [hd,aR.j0,aly amT,alx h,Ao 255 n h]
   have:=MB 255 k n 0 [] (by omega) (by omega) h (by simp) (by omega)
   rw [QB] at this
   simpa using this
  ·have hd:decide ((n.size:Int) > 255) = true:=alz (by omega)
   rw [hd,aR.j0,alx rfl,aly h]
   exact ⟨_,rfl,rfl⟩
theorem vZ (k:Nat) (hk:600 ≤ k) (n:ByteArray) (hs:n.size ≤ 1000000000):dV.f k n = some (kK n):=by
 obtain ⟨o,ho,hm⟩:=MC k hk n hs
 unfold dV.f kK
 rw [ho]
 simp only [Option.bind_some]
 cases hl:vU n with
 | none=>rw [hl] at hm;simpa using hm
 | some l=>rw [hl] at hm;simp at hm;rw [hm];rfl
end
section
open Go.RowKit Go.Proofs.YtfokaoeinpnagaaGreatW.bI Go.Proofs.YtfokaoeinpnagaaGreatW.eF Go.Proofs.YtfokaoeinpnagaaGreatW.fK
attribute [local go_sem] j4 j5 lS lT ji jk j6 kg
def fP.f (a0:ByteArray) (a1:Int) (a2:Int):Option (ByteArray × Bool) :=
 if (a0.size:Int) ≤ 9223372036854775807 then
  (if 0 ≤ a1 ∧ 0 ≤ a2 ∧ a1 + a2 ≤ (a0.size:Int) then some (a0.extract a1.toNat (a1 + a2).toNat,true) else some ((⟨#[]⟩:ByteArray),false))
 else none
theorem fP.mid (s:ByteArray) (a b:Int) (h0:0 ≤ a) (h1:0 ≤ b) (h2:a + b ≤ (s.size:Int)) :
  (s.extract a.toNat s.size).extract 0 b.toNat = s.extract a.toNat (a + b).toNat:=by
 rw [anJ]
 congr 1
 omega
theorem fP.calls (a0:ByteArray) (a1:Int) (a2:Int) (r1:ByteArray) (r2:Bool) (w:World) (h:fP.f a0 a1 a2 = some (r1,r2)) :
  Calls Tryz.prog 136 #[.string a0,.int .i64 a1,.int .i64 a2] w fun e w'=>e = .returned (.tuple #[.string r1,.bool r2]) ∧ bA w w':=by
 unfold fP.f at h
 by_cases hs:(a0.size:Int) ≤ 9223372036854775807
 ·rw [alx hs] at h
  by_cases hc:0 ≤ a1 ∧ 0 ≤ a2 ∧ a1 + a2 ≤ (a0.size:Int)
  ·rw [alx hc] at h
   simp only [alI,alK] at h
   obtain ⟨rfl,rfl⟩:=h
   obtain ⟨h0,h1,h2⟩:=hc
   have hw:wrap64 ((a0.size:Int) - a1) = (a0.size:Int) - a1:=by unfold wrap64;omega
   have hm:=aj.mk (fP.mid a0 a1 a2 h0 h1 h2)
   have c1:decide (a1 < 0) = false:=alB (by omega)
   have c2:decide (a2 < 0) = false:=alB (by omega)
   have c3:decide ((a0.size:Int) < a1) = false:=alB (by omega)
   have c4:decide (wrap64 ((a0.size:Int) - a1) < a2) = false:=alB (by omega)
   have c5:=alH h0
   have c6:(a1 ≤ (a0.size:Int)) = True:=alH (by omega)
   have c7:=alH h1
   have c8:(a2 ≤ ((a0.extract a1.toNat a0.size).size:Int)) = True:=alH (by simp only [al1];omega)
   have c9:(a2 ≤ (a0.size:Int) - (a1.toNat:Int)) = True:=alH (by omega)
   have c10:(a2 ≤ ((a0.size - a1.toNat:Nat):Int)) = True:=alH (by omega)
   clear hs hw h0 h1 h2
   go_enter Tryz.func136,Tryz.ntmps136
   go_wp2
   go_ret2
   exact ⟨by rw [hm.out];rfl,by repeat (first | exact bA.refl _ | apply bA.step)⟩
  ·rw [aly hc] at h
   simp only [alI,alK] at h
   obtain ⟨rfl,rfl⟩:=h
   by_cases c1:a1 < 0
   ·have c1':decide (a1 < 0) = true:=alz c1
    clear hs hc c1
    go_enter Tryz.func136,Tryz.ntmps136
    go_wp2
    go_ret2
    exact ⟨rfl,by repeat (first | exact bA.refl _ | apply bA.step)⟩
   ·by_cases c2:a2 < 0
    ·have c1':decide (a1 < 0) = false:=alB c1
     have c2':decide (a2 < 0) = true:=alz c2
     clear hs hc c1 c2
     go_enter Tryz.func136,Tryz.ntmps136
     go_wp2
     go_ret2
     exact ⟨rfl,by repeat (first | exact bA.refl _ | apply bA.step)⟩
    ·by_cases c3:(a0.size:Int) < a1
     ·have c1':decide (a1 < 0) = false:=alB c1
      have c2':decide (a2 < 0) = false:=alB c2
      have c3':decide ((a0.size:Int) < a1) = true:=alz c3
      clear hs hc c1 c2 c3
      go_enter Tryz.func136,Tryz.ntmps136
      go_wp2
      go_ret2
      exact ⟨rfl,by repeat (first | exact bA.refl _ | apply bA.step)⟩
     ·have hw:wrap64 ((a0.size:Int) - a1) = (a0.size:Int) - a1:=by unfold wrap64;omega
      have c1':decide (a1 < 0) = false:=alB c1
      have c2':decide (a2 < 0) = false:=alB c2
      have c3':decide ((a0.size:Int) < a1) = false:=alB c3
      have c4':decide (wrap64 ((a0.size:Int) - a1) < a2) = true:=alz (by omega)
      clear hs hc c1 c2 c3 hw
      go_enter Tryz.func136,Tryz.ntmps136
      go_wp2
      go_ret2
      exact ⟨rfl,by repeat (first | exact bA.refl _ | apply bA.step)⟩
 ·rw [aly hs] at h
  exact absurd h (by simp)
def iB.f (a0:Int):Option (Bool):=if a0 ≥ 1 then (some (decide (a0 ≤ 4))) else (some false)
theorem iB.calls (a0:Int) (r:Bool) (w:World) (h:iB.f a0 = some r) :
  Calls Tryz.prog 137 #[.int .i64 a0] w fun e w'=>e = .returned (.bool r) ∧ bA w w':=by
 have H:(if a0 ≥ 1 then (some (decide (a0 ≤ 4))) else (some false)) = some r:=h
 clear h
 by_cases c2:a0 ≥ 1
 ·rw [alx c2] at H
  have yL:decide (1 ≤ a0) = true:=alz c2
  clear c2
  obtain rfl:=al0 H
  go_enter Tryz.func137,Tryz.ntmps137
  go_wp2
  go_ret
  exact ⟨by first | rfl | (simp;done) | (simp [*];done),by repeat (first | exact bA.refl _ | apply bA.step)⟩
 ·rw [aly c2] at H
  have yL:decide (1 ≤ a0) = false:=alB c2
  clear c2
  obtain rfl:=al0 H
  go_enter Tryz.func137,Tryz.ntmps137
  go_wp2
  go_ret
  exact ⟨by first | rfl | (simp;done) | (simp [*];done),by repeat (first | exact bA.refl _ | apply bA.step)⟩
mutual
def bC.j0 : Nat → Int → ByteArray → Bool → Option (Int × Bool)
 | 0,_,_,_=>none
 | k + 1,x2,x8,x25=>if x25 = true then (some (0,false)) else (bC.l0 k x8 0 x2 0)
def bC.l0 : Nat → ByteArray → Int → Int → Int → Option (Int × Bool)
 | 0,_,_,_,_=>none
 | k + 1,x8,x10,x26,x27=>if x27 < x26 then (if 0 ≤ x27 then (if x27 < (x8.size:Int) then (bC.l0 k x8 (Go.bits .or .i64 (wrap64 (x10 * 256)) (wrap64 (bt x8 x27))) x26 (wrap64 (x27 + 1))) else (none)) else (none)) else (some (x10,true))
end
def bC.f (k:Nat) (a0:ByteArray) (a1:Int) (a2:Int):Option (Int × Bool):=(fP.f a0 a1 a2).bind fun Az=>(if Az.2 = true then ((iB.f a2).bind fun AA=>(bC.j0 k a2 Az.1 (!AA))) else (bC.j0 k a2 Az.1 true))
theorem bC.AB : ∀ k,(∀ y0 y1 y2,oH (bC.j0 k y0 y1 y2) (bC.j0 (k + 1) y0 y1 y2)) ∧ (∀ y0 y1 y2 y3,oH (bC.l0 k y0 y1 y2 y3) (bC.l0 (k + 1) y0 y1 y2 y3))
 | 0=>⟨fun _ _ _ r h=>by simp [bC.j0] at h,fun _ _ _ _ r h=>by simp [bC.l0] at h⟩
 | k + 1=>by
  obtain ⟨ih0,ih1⟩:=bC.AB k
  refine ⟨?_,?_⟩
  ·intro y0 y1 y2
   unfold bC.j0
   repeat' first
   | (with_reducible exact oH.refl _)
   | exact ih0 _ _ _
   | exact ih1 _ _ _ _
   | exact oH.none _
   | refine oH.ite ?_ ?_
   | refine oH.bind ?_ (fun _=>?_)
  ·intro y0 y1 y2 y3
   unfold bC.l0
   repeat' first
   | (with_reducible exact oH.refl _)
   | exact ih0 _ _ _
   | exact ih1 _ _ _ _
   | exact oH.none _
   | refine oH.ite ?_ ?_
   | refine oH.bind ?_ (fun _=>?_)
theorem bC.mono : ∀ a0 a1 a2 k,oH (bC.f k a0 a1 a2) (bC.f (k + 1) a0 a1 a2):=by
 intro a0 a1 a2 k
 obtain ⟨ih0,ih1⟩:=bC.AB k
 unfold bC.f
 repeat' first
   | (with_reducible exact oH.refl _)
   | exact ih0 _ _ _
   | exact ih1 _ _ _ _
   | exact oH.none _
   | refine oH.ite ?_ ?_
   | refine oH.bind ?_ (fun _=>?_)
theorem bC.calls (k:Nat) (a0:ByteArray) (a1:Int) (a2:Int) (r1:Int) (r2:Bool) (w:World) (h:bC.f k a0 a1 a2 = some (r1,r2)) :
  Calls Tryz.prog 117 #[.string a0,.int .i64 a1,.int .i64 a2] w fun e w'=>e = .returned (.tuple #[.int .i64 r1,.bool r2]) ∧ bA w w':=by
 have H:((fP.f a0 a1 a2).bind fun Az=>(if Az.2 = true then ((iB.f a2).bind fun AA=>(bC.j0 k a2 Az.1 (!AA))) else (bC.j0 k a2 Az.1 true))) = some (r1,r2):=h
 clear h
 replace H:=zbm H
 obtain ⟨⟨t119,Y8⟩,GR,H⟩:=H
 replace H:(if Y8 = true then ((iB.f a2).bind fun AA=>(bC.j0 k a2 t119 (!AA))) else (bC.j0 k a2 t119 true)) = some (r1,r2):=H
 have A4:=aj.mk GR
 clear GR
 have Y9:=aj.mk H
 clear H
 go_enter Tryz.func117,Tryz.ntmps117
 go_upto_region 2 with (first | ((with_reducible refine aQ (f:=136) rfl ?_);refine bW (some 16) rfl rfl Tryz.func136 (by kernel_rfl) rfl #[.string a0,.int .i64 a1,.int .i64 a2] rfl (by (try simp only [alJ,alD,alE]) <;> rfl) ?_;(with_reducible refine (fP.calls a0 a1 a2 t119 Y8 _ A4.out).mono ?_);rintro e w' ⟨rfl,⟨nd,rfl⟩⟩;refine ⟨_,rfl,?_⟩))
 (try simp only [Act.put,ame,List.set_cons_zero,List.set_cons_succ])
 go_cut [25] (fun v25 wc=>∃ (kq:Nat) (KP:Bool),v25 = .bool KP ∧ aj (bC.j0 kq a2 t119 KP = some (r1,r2)) ∧ aj (kq ≤ k) ∧ bA w wc)
 case first =>
  have H:=Y9.out
  clear Y9
  by_cases c6:Y8 = true
  ·subst c6
   have H1:((iB.f a2).bind fun AA=>(bC.j0 k a2 t119 (!AA))) = some (r1,r2):=by rw [alx rfl] at H;exact H
   clear H
   have H:=H1
   clear H1
   replace H:=zbm H
   obtain ⟨AA,A70,H⟩:=H
   replace H:(bC.j0 k a2 t119 (!AA)) = some (r1,r2):=H
   have A7:=aj.mk A70
   clear A70
   have H':=aj.mk H
   clear H
   go_wp2_with (first | (go_at_call 137;(with_reducible refine (iB.calls a2 AA _ A7.out).mono ?_);rintro e w' ⟨rfl,⟨nd,rfl⟩⟩))
   go_meet
   case rel=>exact ⟨_,(!AA),(by first | rfl | (simp;done) | (simp [*];done) | (simp [B.aY];done) | (simp [B.aZ];done)),H',⟨by first | omega | exact alC _⟩,by repeat (first | exact bA.refl _ | apply bA.step)⟩
  ·replace c6:=amg.mpr c6
   subst c6
   have H1:(bC.j0 k a2 t119 true) = some (r1,r2):=by rw [aly (show ¬ (false = true) by decide)] at H;exact H
   clear H
   have H:=H1
   clear H1
   have H':=aj.mk H
   clear H
   go_wp2
   go_meet
   case rel=>exact ⟨_,(true),(by first | rfl | (simp;done) | (simp [*];done) | (simp [B.aY];done) | (simp [B.aZ];done)),H',⟨by first | omega | exact alC _⟩,by repeat (first | exact bA.refl _ | apply bA.step)⟩
 case rest =>
  clear Y9
  try clear c1
  try clear p2
  try clear c6
  obtain ⟨kq,KP,rfl,HA,HJ4,⟨mc4,rfl⟩⟩:=hcut
  cases kq with
  | zero=>exact absurd HA.out (by simp [bC.j0])
  | succ Za =>
   have H:=HA.out
   clear HA
   simp only [bC.j0] at H
   by_cases c8:KP = true
   ·subst c8
    have H1:(some (0,false)) = some (r1,r2):=by rw [alx rfl] at H;exact H
    clear H
    have H:=H1
    clear H1
    simp only [alI,alK] at H
    obtain ⟨rfl,rfl⟩:=H
    go_wp2
    go_ret2
    exact ⟨by first | rfl | (simp;done) | (simp [*];done),by repeat (first | exact bA.refl _ | apply bA.step)⟩
   ·replace c8:=amg.mpr c8
    subst c8
    have H1:(bC.l0 Za t119 0 a2 0) = some (r1,r2):=by rw [aly (show ¬ (false = true) by decide)] at H;exact H
    clear H
    have H:=H1
    clear H1
    have H':=aj.mk H
    clear H
    go_wp2
    go_loopg [10,27] Za (fun kq v10 v27 w'=>∃ (wh:Int) (oz:Int),v10 = .int .i64 wh ∧ v27 = .int .i64 oz ∧ aj (bC.l0 kq t119 wh a2 oz = some (r1,r2)) ∧ aj (kq ≤ Za) ∧ bA w w')
    case atStart=>exact ⟨(0),(0),(by first | rfl | (simp;done) | (simp [*];done) | (simp [B.aY];done) | (simp [B.aZ];done)),(by first | rfl | (simp;done) | (simp [*];done) | (simp [B.aY];done) | (simp [B.aZ];done)),H',⟨alC _⟩,by repeat (first | exact bA.refl _ | apply bA.step)⟩
    case round =>
     clear H'
     try clear c1
     try clear p2
     try clear c4
     try clear c6
     try clear c8
     try clear p2
     obtain ⟨wh,oz,rfl,rfl,HA,WB,⟨m2,rfl⟩⟩:=hrel
     cases gk with
     | zero=>exact absurd HA.out (by simp [bC.l0])
     | succ k2 =>
      have H:=HA.out
      clear HA
      simp only [bC.l0] at H
      by_cases c9:oz < a2
      ·rw [alx c9] at H
       have vW:decide (oz < a2) = true:=alz c9
       clear c9
       by_cases c10:0 ≤ oz
       ·rw [alx c10] at H
        have tY:decide (0 ≤ oz) = true:=alz c10
        clear c10
        by_cases c11:oz < (t119.size:Int)
        ·rw [alx c11] at H
         have Qs:decide (oz < (t119.size:Int)) = true:=alz c11
         clear c11
         have H':=aj.mk H
         clear H
         have p12:0 ≤ (oz:Int):=alQ (by first | (with_reducible assumption) | assumption)
         have q12:oz < (t119.size:Int):=alQ (by first | (with_reducible assumption) | assumption)
         have aiH:=pW t119 oz
         replace p12:=alH p12
         replace q12:=alH q12
         go_wp2
         go_roundg k2
         case measure=>have:=HJ4.out;have:=WB.out;omega
         case rel=>exact ⟨(Go.bits .or .i64 (wrap64 (wh * 256)) (wrap64 (bt t119 oz))),(wrap64 (oz + 1)),(by first | rfl | (simp;done) | (simp [*];done) | (simp [B.aY];done) | (simp [B.aZ];done)),(by first | rfl | (simp;done) | (simp [*];done) | (simp [B.aY];done) | (simp [B.aZ];done)),H',⟨by have:=HJ4.out;have:=WB.out;omega⟩,by repeat (first | exact bA.refl _ | apply bA.step)⟩
        ·rw [aly c11] at H
         exact absurd H (by simp)
       ·rw [aly c10] at H
        exact absurd H (by simp)
      ·rw [aly c9] at H
       have vW:decide (oz < a2) = false:=alB c9
       clear c9
       simp only [alI,alK] at H
       obtain ⟨rfl,rfl⟩:=H
       go_wp2
       go_ret2
       exact ⟨by first | rfl | (simp;done) | (simp [*];done),by repeat (first | exact bA.refl _ | apply bA.step)⟩
end
section
open Go.RowKit Go.Proofs.YtfokaoeinpnagaaGreatW.bI Go.Proofs.YtfokaoeinpnagaaGreatW.eF Go.Proofs.YtfokaoeinpnagaaGreatW.fK Go.Proofs.YtfokaoeinpnagaaGreat.B
def ac8 : Nat → Int → List Int
 | 0,_=>[]
 | s + 1,n=>n / 256 ^ s % 256 :: ac8 s n
def QC (n size:Int):Prop:=1 ≤ size ∧ size ≤ 4 ∧ 0 ≤ n ∧ n < 256 ^ size.toNat
instance (n size:Int):Decidable (QC n size):=by unfold QC;infer_instance
def aiI (n size:Int):ByteArray:=if QC n size then strOfNums (ac8 size.toNat n) else ⟨#[]⟩
def iP (s:ByteArray) (i n:Int):Prop:=0 ≤ i ∧ 0 ≤ n ∧ i + n ≤ (s.size:Int)
instance (s : ByteArray) (i n:Int):Decidable (iP s i n):=by unfold iP;infer_instance
def iU : Nat → ByteArray → Int → Int
 | 0,_,_=>0
 | k + 1,s,i=>iU k s i * 256 + bt s (i + k)
def lC (s:ByteArray) (i n:Int):Prop:=0 ≤ i ∧ 1 ≤ n ∧ n ≤ 4 ∧ i + n ≤ (s.size:Int)
instance (s : ByteArray) (i n:Int):Decidable (lC s i n):=by unfold lC;infer_instance
theorem wm (s:ByteArray) (i n:Int) (hs:s.size ≤ 9223372036854775807) :
  fP.f s i n = some (if iP s i n then (s.extract i.toNat (i + n).toNat,true) else (⟨#[]⟩,false)):=by
 unfold fP.f iP
 rw [alx (by omega)]
 split <;> rename_i h <;> simp [h]
theorem mG (x b:Int) (hx0:0 ≤ x) (hx:x < 16777216) (hb0:0 ≤ b) (hb:b ≤ 255):Go.bits .or .i64 (wrap64 (x * 256)) (wrap64 b) = x * 256 + b:=by
 rw [iC (by omega) (by omega),iC (by omega) (by omega)]
 refine Go.bits_join .i64 62 (by decide) ?_ 8 (x * 256) b (by omega) (by omega) (by omega) hb0 (by omega) (by omega)
 intro n h0 h1
 rw [IntKind.wrap_i64]
 omega
theorem get_eq (k:Nat) (hk:9 ≤ k) (s:ByteArray) (i n:Int) (hs:s.size ≤ 9223372036854775807) :
  bC.f k s i n = some (if lC s i n then (iU n.toNat s i,true) else (0,false)):=by
 refine xk (fun k=>bC.mono s i n k) hk ?_
 unfold bC.f
 rw [wm s i n hs]
 by_cases ht:iP s i n
 ·rw [alx ht]
  simp only [Option.bind_some,ama]
  obtain ⟨h0,h1,h2⟩:=ht
  by_cases hz:1 ≤ n ∧ n ≤ 4
  ·have hf:iB.f n = some true:=by unfold iB.f;rw [alx (by omega)];simp;omega
   rw [alx (show lC s i n from ⟨h0,hz.1,hz.2,h2⟩),hf]
   have hz':=size_ext h0 h1 h2
   have hb:∀ j,0 ≤ j → j < n → bt (s.extract i.toNat (i + n).toNat) j = bt s (i + j):=fun j a b=>Qh h0 a b h2
   have e0:=hb 0
   have e1:=hb 1
   have e2:=hb 2
   have e3:=hb 3
   have r0:=iA s (i + 0)
   have r1:=iA s (i + 1)
   have r2:=iA s (i + 2)
   have r3:=iA s (i + 3)
   generalize s.extract i.toNat (i + n).toNat = t at *
   clear hb
   obtain ⟨hz1,hz4⟩:=hz
   have hn:n = 1 ∨ n = 2 ∨ n = 3 ∨ n = 4:=by omega
   have y0:wrap64 (0 + 1) = 1:=iC (by omega) (by omega)
   have y1:wrap64 (1 + 1) = 2:=iC (by omega) (by omega)
   have y2:wrap64 (2 + 1) = 3:=iC (by omega) (by omega)
   have y3:wrap64 (3 + 1) = 4:=iC (by omega) (by omega)
   rcases hn with rfl | rfl | rfl | rfl
   ·have o0:=mG 0 (bt s (i + 0)) (by omega) (by omega) r0.1 r0.2
    simp only [bC.j0,bC.l0,Option.bind_some,am9,al4,alV,hz',e0 (by omega) (by omega),o0,y0]
    simp [iU]
   ·have o0:=mG 0 (bt s (i + 0)) (by omega) (by omega) r0.1 r0.2
    have o1:=mG (0 * 256 + bt s (i + 0)) (bt s (i + 1)) (by omega) (by omega) r1.1 r1.2
    simp only [bC.j0,bC.l0,Option.bind_some,am9,al4,alV,hz',e0 (by omega) (by omega),e1 (by omega) (by omega),o0,o1,y0,y1]
    simp [iU]
   ·have o0:=mG 0 (bt s (i + 0)) (by omega) (by omega) r0.1 r0.2
    have o1:=mG (0 * 256 + bt s (i + 0)) (bt s (i + 1)) (by omega) (by omega) r1.1 r1.2
    have o2:=mG ((0 * 256 + bt s (i + 0)) * 256 + bt s (i + 1)) (bt s (i + 2)) (by omega) (by omega) r2.1 r2.2
    simp only [bC.j0,bC.l0,Option.bind_some,am9,al4,alV,hz',e0 (by omega) (by omega),e1 (by omega) (by omega),e2 (by omega) (by omega),o0,o1,o2,y0,y1,y2]
    simp [iU]
   ·have o0:=mG 0 (bt s (i + 0)) (by omega) (by omega) r0.1 r0.2
    have o1:=mG (0 * 256 + bt s (i + 0)) (bt s (i + 1)) (by omega) (by omega) r1.1 r1.2
    have o2:=mG ((0 * 256 + bt s (i + 0)) * 256 + bt s (i + 1)) (bt s (i + 2)) (by omega) (by omega) r2.1 r2.2
    have o3:=mG (((0 * 256 + bt s (i + 0)) * 256 + bt s (i + 1)) * 256 + bt s (i + 2)) (bt s (i + 3)) (by omega) (by omega) r3.1 r3.2
    simp only [bC.j0,bC.l0,Option.bind_some,am9,al4,alV,hz',e0 (by omega) (by omega),e1 (by omega) (by omega),e2 (by omega) (by omega),e3 (by omega) (by omega),o0,o1,o2,o3,y0,y1,y2,y3]
    simp [iU]
  ·have hf:iB.f n = some false:=by
    unfold iB.f
    by_cases h2:1 ≤ n
    ·rw [alx (by omega)];simp;omega
    ·rw [aly (by omega)]
   rw [aly (show ¬ lC s i n from fun h=>hz ⟨h.2.1,h.2.2.1⟩),hf]
   simp [bC.j0]
 ·rw [aly ht,aly (show ¬ lC s i n from fun h=>ht ⟨h.1,by have:=h.2.1;omega,h.2.2.2⟩)]
  simp [bC.j0]
theorem GY (s:ByteArray) (i:Int):iU 1 s i = bt s i:=by simp [iU]
theorem Jl (k:Nat) (s t:ByteArray) (i j:Int) (h:∀ m:Nat,m < k → bt s (i + m) = bt t (j + m)):iU k s i = iU k t j:=by
 induction k with
 | zero=>rfl
 | succ k ih=>simp only [iU];rw [ih fun m hm=>h m (by omega),h k (by omega)]
theorem qD (k:Nat) (s:ByteArray) (i:Int):0 ≤ iU k s i ∧ iU k s i < 256 ^ k:=by
 induction k with
 | zero=>simp [iU]
 | succ k ih =>
  have:=iA s (i + k)
  simp only [iU]
  rw [Int.pow_succ]
  omega
end
section
open Go.RowKit Go.Proofs.YtfokaoeinpnagaaGreatW.bI Go.Proofs.YtfokaoeinpnagaaGreatW.eF Go.Proofs.YtfokaoeinpnagaaGreatW.fK
attribute [local go_sem] j4 j5 lS lT ji jk j6 kg
def bH.f (a0:ByteArray) (a1:Int) (a2:Int):Option (ByteArray × Bool):=if a1 < 0 then (some ((⟨#[]⟩:ByteArray),false)) else (if a2 < 0 then (some ((⟨#[]⟩:ByteArray),false)) else (if a1 > (a0.size:Int) then (some ((⟨#[]⟩:ByteArray),false)) else (if a2 > (wrap64 ((a0.size:Int) - a1)) then (some ((⟨#[]⟩:ByteArray),false)) else (if 0 ≤ a1 then (if a1 ≤ (wrap64 (a1 + a2)) then (if (wrap64 (a1 + a2)) ≤ (a0.size:Int) then (some (a0.extract (a1:Int).toNat ((wrap64 (a1 + a2)):Int).toNat,true)) else (none)) else (none)) else (none)))))
theorem bH.calls (a0:ByteArray) (a1:Int) (a2:Int) (r1:ByteArray) (r2:Bool) (w:World) (h:bH.f a0 a1 a2 = some (r1,r2)) :
  Calls Tryz.prog 139 #[.string a0,.int .i64 a1,.int .i64 a2] w fun e w'=>e = .returned (.tuple #[.string r1,.bool r2]) ∧ bA w w':=by
 have H:(if a1 < 0 then (some ((⟨#[]⟩:ByteArray),false)) else (if a2 < 0 then (some ((⟨#[]⟩:ByteArray),false)) else (if a1 > (a0.size:Int) then (some ((⟨#[]⟩:ByteArray),false)) else (if a2 > (wrap64 ((a0.size:Int) - a1)) then (some ((⟨#[]⟩:ByteArray),false)) else (if 0 ≤ a1 then (if a1 ≤ (wrap64 (a1 + a2)) then (if (wrap64 (a1 + a2)) ≤ (a0.size:Int) then (some (a0.extract (a1:Int).toNat ((wrap64 (a1 + a2)):Int).toNat,true)) else (none)) else (none)) else (none)))))) = some (r1,r2):=h
 clear h
 by_cases c4:a1 < 0
 ·rw [alx c4] at H
  have tH:decide (a1 < 0) = true:=alz c4
  clear c4
  simp only [alI,alK] at H
  obtain ⟨rfl,rfl⟩:=H
  go_enter Tryz.func139,Tryz.ntmps139
  go_wp2
  go_ret2
  exact ⟨by first | rfl | (simp;done) | (simp [*];done),by repeat (first | exact bA.refl _ | apply bA.step)⟩
 ·rw [aly c4] at H
  have tH:decide (a1 < 0) = false:=alB c4
  clear c4
  by_cases c5:a2 < 0
  ·rw [alx c5] at H
   have rO:decide (a2 < 0) = true:=alz c5
   clear c5
   simp only [alI,alK] at H
   obtain ⟨rfl,rfl⟩:=H
   go_enter Tryz.func139,Tryz.ntmps139
   go_wp2
   go_ret2
   exact ⟨by first | rfl | (simp;done) | (simp [*];done),by repeat (first | exact bA.refl _ | apply bA.step)⟩
  ·rw [aly c5] at H
   have rO:decide (a2 < 0) = false:=alB c5
   clear c5
   by_cases c6:a1 > (a0.size:Int)
   ·rw [alx c6] at H
    have BJ:decide ((a0.size:Int) < a1) = true:=alz c6
    clear c6
    simp only [alI,alK] at H
    obtain ⟨rfl,rfl⟩:=H
    go_enter Tryz.func139,Tryz.ntmps139
    go_wp2
    go_ret2
    exact ⟨by first | rfl | (simp;done) | (simp [*];done),by repeat (first | exact bA.refl _ | apply bA.step)⟩
   ·rw [aly c6] at H
    have BJ:decide ((a0.size:Int) < a1) = false:=alB c6
    clear c6
    by_cases c7:a2 > (wrap64 ((a0.size:Int) - a1))
    ·rw [alx c7] at H
     have wu:decide ((wrap64 ((a0.size:Int) - a1)) < a2) = true:=alz c7
     (try (have ME:decide ((((a0.size:Int) - a1)) < a2) = true:=by have h_:decide ((wrap64 ((a0.size:Int) - a1)) < a2) = true:=alz c7;rw [B.iC (by omega) (by omega)] at h_;exact h_))
     clear c7
     simp only [alI,alK] at H
     obtain ⟨rfl,rfl⟩:=H
     go_enter Tryz.func139,Tryz.ntmps139
     go_wp2
     go_ret2
     exact ⟨by first | rfl | (simp;done) | (simp [*];done),by repeat (first | exact bA.refl _ | apply bA.step)⟩
    ·rw [aly c7] at H
     have wu:decide ((wrap64 ((a0.size:Int) - a1)) < a2) = false:=alB c7
     (try (have ME:decide ((((a0.size:Int) - a1)) < a2) = false:=by have h_:decide ((wrap64 ((a0.size:Int) - a1)) < a2) = false:=alB c7;rw [B.iC (by omega) (by omega)] at h_;exact h_))
     clear c7
     by_cases c8:0 ≤ a1
     ·rw [alx c8] at H
      have uE:=alH c8
      have uF:decide (0 ≤ a1) = true:=alz c8
      clear c8
      by_cases c9:a1 ≤ (wrap64 (a1 + a2))
      ·rw [alx c9] at H
       have vW:=alH c9
       have GQ:decide (a1 ≤ (wrap64 (a1 + a2))) = true:=alz c9
       by_cases c10:(wrap64 (a1 + a2)) ≤ (a0.size:Int)
       ·rw [alx c10] at H
        have tY:=alH c10
        have CO:decide ((wrap64 (a1 + a2)) ≤ (a0.size:Int)) = true:=alz c10
        simp only [alI,alK] at H
        obtain ⟨rfl,rfl⟩:=H
        go_enter Tryz.func139,Tryz.ntmps139
        go_wp2
        go_ret2
        exact ⟨by first | rfl | (simp;done) | (simp [*];done),by repeat (first | exact bA.refl _ | apply bA.step)⟩
       ·rw [aly c10] at H
        exact absurd H (by simp)
      ·rw [aly c9] at H
       exact absurd H (by simp)
     ·rw [aly c8] at H
      exact absurd H (by simp)
mutual
def ay.j0 : Nat → Int → ByteArray → Bool → Option (Int × Bool)
 | 0,_,_,_=>none
 | k + 1,x2,x8,x28=>if x28 = true then (some (0,false)) else (ay.l0 k x2 x8 0 0)
def ay.l0 : Nat → Int → ByteArray → Int → Int → Option (Int × Bool)
 | 0,_,_,_,_=>none
 | k + 1,x2,x8,x10,x11=>if x11 < x2 then (if 0 ≤ x11 then (if x11 < (x8.size:Int) then (ay.l0 k x2 x8 (wrap64 ((wrap64 (256 * x10)) + (wrap64 (bt x8 x11)))) (wrap64 (x11 + 1))) else (none)) else (none)) else (some (x10,true))
end
def ay.f (k:Nat) (a0:ByteArray) (a1:Int) (a2:Int):Option (Int × Bool):=(bH.f a0 a1 a2).bind fun wz=>(if wz.2 = true then (if a2 < 1 then (ay.j0 k a2 wz.1 true) else (ay.j0 k a2 wz.1 (decide (a2 > 4)))) else (ay.j0 k a2 wz.1 true))
theorem ay.calls (k:Nat) (a0:ByteArray) (a1:Int) (a2:Int) (r1:Int) (r2:Bool) (w:World) (h:ay.f k a0 a1 a2 = some (r1,r2)) :
  Calls Tryz.prog 120 #[.string a0,.int .i64 a1,.int .i64 a2] w fun e w'=>e = .returned (.tuple #[.int .i64 r1,.bool r2]) ∧ bA w w':=by
 have H:((bH.f a0 a1 a2).bind fun wz=>(if wz.2 = true then (if a2 < 1 then (ay.j0 k a2 wz.1 true) else (ay.j0 k a2 wz.1 (decide (a2 > 4)))) else (ay.j0 k a2 wz.1 true))) = some (r1,r2):=h
 clear h
 replace H:=zbm H
 obtain ⟨⟨t141,Zb⟩,GR,H⟩:=H
 replace H:(if Zb = true then (if a2 < 1 then (ay.j0 k a2 t141 true) else (ay.j0 k a2 t141 (decide (a2 > 4)))) else (ay.j0 k a2 t141 true)) = some (r1,r2):=H
 have A4:=aj.mk GR
 clear GR
 have Y9:=aj.mk H
 clear H
 go_enter Tryz.func120,Tryz.ntmps120
 go_upto_region 2 with (first | ((with_reducible refine aQ (f:=139) rfl ?_);refine bW (some 16) rfl rfl Tryz.func139 (by kernel_rfl) rfl #[.string a0,.int .i64 a1,.int .i64 a2] rfl (by (try simp only [alJ,alD,alE]) <;> rfl) ?_;(with_reducible refine (bH.calls a0 a1 a2 t141 Zb _ A4.out).mono ?_);rintro e w' ⟨rfl,⟨nd,rfl⟩⟩;refine ⟨_,rfl,?_⟩))
 (try simp only [Act.put,ame,List.set_cons_zero,List.set_cons_succ])
 go_cut [28] (fun v28 wc=>∃ (kq:Nat) (KQ:Bool),v28 = .bool KQ ∧ aj (ay.j0 kq a2 t141 KQ = some (r1,r2)) ∧ aj (kq ≤ k) ∧ bA w wc)
 case first =>
  have H:=Y9.out
  clear Y9
  by_cases c6:Zb = true
  ·subst c6
   have H1:(if a2 < 1 then (ay.j0 k a2 t141 true) else (ay.j0 k a2 t141 (decide (a2 > 4)))) = some (r1,r2):=by rw [alx rfl] at H;exact H
   clear H
   have H:=H1
   clear H1
   by_cases c7:a2 < 1
   ·rw [alx c7] at H
    have wu:decide (a2 < 1) = true:=alz c7
    clear c7
    (first | rw [wu] | rw [Uj] | (simp only [iN,iZ];rw [wu]) | skip)
    have H':=aj.mk H
    clear H
    go_wp2
    go_meet
    case rel=>exact ⟨_,(true),(by first | rfl | (simp;done) | (simp [*];done) | (simp [B.aY];done) | (simp [B.aZ];done)),H',⟨by first | omega | exact alC _⟩,by repeat (first | exact bA.refl _ | apply bA.step)⟩
   ·rw [aly c7] at H
    have wu:decide (a2 < 1) = false:=alB c7
    clear c7
    (first | rw [wu] | rw [Uj] | (simp only [iN,iZ];rw [wu]) | skip)
    have H':=aj.mk H
    clear H
    go_wp2
    go_meet
    case rel=>exact ⟨_,(decide (a2 > 4)),(by first | rfl | (simp;done) | (simp [*];done) | (simp [B.aY];done) | (simp [B.aZ];done)),H',⟨by first | omega | exact alC _⟩,by repeat (first | exact bA.refl _ | apply bA.step)⟩
  ·replace c6:=amg.mpr c6
   subst c6
   have H1:(ay.j0 k a2 t141 true) = some (r1,r2):=by rw [aly (show ¬ (false = true) by decide)] at H;exact H
   clear H
   have H:=H1
   clear H1
   have H':=aj.mk H
   clear H
   go_wp2
   go_meet
   case rel=>exact ⟨_,(true),(by first | rfl | (simp;done) | (simp [*];done) | (simp [B.aY];done) | (simp [B.aZ];done)),H',⟨by first | omega | exact alC _⟩,by repeat (first | exact bA.refl _ | apply bA.step)⟩
 case rest =>
  clear Y9
  try clear c1
  try clear p2
  try clear c6
  try clear c7
  try clear wu
  try clear Uj
  obtain ⟨kq,KQ,rfl,HA,HJ4,⟨mc4,rfl⟩⟩:=hcut
  cases kq with
  | zero=>exact absurd HA.out (by simp [ay.j0])
  | succ Za =>
   have H:=HA.out
   clear HA
   simp only [ay.j0] at H
   by_cases c8:KQ = true
   ·subst c8
    have H1:(some (0,false)) = some (r1,r2):=by rw [alx rfl] at H;exact H
    clear H
    have H:=H1
    clear H1
    simp only [alI,alK] at H
    obtain ⟨rfl,rfl⟩:=H
    go_wp2
    go_ret2
    exact ⟨by first | rfl | (simp;done) | (simp [*];done),by repeat (first | exact bA.refl _ | apply bA.step)⟩
   ·replace c8:=amg.mpr c8
    subst c8
    have H1:(ay.l0 Za a2 t141 0 0) = some (r1,r2):=by rw [aly (show ¬ (false = true) by decide)] at H;exact H
    clear H
    have H:=H1
    clear H1
    have H':=aj.mk H
    clear H
    go_wp2
    go_loopg [10,11] Za (fun kq v10 v11 w'=>∃ (wh:Int) (oC:Int),v10 = .int .i64 wh ∧ v11 = .int .i64 oC ∧ aj (ay.l0 kq a2 t141 wh oC = some (r1,r2)) ∧ aj (kq ≤ Za) ∧ bA w w')
    case atStart=>exact ⟨(0),(0),(by first | rfl | (simp;done) | (simp [*];done) | (simp [B.aY];done) | (simp [B.aZ];done)),(by first | rfl | (simp;done) | (simp [*];done) | (simp [B.aY];done) | (simp [B.aZ];done)),H',⟨alC _⟩,by repeat (first | exact bA.refl _ | apply bA.step)⟩
    case round =>
     clear H'
     try clear c1
     try clear p2
     try clear c4
     try clear c6
     try clear c7
     try clear wu
     try clear Uj
     try clear c8
     try clear p2
     obtain ⟨wh,oC,rfl,rfl,HA,WB,⟨m2,rfl⟩⟩:=hrel
     cases gk with
     | zero=>exact absurd HA.out (by simp [ay.l0])
     | succ k2 =>
      have H:=HA.out
      clear HA
      simp only [ay.l0] at H
      by_cases c9:oC < a2
      ·rw [alx c9] at H
       have vW:decide (oC < a2) = true:=alz c9
       clear c9
       by_cases c10:0 ≤ oC
       ·rw [alx c10] at H
        have tY:decide (0 ≤ oC) = true:=alz c10
        clear c10
        by_cases c11:oC < (t141.size:Int)
        ·rw [alx c11] at H
         have Qs:decide (oC < (t141.size:Int)) = true:=alz c11
         clear c11
         have H':=aj.mk H
         clear H
         have p12:0 ≤ (oC:Int):=alQ (by first | (with_reducible assumption) | assumption)
         have q12:oC < (t141.size:Int):=alQ (by first | (with_reducible assumption) | assumption)
         have aiH:=pW t141 oC
         replace p12:=alH p12
         replace q12:=alH q12
         go_wp2
         go_roundg k2
         case measure=>have:=HJ4.out;have:=WB.out;omega
         case rel=>exact ⟨(wrap64 ((wrap64 (256 * wh)) + (wrap64 (bt t141 oC)))),(wrap64 (oC + 1)),(by first | rfl | (simp;done) | (simp [*];done) | (simp [B.aY];done) | (simp [B.aZ];done)),(by first | rfl | (simp;done) | (simp [*];done) | (simp [B.aY];done) | (simp [B.aZ];done)),H',⟨by have:=HJ4.out;have:=WB.out;omega⟩,by repeat (first | exact bA.refl _ | apply bA.step)⟩
        ·rw [aly c11] at H
         exact absurd H (by simp)
       ·rw [aly c10] at H
        exact absurd H (by simp)
      ·rw [aly c9] at H
       have vW:decide (oC < a2) = false:=alB c9
       clear c9
       simp only [alI,alK] at H
       obtain ⟨rfl,rfl⟩:=H
       go_wp2
       go_ret2
       exact ⟨by first | rfl | (simp;done) | (simp [*];done),by repeat (first | exact bA.refl _ | apply bA.step)⟩
end
section
open Go.RowKit Go.Proofs.YtfokaoeinpnagaaGreatW.bI Go.Proofs.YtfokaoeinpnagaaGreatW.eF Go.Proofs.YtfokaoeinpnagaaGreatW.fK Go.Proofs.YtfokaoeinpnagaaGreat.B
theorem rR (s:ByteArray) (i n:Int) (hs:s.size ≤ 1000000) :
  bH.f s i n = some (if iP s i n then (s.extract i.toNat (i + n).toNat,true) else (⟨#[]⟩,false)):=by
 have u:iP s i n = (0 ≤ i ∧ 0 ≤ n ∧ i + n ≤ (s.size:Int)):=rfl
 unfold bH.f
 by_cases h0:i < 0
 ·rw [alx h0,aly (by rw [u];omega)]
 ·by_cases h1:n < 0
  ·rw [aly h0,alx h1,aly (by rw [u];omega)]
  ·by_cases h2:i > (s.size:Int)
   ·rw [aly h0,aly h1,alx h2,aly (by rw [u];omega)]
   ·rw [aly h0,aly h1,aly h2]
    have e1:wrap64 ((s.size:Int) - i) = s.size - i:=iC (by omega) (by omega)
    rw [e1]
    by_cases h3:n > (s.size:Int) - i
    ·rw [alx h3,aly (by rw [u];omega)]
    ·have e2:wrap64 (i + n) = i + n:=iC (by omega) (by omega)
     rw [aly h3,e2,alx (by omega),alx (by omega),alx (by omega),alx (by rw [u];omega)]
theorem Jm (n:Nat) (hn:n ≤ 4) (t:ByteArray) (ht:t.size = n) (d:Nat):∀ k j,n - j = d → j ≤ n → d < k →
  ay.l0 k n t (iU j t 0) j = some (iU n t 0,true):=by
 induction d with
 | zero =>
  intro k j hd hj hk
  obtain rfl:j = n:=by omega
  obtain ⟨k,rfl⟩:∃ m,k = m + 1:=⟨k - 1,by omega⟩
  rw [ay.l0,aly (by omega)]
 | succ d ih =>
  intro k j hd hj hk
  obtain ⟨k,rfl⟩:∃ m,k = m + 1:=⟨k - 1,by omega⟩
  have hr:=qD j t 0
  have hp:(256:Int) ^ j ≤ 16777216:=by
   have:j = 0 ∨ j = 1 ∨ j = 2 ∨ j = 3:=by omega
   rcases this with rfl | rfl | rfl | rfl <;> simp
  have hb:=iA t j
  rw [ay.l0,alx (by omega),alx (by omega),alx (by omega),iC (n:=bt t j) (by omega) (by omega),iC (n:=256 * iU j t 0) (by omega) (by omega),iC (n:=256 * iU j t 0 + bt t j) (by omega) (by omega),iC (n:=(j:Int) + 1) (by omega) (by omega)]
  have e:256 * iU j t 0 + bt t j = iU (j + 1) t 0:=by
   simp only [iU]
   rw [show (0:Int) + (j:Int) = j from by omega]
   omega
  rw [e,show ((j:Int) + 1) = ((j + 1:Nat):Int) from by omega]
  exact ih k (j + 1) (by omega) (by omega) (by omega)
theorem uG (k:Nat) (hk:9 ≤ k) (s:ByteArray) (i n:Int) (hs:s.size ≤ 1000000) :
  ay.f k s i n = some (if lC s i n then (iU n.toNat s i,true) else (0,false)):=by
 obtain ⟨k,rfl⟩:∃ m,k = m + 1:=⟨k - 1,by omega⟩
 unfold ay.f
 rw [rR s i n hs]
 simp only [Option.bind_some]
 by_cases ht:iP s i n
 ·simp only [alx ht,ama]
  obtain ⟨h0,h1,h2⟩:=ht
  by_cases c1:n < 1
  ·rw [alx c1,ay.j0,alx rfl,aly (fun h=>by have:=h.2.1;omega)]
  ·rw [aly c1]
   by_cases c2:n > 4
   ·rw [alz c2,ay.j0,alx rfl,aly (fun h=>by have:=h.2.2.1;omega)]
   ·rw [alB c2,ay.j0,aly amT,alx ⟨h0,by omega,by omega,h2⟩]
    have hz:=size_ext h0 h1 h2
    have e:((n.toNat:Nat):Int) = n:=by omega
    have:=Jm n.toNat (by omega) (s.extract i.toNat (i + n).toNat) (by omega) n.toNat k 0 (by omega) (by omega) (by omega)
    rw [e] at this
    rw [show (0:Int) = ((0:Nat):Int) from rfl]
    refine Eq.trans this ?_
    congr 2
    refine Jl _ _ _ _ _ fun m hm=>?_
    rw [show (0:Int) + (m:Int) = m from by omega,Qh h0 (by omega) (by omega) h2]
 ·simp only [aly ht,al4,alV]
  rw [ay.j0,alx rfl,aly (fun h=>ht ⟨h.1,by have:=h.2.1;omega,h.2.2.2⟩)]
end
section
open Go.Shelf Go.RowKit
def xZ : Go.Shelf.Ren:=⟨fun | 156=>156 | 165=>160 | 166=>159 | 169=>157 | 240=>161 | 241=>162 | 276=>163 | 277=>164 | n=>n,fun | 0=>0 | 3=>3 | 4=>4 | 5=>5 | 9=>9 | 20=>20 | 31=>40 | 37=>189 | 70=>224 | 72=>226 | 75=>234 | 76=>235 | 80=>219 | 127=>238 | 164=>239 | n=>n,fun n=>n⟩
theorem KR : Lays.n156 Tryz.prog xZ where
 mixed:=by kernel_rfl
 f156:=by kernel_rfl
 f165:=by kernel_rfl
 f166:=by kernel_rfl
 f169:=by kernel_rfl
 f240:=by kernel_rfl
 f241:=by kernel_rfl
 f276:=by kernel_rfl
 f277:=by kernel_rfl
 t0:=Tryz.underlying0
 a0:=Tryz.isAgg0
 z0:=Tryz.sizeOf0
 v0:=Tryz.zeroValue0
 t3:=Tryz.underlying3
 a3:=Tryz.isAgg3
 z3:=Tryz.sizeOf3
 v3:=Tryz.zeroValue3
 t4:=Tryz.underlying4
 a4:=Tryz.isAgg4
 z4:=Tryz.sizeOf4
 v4:=Tryz.zeroValue4
 t9:=Tryz.underlying9
 a9:=Tryz.isAgg9
 z9:=Tryz.sizeOf9
 v9:=Tryz.zeroValue9
 t20:=Tryz.underlying20
 a20:=Tryz.isAgg20
 z20:=Tryz.sizeOf20
 v20:=Tryz.zeroValue20
 t31:=Tryz.underlying40
 a31:=Tryz.isAgg40
 z31:=Tryz.sizeOf40
 v31:=Tryz.zeroValue40
 t37:=Tryz.underlying189
 a37:=Tryz.isAgg189
 z37:=Tryz.sizeOf189
 v37:=Tryz.zeroValue189
 t70:=Tryz.underlying224
 a70:=Tryz.isAgg224
 z70:=Tryz.sizeOf224
 v70:=Tryz.zeroValue224
 t72:=Tryz.underlying226
 a72:=Tryz.isAgg226
 z72:=Tryz.sizeOf226
 v72:=Tryz.zeroValue226
 t75:=Tryz.underlying234
 a75:=Tryz.isAgg234
 z75:=Tryz.sizeOf234
 v75:=Tryz.zeroValue234
 t76:=Tryz.underlying235
 a76:=Tryz.isAgg235
 z76:=Tryz.sizeOf235
 v76:=Tryz.zeroValue235
 t127:=Tryz.underlying238
 a127:=Tryz.isAgg238
 z127:=Tryz.sizeOf238
 v127:=Tryz.zeroValue238
 t164:=Tryz.underlying239
 a164:=Tryz.isAgg239
 z164:=Tryz.sizeOf239
 v164:=Tryz.zeroValue239
theorem yc : Builder.Extra Tryz.prog xZ where
 sizeBuilder:=by kernel_rfl
 liesBuilder:=by kernel_rfl
 t5:=Tryz.underlying5
 a5:=Tryz.isAgg5
 z5:=Tryz.sizeOf5
 v5:=Tryz.zeroValue5
 infoByte:=by kernel_rfl
 cellsByte:=by kernel_rfl
 sizeByte:=by kernel_rfl
 neB5:=by decide
end
section
open Go.RowKit Go.Proofs.YtfokaoeinpnagaaGreatW.bI Go.Proofs.YtfokaoeinpnagaaGreatW.eF Go.Proofs.YtfokaoeinpnagaaGreatW.fK
attribute [local go_sem] j4 j5 lS lT ji jk j6 kg
theorem bB.told (T:TypeId) (B0 b o:Nat) (cs:Array Value) (p v:Value) (l:List UInt8) (w:World) (h:B.xw T 5 B0 b o cs p v (Lib.byteCells l) w) (h0:l ≠ []) :
  Calls Tryz.prog 157 #[.pointer (some ⟨b,o,none⟩)] w fun e w'=>e = .returned (.string ⟨l.toArray⟩) ∧ ∃ g,B0 ≤ g ∧ g ≠ b ∧ w' = w.drew.freeze ⟨g,0,none⟩ l.length:=by
 have hl0:l.length ≠ 0:=by simpa using h0
 have hown:=h.own
 rw [Lib.byteCells_length] at hown
 obtain ⟨g,cap,cur,rfl,hbg,hg,hnc,hcm,hcs,htake⟩:∃ g cap cur,v = .slice (some ⟨g,0,none⟩) l.length cap ∧ B0 ≤ g ∧ w.heap[g]? = some (.cells cur 5 (0,0)) ∧ l.length ≤ cap ∧ cap ≤ maxLen ∧ cur.size = cap * 1 ∧ cur.toList.take (l.length * 1) = Lib.byteCells l:=by
  rcases hown.2 with ⟨_,hz⟩ | ⟨g,cap,cur,hv,r⟩
  ·exact absurd hz hl0
  ·exact ⟨g,cap,cur,hv,r⟩
 have hgb:g ≠ b:=fun e=>h.ne (by rw [e];rfl)
 have c1:w.drew.cell? ⟨b,o + 1,none⟩ = some (.slice (some ⟨g,0,none⟩) l.length cap):=by
  have:w.drew.heap[b]? = some (.cells cs T (0,0)):=h.blk
  rw [Lib.cell_of_heap this];exact h.v_
 have hSD:(Builtin.unsafeSliceData_ #[189] 238 #[.slice (some ⟨g,0,none⟩) l.length cap]).run Tryz.prog w.drew = .ok (.pointer (some ⟨g,0,none⟩)) w.drew :=
  Lib.run_unsafeSliceData_row _ _ _ _ _ _ (by omega)
 have hUS:(Builtin.unsafeString_ #[238,3] 9 #[.pointer (some ⟨g,0,none⟩),.int .i64 l.length]).run Tryz.prog w.drew = .ok (.string ⟨l.toArray⟩) (w.drew.freeze ⟨g,0,none⟩ l.length):=by
  refine Lib.run_unsafeString_row w.drew 238 3 9 5 Tryz.underlying238 (by kernel_rfl) g cur.size (by have hg':w.drew.heap[g]? = some (.cells cur 5 (0,0)):=hg;simp [World.shape?,hg']) l h0 (by omega) (by unfold maxLen at hcm;omega) ?_
  intro j x hx
  have:=hown.cells (g:=g) rfl j (.int .u8 x.toNat) (by simp [Lib.byteCells,hx])
  exact this
 have aiJ:=aj.mk hbg
 have hgb':=aj.mk hgb
 clear hbg hgb h hown hg hnc hcm hcs htake hl0 h0
 go_enter Tryz.func157,Tryz.ntmps157
 go_wp2
 go_region
 all_goals (go_wp2;go_ret;exact ⟨rfl,_,aiJ.out,hgb'.out,rfl⟩)
def bB.Kept (b:Nat) (w w':World):Prop:=∀ a:Addr,a.block = b → w'.cell? a = w.cell? a ∧ w'.frozen? a = w.frozen? a
theorem bB.Kept.of_block {b:Nat} {w w':World} (h:w'.heap[b]? = w.heap[b]?):bB.Kept b w w':=by
 rintro a rfl
 exact ⟨World.cell?_of_block h,World.frozen?_of_block h⟩
theorem bB.EB (W:World) (q:Option Addr):(Builtin.unsafeString_ #[238,3] 9 #[.pointer q,.int .i64 0]).run Tryz.prog W = .ok (.string .empty) W :=
 Lib.run_unsafeString_none W _ _ _ q
theorem bB.of_nil (B0 b o:Nat) (w:World) (c1:w.drew.cell? ⟨b,o + 1,none⟩ = some (.slice none 0 0)) :
  Calls Tryz.prog 157 #[.pointer (some ⟨b,o,none⟩)] w fun e w'=>e = .returned (.string ⟨#[]⟩) ∧ bB.Kept b w w' ∧ Below B0 w w':=by
 have hUS:=bB.EB
 have hSD:(Builtin.unsafeSliceData_ #[189] 238 #[.slice none 0 0]).run Tryz.prog w.drew = .ok (.pointer none) w.drew:=rfl
 go_enter Tryz.func157,Tryz.ntmps157
 go_wp2
 go_region
 all_goals (go_wp2;go_ret;exact ⟨rfl,bB.Kept.of_block rfl,Below.drew (Below.refl B0 w)⟩)
theorem bB.MF (B0 b o g:Nat) (cur:Array Value) (w:World) (hBw:B0 ≤ w.heap.size) (hlt:b < w.heap.size) (c0:w.cell? ⟨b,o + 1,none⟩ = some (.slice (some ⟨g,0,none⟩) 0 0)) (hg:w.heap[g]? = some (.cells cur 5 (0,0))) :
  Calls Tryz.prog 157 #[.pointer (some ⟨b,o,none⟩)] w fun e w'=>e = .returned (.string ⟨#[]⟩) ∧ bB.Kept b w w' ∧ Below B0 w w':=by
 have hUS:=bB.EB
 have hSD:(Builtin.unsafeSliceData_ #[189] 238 #[.slice (some ⟨g,0,none⟩) 0 0]).run Tryz.prog w.drew = .ok (.pointer (some ⟨w.drew.heap.size,0,none⟩)) (w.drew.alloc (.view ⟨g,0,none⟩ 5)) :=
  Lib.run_unsafeSliceData_zero w.drew _ _ 5 Tryz.underlying238 ⟨g,0,none⟩ 0 (5,cur.size) (by have hg':w.drew.heap[g]? = some (.cells cur 5 (0,0)):=hg;simp [World.shape?,hg'])
 have hold:(w.drew.alloc (.view ⟨g,0,none⟩ 5)).heap[b]? = w.heap[b]?:=(Lib.alloc_old w.drew _ b hlt)
 have c2:(w.drew.alloc (.view ⟨g,0,none⟩ 5)).cell? ⟨b,o + 1,none⟩ = some (.slice (some ⟨g,0,none⟩) 0 0):=by
  rw [World.cell?_of_block (w:=w) (a:=⟨b,o + 1,none⟩) hold];exact c0
 have c3:(w.alloc (.view ⟨g,0,none⟩ 5)).drew.cell? ⟨b,o + 1,none⟩ = some (.slice (some ⟨g,0,none⟩) 0 0):=c2
 have hold':=aj.mk hold
 have hBw':=aj.mk hBw
 clear hold hBw hlt
 go_enter Tryz.func157,Tryz.ntmps157
 go_wp2
 go_region
 all_goals (go_wp2;go_ret;exact ⟨rfl,bB.Kept.of_block hold'.out,(Below.drew (Below.refl B0 w)).alloc hBw'.out _⟩)
theorem bB.Uk (B0 b o g cap:Nat) (w:World) (hc0:cap ≠ 0) (c1:w.drew.cell? ⟨b,o + 1,none⟩ = some (.slice (some ⟨g,0,none⟩) 0 cap)) :
  Calls Tryz.prog 157 #[.pointer (some ⟨b,o,none⟩)] w fun e w'=>e = .returned (.string ⟨#[]⟩) ∧ bB.Kept b w w' ∧ Below B0 w w':=by
 have hUS:=bB.EB
 have hSD:(Builtin.unsafeSliceData_ #[189] 238 #[.slice (some ⟨g,0,none⟩) 0 cap]).run Tryz.prog w.drew = .ok (.pointer (some ⟨g,0,none⟩)) w.drew :=
  Lib.run_unsafeSliceData_row _ _ _ _ _ _ hc0
 clear hc0
 go_enter Tryz.func157,Tryz.ntmps157
 go_wp2
 go_region
 all_goals (go_wp2;go_ret;exact ⟨rfl,bB.Kept.of_block rfl,Below.drew (Below.refl B0 w)⟩)
theorem bB.any (T:TypeId) (B0 b o:Nat) (cs:Array Value) (p v:Value) (t:ByteArray) (w:World) (h:B.xw T 5 B0 b o cs p v (Lib.strCells t) w) (hBw:B0 ≤ w.heap.size) :
  Calls Tryz.prog 157 #[.pointer (some ⟨b,o,none⟩)] w fun e w'=>e = .returned (.string t) ∧ bB.Kept b w w' ∧ Below B0 w w':=by
 have c1:∀ W:World,W.heap = w.heap → W.cell? ⟨b,o + 1,none⟩ = some v:=by
  intro W hW
  have:W.heap[b]? = some (.cells cs T (0,0)):=by rw [hW];exact h.blk
  rw [Lib.cell_of_heap this];exact h.v_
 by_cases h0:t.data.toList = []
 ·have ht:t = ⟨#[]⟩:=amN (Array.toList_inj.mp h0)
  subst ht
  rcases h.own.2 with ⟨rfl,_⟩ | ⟨g,cap,cur,rfl,hbg,hg,_,_,_,_⟩
  ·exact bB.of_nil B0 b o w (c1 _ rfl)
  ·by_cases hc:cap = 0
   ·subst hc
    exact bB.MF B0 b o g cur w hBw h.lt (c1 _ rfl) hg
   ·exact bB.Uk B0 b o g cap w hc (c1 _ rfl)
 ·refine (bB.told T B0 b o cs p v t.data.toList w (by rw [← B.Aw];exact h) h0).mono ?_
  rintro e w' ⟨rfl,g,h1,h2,rfl⟩
  refine ⟨rfl,bB.Kept.of_block ?_,Lib.below_freeze (Below.drew (Below.refl B0 w)) (p:=⟨g,0,none⟩) h1 _⟩
  unfold World.freeze
  split
  ·rfl
  ·simp [Array.getElem?_modify,h2]
   rfl
theorem tK.any (T:TypeId) (B0 b o:Nat) (cs:Array Value) (p v:Value) (bs:List Value) (w:World) (h:B.xw T 5 B0 b o cs p v bs w) :
  Calls Tryz.prog 158 #[.pointer (some ⟨b,o,none⟩)] w fun e w'=>e = .returned (.int .i64 bs.length) ∧ w = w':=by
 obtain ⟨ao,cap,rfl⟩:∃ ao cap,v = .slice ao bs.length cap:=by
  rcases h.own.2 with ⟨hv,h0⟩ | ⟨g,cap,cur,hv,_⟩
  ·exact ⟨none,0,by rw [hv,h0]⟩
  ·exact ⟨_,_,hv⟩
 have c1:w.cell? ⟨b,o + 1,none⟩ = some (.slice ao bs.length cap):=by rw [Lib.cell_of_heap h.blk];exact h.v_
 clear h
 go_enter Tryz.func158,Tryz.ntmps158
 go_wp2
 go_ret
 exact ⟨rfl,rfl⟩
theorem dM.info : (Tryz.prog.info? 226).map (·.size) = some 2:=by kernel_rfl
theorem dM.used (b o:Nat) (w:World) (h0:w.cell? ⟨b,o,none⟩ = some (.pointer (some ⟨b,o,none⟩))) :
  Calls Tryz.prog 161 #[.pointer (some ⟨b,o,none⟩)] w fun e w'=>e = .returned (.tuple #[]) ∧ w' = w:=by
 obtain ⟨j,hj,_⟩:=ane.1 dM.info
 go_enter Tryz.func161,Tryz.ntmps161
 go_wp2
 rw [Lib.run_neq_ptr_same w _ Tryz.underlying224 hj]
 go_wp2
 go_end0
 exact ⟨rfl,rfl⟩
theorem dM.fresh (b o:Nat) (T:TypeId) (n:Nat) (w:World) (h0:w.cell? ⟨b,o,none⟩ = some (.pointer none)) (hsh:w.shape? b = some (T,n)) (hn:o < n)
  (hlies:liesAt Tryz.prog Tryz.prog.depth T (n / Tryz.prog.cellsOf T) o 226 1 = true) (hfz:w.frozen? ⟨b,o,none⟩ = false) :
  Calls Tryz.prog 161 #[.pointer (some ⟨b,o,none⟩)] w fun e w'=>e = .returned (.tuple #[]) ∧ w' = w.setCell ⟨b,o,none⟩ (.pointer (some ⟨b,o,none⟩)):=by
 obtain ⟨j,hj,hjs⟩:=ane.1 dM.info
 have aiK:j.size ≠ 0:=by rw [hjs];decide
 clear hjs
 have hn':=aj.mk hn
 clear hn
 go_enter Tryz.func161,Tryz.ntmps161
 go_wp2
 rw [Lib.run_to_unsafe w ⟨b,o,none⟩ Tryz.underlying224 Tryz.underlying239 hj aiK hsh hn'.out]
 simp only [Result.andThen]
 rw [Oper.upon_value]
 go_wp2
 rw [run_callFunc_extern Tryz.func163 (by kernel_rfl) (by kernel_rfl) (by kernel_rfl) (e:=Extern.AbiNoEscape.same) (by kernel_rfl)]
 rw [Lib.run_noEscape]
 simp only [Result.andThen]
 rw [Oper.upon_value]
 go_wp2
 rw [Lib.run_from_unsafe w ⟨b,o,none⟩ Tryz.underlying239 Tryz.underlying224 hj hsh hlies]
 simp only [Result.andThen]
 rw [Oper.upon_value]
 go_wp2
 go_end0
 exact ⟨rfl,rfl⟩
theorem dM.any (T:TypeId) (B0 b o:Nat) (cs:Array Value) (p v:Value) (bs:List Value) (w:World) (h:B.xw T 5 B0 b o cs p v bs w)
  (hlies:liesAt Tryz.prog Tryz.prog.depth T (cs.size / Tryz.prog.cellsOf T) o 226 1 = true) :
  Calls Tryz.prog 161 #[.pointer (some ⟨b,o,none⟩)] w fun e w'=>e = .returned (.tuple #[]) ∧
   B.xw T 5 B0 b o (cs.setIfInBounds o (.pointer (some ⟨b,o,none⟩))) (.pointer (some ⟨b,o,none⟩)) v bs w' ∧ Below B0 w w':=by
 have ho:o < cs.size:=by
  rcases amV o cs.size with h' | h'
  ·exact h'
  ·have:=h.p_;rw [amL h'] at this;cases this
 have hsh:w.shape? b = some (T,cs.size):=by simp [World.shape?,h.blk]
 have hc:w.cell? ⟨b,o,none⟩ = some p:=by rw [Lib.cell_of_heap h.blk];exact h.p_
 rcases h.self with rfl | rfl
 ·refine (dM.fresh b o T cs.size w hc hsh ho hlies (Lib.frozen_of_heap h.blk o)).mono ?_
  rintro e w' ⟨rfl,rfl⟩
  exact ⟨rfl,h.used,(Below.refl B0 w).setCell (p:=⟨b,o,none⟩) h.base _⟩
 ·refine (dM.used b o w hc).mono ?_
  rintro e w' ⟨rfl,rfl⟩
  exact ⟨rfl,by rw [h.Mx];exact h,Below.refl B0 _⟩
theorem iL.infoByte : (Tryz.prog.info? 5).map (fun i=>(i.zero,i.size,i.bytes)) = some (some (.int .u8 0),1,1):=by kernel_rfl
theorem iL.any (T:TypeId) (B0 b o:Nat) (cs:Array Value) (p v:Value) (t:ByteArray) (s:ByteArray) (w:World) (h:B.xw T 5 B0 b o cs p v (Lib.strCells t) w)
  (hlies:liesAt Tryz.prog Tryz.prog.depth T (cs.size / Tryz.prog.cellsOf T) o 226 1 = true) (hT:T ≠ 5) (hlen:t.size + s.size ≤ 140737488355328) (hBw:B0 ≤ w.heap.size) :
  Calls Tryz.prog 159 #[.pointer (some ⟨b,o,none⟩),.string s] w fun e w'=>e = .returned (.tuple #[.int .i64 s.size,.nilIface]) ∧
   (∃ v',B.xw T 5 B0 b o ((cs.setIfInBounds o (.pointer (some ⟨b,o,none⟩))).setIfInBounds (o + 1) v') (.pointer (some ⟨b,o,none⟩)) v' (Lib.strCells (t ++ s)) w') ∧ Below B0 w w':=by
 obtain ⟨i0,hi,hz0,hz1,hz2⟩:=info_parts iL.infoByte
 have hL:=Lib.strCells_length t
 have Zc:=aj.mk hlies
 clear hlies
 have hC:=aj.mk h
 clear h
 have hT':=aj.mk hT
 clear hT
 have hlen':=aj.mk hlen
 clear hlen
 go_enter Tryz.func159,Tryz.ntmps159
 go_wp2_with (go_at_call 161;refine (dM.any T B0 b o cs p v _ _ hC.out Zc.out).mono ?_)
 rintro e w1 ⟨rfl,h1,hb1⟩
 have c1:w1.cell? ⟨b,o + 1,none⟩ = some v:=by rw [Lib.cell_of_heap h1.blk];exact h1.v_
 have hown:=h1.own
 go_wp2_with (at_builtin;refine Lib.wpList_append_own_string _ rfl _ _ 189 9 rfl B0 5 i0 Tryz.underlying189 Tryz.underlying9 hi hz0 hz1 hz2 _ _ _ rfl hown s rfl ?c3 ?c4 ?c5 ?_)
 case c3=>rw [hL];unfold maxLen;have:=hlen'.out;omega
 case c4=>rw [hL];have:=hlen'.out;omega
 case c5=>have:=hb1.size;omega
 intro v' w2 hown' hgrow _
 have hlt:=h1.lt
 have hb2:w2.heap[b]? = some (.cells (cs.setIfInBounds o (.pointer (some ⟨b,o,none⟩))) T (0,0)):=by
  rw [hgrow.block b hlt (fun e=>h1.ne e.symm)]
  exact h1.blk
 have d1:w2.cell? ⟨b,o + 1,none⟩ = some v:=by rw [Lib.cell_of_heap hb2];exact h1.v_
 have f1:w2.frozen? ⟨b,o + 1,none⟩ = false:=Lib.frozen_of_heap hb2 (o + 1)
 obtain ⟨ao,n',cap,rfl⟩:∃ ao n' cap,v' = .slice ao n' cap:=by
  rcases hown'.2 with ⟨hv,_⟩ | ⟨g,cap,cur,hv,_⟩
  ·exact ⟨_,_,_,hv⟩
  ·exact ⟨_,_,_,hv⟩
 have hown2:w2.ownsRow B0 5 1 (.slice ao n' cap) (Lib.strCells (t ++ s)).length (Lib.strCells (t ++ s)):=by
  rw [← B.yN]
  simpa [Lib.strCells_length] using hown'
 have hput:=aj.mk (h1.put hb2 hown2 hT'.out)
 have hbel:=aj.mk ((hb1.grown hgrow (by have:=hb1.size;omega) (fun k hk=>(hown.lt k hk).1)).setCell (p:=⟨b,o + 1,none⟩) h1.base (.slice ao n' cap))
 clear hb2 hown2 hown' hgrow h1 hown hL hb1 c1
 go_wp2
 go_ret2
 exact ⟨rfl,⟨_,hput.out⟩,hbel.out⟩
def strings_Join.cat : List ByteArray → ByteArray
 | []=>⟨#[]⟩
 | x :: l=>x ++ strings_Join.cat l
theorem strings_Join.AJ : ∀ l:List ByteArray,(⟨(Lib.join (l.map (·.data.toList)) (⟨#[]⟩:ByteArray).data.toList).toArray⟩:ByteArray) = strings_Join.cat l
 | []=>rfl
 | [x]=>by
  rw [alD,alE,Lib.join_one]
  refine amN ?_
  simp [strings_Join.cat,anF]
 | x :: y :: l=>by
  have h:=strings_Join.AJ (y :: l)
  refine amN ?_
  rw [strings_Join.cat,anF,← h]
  simp [Lib.join,List.intercalate]
theorem strings_Join.calls (v:Value) (l:List ByteArray) (base:Nat) (ok:Nat → Prop) (w:World) (hr:Kd.R Kd.string 9 w base ok v l) (hl:l.length ≤ 1000000) (hz:(strings_Join.cat l).size ≤ 140737488355328) :
  Calls Tryz.prog 156 #[v,.string ⟨#[]⟩] w fun e w'=>e = .returned (.string (strings_Join.cat l)) ∧ Below w.heap.size w w':=by
 have ho:=Kd.vQ hr
 rcases ho.2 with ⟨rfl,h0⟩ | ⟨g,cap,cur,rfl,hg,hh,hc,_,_,ht⟩
 ·obtain rfl:=List.length_eq_zero_iff.mp h0
  exact (Any.strings_Join_none KR yc none 0 ⟨#[]⟩ w).mono fun e w' ⟨he,hw⟩=>⟨he,hw ▸ Below.refl _ _⟩
 ·have hlt:g < w.heap.size:=(amI.1 hh).1
  have hcells:∀ (j:Nat) x,l[j]? = some x → w.cell? ⟨g,0 + j,none⟩ = some (.string x):=by
   intro j x hx
   have hj:j < l.length:=(amm.1 hx).1
   have h:=(Kd.Qd ByteArray.empty hr (j:Int) (by omega) (by omega)).1
   rw [amc]
   rw [Int.toNat_natCast] at h
   rw [h]
   unfold rE
   rw [Int.toNat_natCast,al8,hx]
   rfl
  have hlen:(Lib.join (l.map (·.data.toList)) (⟨#[]⟩:ByteArray).data.toList).length ≤ 140737488355328:=by
   have h:=al2 ByteArray.size (strings_Join.AJ l)
   rw [← h] at hz
   simpa [ByteArray.size] using hz
  refine (Any.strings_Join KR yc g 0 cap l ⟨#[]⟩ w hcells hlt (by omega) hc hlen).mono fun e w' ⟨he,hw⟩=>⟨?_,hw⟩
  rw [he,strings_Join.AJ]
end
section
open Go.RowKit Go.Proofs.YtfokaoeinpnagaaGreatW.bI Go.Proofs.YtfokaoeinpnagaaGreatW.eF Go.Proofs.YtfokaoeinpnagaaGreatW.fK
attribute [local go_sem] j4 j5 lS lT ji jk j6 kg
def aC.cs (msg:ByteArray) (i l n:Int) (p v:Value):Array Value:=#[.string msg,.int .i64 i,.int .i64 l,.int .i64 n,p,v]
def aC.Rd (B0 g:Nat) (msg:ByteArray) (i l n:Int) (t:ByteArray) (w:World):Prop :=
 ∃ p v,B.xw 228 5 B0 g 4 (aC.cs msg i l n p v) p v (Lib.strCells t) w
theorem aC.Rd.cells {B0 g:Nat} {msg:ByteArray} {i l n:Int} {t:ByteArray} {w:World} (h:aC.Rd B0 g msg i l n t w) :
  w.cell? ⟨g,0,none⟩ = some (.string msg) ∧ w.cell? ⟨g,1,none⟩ = some (.int .i64 i) ∧ w.cell? ⟨g,2,none⟩ = some (.int .i64 l) ∧ w.cell? ⟨g,3,none⟩ = some (.int .i64 n) ∧
  w.frozen? ⟨g,1,none⟩ = false ∧ w.frozen? ⟨g,2,none⟩ = false ∧ w.frozen? ⟨g,3,none⟩ = false:=by
 obtain ⟨p,v,h⟩:=h
 exact ⟨by rw [Lib.cell_of_heap h.blk];rfl,by rw [Lib.cell_of_heap h.blk];rfl,by rw [Lib.cell_of_heap h.blk];rfl,by rw [Lib.cell_of_heap h.blk];rfl,Lib.frozen_of_heap h.blk 1,Lib.frozen_of_heap h.blk 2,Lib.frozen_of_heap h.blk 3⟩
theorem aC.Rd.base {B0 g:Nat} {msg:ByteArray} {i l n:Int} {t:ByteArray} {w:World} (h:aC.Rd B0 g msg i l n t w):B0 ≤ g ∧ g < w.heap.size:=by
 obtain ⟨p,v,h⟩:=h
 exact ⟨h.base,h.lt⟩
theorem aC.Rd.drewN {B0 g:Nat} {msg:ByteArray} {i l n:Int} {t:ByteArray} {w:World} (h:aC.Rd B0 g msg i l n t w) (m:Nat):aC.Rd B0 g msg i l n t (w.drewN m):=by
 obtain ⟨p,v,h⟩:=h
 exact ⟨p,v,h.drewN m⟩
theorem aC.Rd.set1 {B0 g:Nat} {msg:ByteArray} {i l n:Int} {t:ByteArray} {w:World} (h:aC.Rd B0 g msg i l n t w) (x:Int):aC.Rd B0 g msg x l n t (w.setCell ⟨g,1,none⟩ (.int .i64 x)):=by
 obtain ⟨p,v,h⟩:=h
 exact ⟨p,v,h.set 1 _ (by omega) (by omega)⟩
theorem aC.Rd.set2 {B0 g:Nat} {msg:ByteArray} {i l n:Int} {t:ByteArray} {w:World} (h:aC.Rd B0 g msg i l n t w) (x:Int):aC.Rd B0 g msg i x n t (w.setCell ⟨g,2,none⟩ (.int .i64 x)):=by
 obtain ⟨p,v,h⟩:=h
 exact ⟨p,v,h.set 2 _ (by omega) (by omega)⟩
theorem aC.Rd.ac9 {B0 g:Nat} {msg:ByteArray} {i l n:Int} {t:ByteArray} {w:World} (h:aC.Rd B0 g msg i l n t w) (x:Int):aC.Rd B0 g msg i l x t (w.setCell ⟨g,3,none⟩ (.int .i64 x)):=by
 obtain ⟨p,v,h⟩:=h
 exact ⟨p,v,h.set 3 _ (by omega) (by omega)⟩
theorem aC.cut (B0 g:Nat) (msg:ByteArray) (i l n:Int) (t:ByteArray) (w:World) (h:aC.Rd B0 g msg i l n t w) (hs:msg.size ≤ 140737488355328) (hg:¬ lC msg i 2) :
  Calls Tryz.prog 154 #[.pointer (some ⟨g,0,none⟩)] w fun e w'=>e = .returned (.int .i64 2) ∧ aC.Rd B0 g msg i l n t w' ∧ Below B0 w w':=by
 have hget:=get_eq 9 (alC _) msg i 2 (by omega)
 rw [aly hg] at hget
 have oP:=aj.mk hget
 obtain ⟨c0,c1,c2,c3,f1,f2,f3⟩:=h.cells
 have hR:=aj.mk h
 clear hget h hs hg
 go_enter Tryz.func154,Tryz.ntmps154
 go_wp2
 go_quiet ((go_at_call 117;exact Calls.quiet_of ((bC.calls 9 msg i 2 _ _ _ oP.out).mono fun _ _ h=>⟨h.1,h.2.out⟩)))
 go_wp2
 go_ret
 exact ⟨rfl,hR.out.drewN _,ah (Below.refl B0 w) _⟩
theorem aC.name (B0 g:Nat) (msg:ByteArray) (i l n:Int) (t:ByteArray) (w:World) (h:aC.Rd B0 g msg i l n t w) (hs:msg.size ≤ 140737488355328) (hg:lC msg i 2) (hl:l ≤ iU 2 msg i - 49152) :
  Calls Tryz.prog 154 #[.pointer (some ⟨g,0,none⟩)] w fun e w'=>e = .returned (.int .i64 3) ∧ aC.Rd B0 g msg i l n t w' ∧ Below B0 w w':=by
 have hget:=get_eq 9 (alC _) msg i 2 (by omega)
 rw [alx hg] at hget
 have hr:=qD 2 msg i
 have oP:=aj.mk (show bC.f 9 msg i 2 = some (iU 2 msg i,true) from hget)
 obtain ⟨c0,c1,c2,c3,f1,f2,f3⟩:=h.cells
 have hR:=aj.mk h
 generalize iU 2 msg i = q at oP hr hl
 have hb0:0 ≤ q:=hr.1
 have hb1:q ≤ 65535:=by have:=hr.2;simp at this;omega
 have d1:decide (l ≤ q - 49152) = true:=alz hl
 clear hget h hs hg hr hl
 go_enter Tryz.func154,Tryz.ntmps154
 go_wp2
 go_quiet ((go_at_call 117;exact Calls.quiet_of ((bC.calls 9 msg i 2 _ _ _ oP.out).mono fun _ _ h=>⟨h.1,h.2.out⟩)))
 go_wp2
 go_ret
 exact ⟨rfl,hR.out.drewN _,ah (Below.refl B0 w) _⟩
theorem aC.ok (B0 g:Nat) (msg:ByteArray) (i l n:Int) (t:ByteArray) (w:World) (h:aC.Rd B0 g msg i l n t w) (hs:msg.size ≤ 140737488355328) (hg:lC msg i 2) (hl:iU 2 msg i - 49152 < l) (n':Int) (hn0:aj (n' = if n = -1 then i + 2 else n)) :
  Calls Tryz.prog 154 #[.pointer (some ⟨g,0,none⟩)] w fun e w'=>e = .returned (.int .i64 0) ∧ aC.Rd B0 g msg (iU 2 msg i - 49152) (iU 2 msg i - 49152) n' t w' ∧ Below B0 w w':=by
 have hget:=get_eq 9 (alC _) msg i 2 (by omega)
 rw [alx hg] at hget
 have hr:=qD 2 msg i
 have oP:=aj.mk (show bC.f 9 msg i 2 = some (iU 2 msg i,true) from hget)
 obtain ⟨c0,c1,c2,c3,f1,f2,f3⟩:=h.cells
 have hR:=aj.mk h
 have hi0:=hg.1
 have hi1:i ≤ 140737488355328:=by have:=hg.2.2.2;omega
 have hB:=aj.mk h.base.1
 generalize iU 2 msg i = q at oP hr hl ⊢
 have hb0:0 ≤ q:=hr.1
 have hb1:q ≤ 65535:=by have:=hr.2;simp at this;omega
 have d1:decide (l ≤ q - 49152) = false:=alB (by omega)
 by_cases hn:n = -1
 ·subst hn
  have e':=hn0.out
  rw [alx rfl] at e'
  subst e'
  clear hn0
  have Nb:=aj.mk (((hR.out.ac9 (i + 2)).set1 (q - 49152)).set2 (q - 49152))
  have hBl:=aj.mk ((((Below.refl B0 w).setCell (p:=⟨g,3,none⟩) hB.out (.int .i64 (i + 2))).setCell (p:=⟨g,1,none⟩) hB.out (.int .i64 (q - 49152))).setCell (p:=⟨g,2,none⟩) hB.out (.int .i64 (q - 49152)))
  clear hget h hs hg hr hl hR
  go_enter Tryz.func154,Tryz.ntmps154
  go_wp2
  go_quiet ((go_at_call 117;exact Calls.quiet_of ((bC.calls 9 msg i 2 _ _ _ oP.out).mono fun _ _ h=>⟨h.1,h.2.out⟩)))
  go_wp2
  go_ret
  exact ⟨rfl,Nb.out.drewN _,ah hBl.out _⟩
 ·have e':=hn0.out
  have d2:(n == -1) = false:=by simpa using hn
  rw [aly hn] at e'
  subst e'
  clear hn0
  have Nb:=aj.mk ((hR.out.set1 (q - 49152)).set2 (q - 49152))
  have hBl:=aj.mk (((Below.refl B0 w).setCell (p:=⟨g,1,none⟩) hB.out (.int .i64 (q - 49152))).setCell (p:=⟨g,2,none⟩) hB.out (.int .i64 (q - 49152)))
  clear hget h hs hg hr hl hR hn
  go_enter Tryz.func154,Tryz.ntmps154
  go_wp2
  go_quiet ((go_at_call 117;exact Calls.quiet_of ((bC.calls 9 msg i 2 _ _ _ oP.out).mono fun _ _ h=>⟨h.1,h.2.out⟩)))
  go_wp2
  go_ret
  exact ⟨rfl,Nb.out.drewN _,ah hBl.out _⟩
theorem kV.str (B0 g:Nat) (msg:ByteArray) (i l n:Int) (t:ByteArray) (w:World) (h:aC.Rd B0 g msg i l n t w) (hw:B0 ≤ w.heap.size) :
  Calls Tryz.prog 157 #[.pointer (some ⟨g,4,none⟩)] w fun e w'=>e = .returned (.string t) ∧ (w'.cell? ⟨g,3,none⟩ = some (.int .i64 n)) ∧ Below B0 w w':=by
 have hc:=h.cells.2.2.2.1
 obtain ⟨p,v,h⟩:=h
 refine (bB.any _ B0 g 4 _ p v t w h hw).mono ?_
 rintro e w' ⟨rfl,hk,hb⟩
 exact ⟨rfl,by rw [(hk ⟨g,3,none⟩ rfl).1];exact hc,hb⟩
theorem kV.any (B0 g:Nat) (msg:ByteArray) (i l n:Int) (t:ByteArray) (w:World) (h:aC.Rd B0 g msg i l n t w) (hw:B0 ≤ w.heap.size) (ht:t.size ≤ 140737488355328) (hi:0 ≤ i) (hi2:i ≤ 140737488355328)
  (n':Int) (hn0:aj (n' = if n = -1 then i + 1 else n)) :
  Calls Tryz.prog 153 #[.pointer (some ⟨g,0,none⟩)] w fun e w'=>e = .returned (.tuple #[.string (t ++ (⟨#[0]⟩:ByteArray)),.int .i64 n',.int .i64 0]) ∧ Below B0 w w':=by
 obtain ⟨c0,c1,c2,c3,f1,f2,f3⟩:=h.cells
 have hR:=aj.mk h
 have hB:=aj.mk h.base.1
 have hw':=aj.mk hw
 have ht1:(t.size + 1 ≤ 9223372036854775807) = True:=alH (by omega)
 have ht2:(9223372036854775807 < t.size + 1) = False:=eq_false (by omega)
 have ht3:decide (t.size + 1 ≤ 9223372036854775807) = true:=alz (by omega)
 by_cases hn:n = -1
 ·subst hn
  have e':=hn0.out
  rw [alx rfl] at e'
  subst e'
  clear hn0
  have Nb:=aj.mk (hR.out.ac9 (i + 1))
  have hc3:=Nb.out.cells.2.2.2.1
  have hBl:=aj.mk ((Below.refl B0 w).setCell (p:=⟨g,3,none⟩) hB.out (.int .i64 (i + 1)))
  have hsz:=aj.mk (show B0 ≤ (w.setCell ⟨g,3,none⟩ (.int .i64 (i + 1))).heap.size by have:=hBl.out.size;omega)
  clear h hw hR ht hB hw'
  go_enter Tryz.func153,Tryz.ntmps153
  go_wp2
  generalize w.setCell ⟨g,3,none⟩ (.int .i64 (i + 1)) = w1 at *
  clear c0 c1 c2 c3 f1 f2 f3
  go_region_with (go_at_call 157;refine (kV.str B0 g msg i l (i + 1) t _ (by first | exact Nb.out | exact Nb.out.drewN 1 | exact Nb.out.drewN _) (by first | exact hsz.out | (simp;exact hsz.out))).mono ?_;rintro e w' ⟨rfl,hk3,hb⟩;have hb':=aj.mk hb;clear hb)
  all_goals
   go_wp2
   go_ret3
   exact ⟨rfl,by first | exact hBl.out.trans hb'.out | exact (jY hBl.out).trans hb'.out | exact jY (hBl.out.trans hb'.out) | exact hBl.out.trans (jY hb'.out)⟩
 ·have e':=hn0.out
  have d2:(n == -1) = false:=by simpa using hn
  rw [aly hn] at e'
  subst e'
  clear hn0
  clear h hw ht hB
  go_enter Tryz.func153,Tryz.ntmps153
  go_wp2
  clear c0 c1 c2 f1 f2 f3
  go_region_with (go_at_call 157;refine (kV.str B0 g msg i l n' t _ (by first | exact hR.out | exact hR.out.drewN 1 | exact hR.out.drewN _) (by first | exact hw'.out | (simp;exact hw'.out))).mono ?_;rintro e w' ⟨rfl,hk3,hb⟩;have hb':=aj.mk hb;clear hb)
  all_goals
   go_wp2
   go_ret3
   exact ⟨rfl,by first | exact hb'.out | exact (jY (Below.refl B0 w)).trans hb'.out | exact jY hb'.out⟩
theorem dQ.cut (B0 g:Nat) (msg:ByteArray) (i l n z:Int) (t:ByteArray) (w:World) (h:aC.Rd B0 g msg i l n t w) (hs:msg.size ≤ 140737488355328) (hz0:0 ≤ z) (hz1:z ≤ 255) (hg:¬ iP msg i (1 + z)) :
  Calls Tryz.prog 155 #[.pointer (some ⟨g,0,none⟩),.int .i64 z] w fun e w'=>e = .returned (.int .i64 2) ∧ aC.Rd B0 g msg i l n t w' ∧ Below B0 w w':=by
 have hget:=wm msg i (1 + z) (by omega)
 rw [aly hg] at hget
 have oP:=aj.mk hget
 obtain ⟨c0,c1,c2,c3,f1,f2,f3⟩:=h.cells
 have hR:=aj.mk h
 clear hget h hs hg
 go_enter Tryz.func155,Tryz.ntmps155
 go_wp2
 go_quiet ((go_at_call 136;exact Calls.quiet_of ((fP.calls msg i (1 + z) _ _ _ oP.out).mono fun _ _ h=>⟨h.1,h.2.out⟩)))
 go_wp2
 go_ret
 exact ⟨rfl,hR.out.drewN _,ah (Below.refl B0 w) _⟩
theorem dQ.len (B0 g:Nat) (msg:ByteArray) (i l n:Int) (t:ByteArray) (w:World) (h:aC.Rd B0 g msg i l n t w) :
  Calls Tryz.prog 158 #[.pointer (some ⟨g,4,none⟩)] w fun e w'=>e = .returned (.int .i64 t.size) ∧ w = w':=by
 obtain ⟨p,v,h⟩:=h
 have:=tK.any _ B0 g 4 _ p v _ w h
 rw [Lib.strCells_length] at this
 exact this
theorem dQ.lies : liesAt Tryz.prog Tryz.prog.depth 228 (6 / Tryz.prog.cellsOf 228) 4 226 1 = true:=by kernel_rfl
theorem dQ.write (B0 g:Nat) (msg:ByteArray) (i l n:Int) (t s:ByteArray) (w:World) (h:aC.Rd B0 g msg i l n t w) (hlen:t.size + s.size ≤ 140737488355328) (hBw:B0 ≤ w.heap.size) :
  Calls Tryz.prog 159 #[.pointer (some ⟨g,4,none⟩),.string s] w fun e w'=>e = .returned (.tuple #[.int .i64 s.size,.nilIface]) ∧ aC.Rd B0 g msg i l n (t ++ s) w' ∧ Below B0 w w':=by
 obtain ⟨p,v,h⟩:=h
 refine (iL.any _ B0 g 4 _ p v t s w h dQ.lies (by decide) hlen hBw).mono ?_
 rintro e w' ⟨rfl,⟨v',h'⟩,hb⟩
 exact ⟨rfl,⟨_,v',h'⟩,hb⟩
theorem dQ.name (B0 g:Nat) (msg:ByteArray) (i l n z:Int) (t:ByteArray) (w:World) (h:aC.Rd B0 g msg i l n t w) (hs:msg.size ≤ 140737488355328) (hz0:0 ≤ z) (hz1:z ≤ 255) (hg:iP msg i (1 + z)) (ht:t.size ≤ 140737488355328) (hl:255 ≤ (t.size:Int) + (1 + z)) :
  Calls Tryz.prog 155 #[.pointer (some ⟨g,0,none⟩),.int .i64 z] w fun e w'=>e = .returned (.int .i64 3) ∧ aC.Rd B0 g msg i l n t w' ∧ Below B0 w w':=by
 have hget:=wm msg i (1 + z) (by omega)
 rw [alx hg] at hget
 have hsz:=B.size_ext hg.1 hg.2.1 hg.2.2
 have oP:=aj.mk hget
 obtain ⟨c0,c1,c2,c3,f1,f2,f3⟩:=h.cells
 have hR:=aj.mk h
 generalize msg.extract i.toNat (i + (1 + z)).toNat = lb at *
 have hlb:lb.size ≤ 256:=by omega
 have d1:decide (255 ≤ (t.size:Int) + (lb.size:Int)) = true:=alz (by omega)
 have d2:decide (255 ≤ t.size + lb.size) = true:=alz (by omega)
 clear hget h hs hg hsz hl
 go_enter Tryz.func155,Tryz.ntmps155
 go_wp2
 go_quiet ((go_at_call 136;exact Calls.quiet_of ((fP.calls msg i (1 + z) _ _ _ oP.out).mono fun _ _ h=>⟨h.1,h.2.out⟩)))
 go_wp2_with (go_at_call 158;refine (dQ.len B0 g msg i l n t _ (hR.out.drewN _)).mono ?_;rintro e w' ⟨rfl,rfl⟩)
 go_ret
 exact ⟨rfl,hR.out.drewN _,ah (Below.refl B0 w) _⟩
theorem dQ.ok (B0 g:Nat) (msg:ByteArray) (i l n z:Int) (t:ByteArray) (w:World) (h:aC.Rd B0 g msg i l n t w) (hw:B0 ≤ w.heap.size) (hs:msg.size ≤ 140737488355328) (hz0:0 ≤ z) (hz1:z ≤ 255) (hg:iP msg i (1 + z)) (hl:(t.size:Int) + (1 + z) < 255) :
  Calls Tryz.prog 155 #[.pointer (some ⟨g,0,none⟩),.int .i64 z] w fun e w'=>e = .returned (.int .i64 0) ∧ aC.Rd B0 g msg (i + (1 + z)) l n (t ++ msg.extract i.toNat (i + (1 + z)).toNat) w' ∧ Below B0 w w':=by
 have hget:=wm msg i (1 + z) (by omega)
 rw [alx hg] at hget
 have hsz:=B.size_ext hg.1 hg.2.1 hg.2.2
 have oP:=aj.mk hget
 obtain ⟨c0,c1,c2,c3,f1,f2,f3⟩:=h.cells
 have hR:=aj.mk h
 have hi0:=hg.1
 have hi1:i ≤ 140737488355328:=by have:=hg.2.2;omega
 have hB:=aj.mk h.base.1
 generalize msg.extract i.toNat (i + (1 + z)).toNat = lb at *
 have hlb:lb.size ≤ 256:=by omega
 have htb:t.size ≤ 256:=by omega
 have d1:decide (255 ≤ (t.size:Int) + (lb.size:Int)) = false:=alB (by omega)
 have d2:decide (255 ≤ t.size + lb.size) = false:=alB (by omega)
 have hsum:=aj.mk (show i + (lb.size:Int) = i + (1 + z) by omega)
 have hw':=aj.mk hw
 clear hget h hs hg hsz hl hw
 go_enter Tryz.func155,Tryz.ntmps155
 go_wp2
 go_quiet ((go_at_call 136;exact Calls.quiet_of ((fP.calls msg i (1 + z) _ _ _ oP.out).mono fun _ _ h=>⟨h.1,h.2.out⟩)))
 go_wp2_with (first | (go_at_call 158;refine (dQ.len B0 g msg i l n t _ (hR.out.drewN _)).mono ?_;rintro e w' ⟨rfl,rfl⟩) | (go_at_call 159;refine (dQ.write B0 g msg i l n t lb _ (hR.out.drewN _) (by omega) (by simpa using hw'.out)).mono ?_))
 rintro e w1 ⟨rfl,Nb,hb1⟩
 obtain ⟨e0,e1,e2,e3,g1,g2,g3⟩:=Nb.cells
 have hR2:=aj.mk (Nb.set1 (i + (1 + z)))
 rw [← hsum.out] at hR2
 have hBl:=aj.mk ((ah (Below.refl B0 w) _).trans (hb1.setCell (p:=⟨g,1,none⟩) hB.out (.int .i64 (i + (lb.size:Int)))))
 clear Nb hb1 c0 c1 c2 c3 f1 f2 f3
 go_wp2
 go_ret
 exact ⟨rfl,by rw [← hsum.out];exact hR2.out,hBl.out⟩
def bL.l : Nat → ByteArray → Int → Int → Int → ByteArray → Option (ByteArray × Int × Int)
 | 0,_,_,_,_,_=>none
 | k + 1,msg,i,least,next,t =>
  if lC msg i 1 then
   (if bt msg i = 0 then some (t ++ (⟨#[0]⟩:ByteArray),(if next = -1 then i + 1 else next),0)
   else if 192 ≤ bt msg i then
    (if lC msg i 2 then
     (if iU 2 msg i - 49152 ≥ least then some (⟨#[]⟩,0,3)
     else bL.l k msg (iU 2 msg i - 49152) (iU 2 msg i - 49152) (if next = -1 then i + 2 else next) t)
    else some (⟨#[]⟩,0,2))
   else if 63 < bt msg i then some (⟨#[]⟩,0,3)
   else if iP msg i (1 + bt msg i) then
    (if (t.size:Int) + (1 + bt msg i) ≥ 255 then some (⟨#[]⟩,0,3)
    else bL.l k msg (i + (1 + bt msg i)) least next (t ++ msg.extract i.toNat (i + (1 + bt msg i)).toNat))
   else some (⟨#[]⟩,0,2))
  else some (⟨#[]⟩,0,2)
def bL.f (k:Nat) (a0:ByteArray) (a1:Int):Option (ByteArray × Int × Int):=if a0.size ≤ 140737488355328 then bL.l k a0 a1 a1 (-1) ⟨#[]⟩ else none
theorem bL.AB : ∀ k m i l n t,oH (bL.l k m i l n t) (bL.l (k + 1) m i l n t)
 | 0,_,_,_,_,_=>fun r h=>by simp [bL.l] at h
 | k + 1,m,i,l,n,t=>by
  have ih:=bL.AB k
  rw [bL.l,bL.l]
  repeat' first
   | (with_reducible exact ih _ _ _ _ _)
   | (with_reducible exact oH.refl _)
   | (with_reducible refine oH.ite ?_ ?_)
theorem bL.mono : ∀ a0 a1 k,oH (bL.f k a0 a1) (bL.f (k + 1) a0 a1):=by
 intro a0 a1 k
 unfold bL.f
 exact oH.ite (bL.AB k _ _ _ _ _) (oH.refl _)
theorem bL.aiL (msg:ByteArray) (i:Int) (hs:msg.size ≤ 140737488355328) (hg:lC msg i 1):bC.f 9 msg i 1 = some (bt msg i,true):=by
 have h:=get_eq 9 (alC _) msg i 1 (by omega)
 rw [alx hg] at h
 rw [h]
 congr 1
 exact al2 (·,true) (GY msg i)
theorem bL.start (w:World) (msg:ByteArray) (i:Int) :
  aC.Rd w.heap.size w.heap.size msg i i (-1) ⟨#[]⟩ (w.alloc (.cells #[.string msg,.int .i64 i,.int .i64 i,.int .i64 (-1),.pointer none,.slice none 0 0] 228)) :=
 ⟨.pointer none,.slice none 0 0,alC _,heap_alloc_new w _,rfl,rfl,.inl rfl,World.ownsRow_nil _ _ _ _,by simp [Value.ownBlock]⟩
def bL.St (R:ByteArray × Int × Int) (B0 g:Nat) (msg:ByteArray) (k:Nat) (x:Int) (w:World):Prop :=
 (x = 0 ∧ ∃ i l n t,aC.Rd B0 g msg i l n t w ∧ bL.l k msg i l n t = some R ∧ t.size ≤ 255) ∨ (x ≠ 0 ∧ R = (⟨#[]⟩,0,x))
theorem bL.calls (k:Nat) (a0:ByteArray) (a1:Int) (r1:ByteArray) (r2 r3:Int) (w:World) (h:bL.f k a0 a1 = some (r1,r2,r3)) :
  Calls Tryz.prog 146 #[.string a0,.int .i64 a1] w fun e w'=>e = .returned (.tuple #[.string r1,.int .i64 r2,.int .i64 r3]) ∧ Below w.heap.size w w':=by
 unfold bL.f at h
 by_cases hs:a0.size ≤ 140737488355328
 ·rw [alx hs] at h
  have hR:=aj.mk (bL.start w a0 a1)
  have hB:=aj.mk (ak (Below.refl w.heap.size w) (.cells #[.string a0,.int .i64 a1,.int .i64 a1,.int .i64 (-1),.pointer none,.slice none 0 0] 228))
  have hH:=aj.mk h
  have hsz:=aj.mk hs
  clear h hs
  go_enter Tryz.func146,Tryz.ntmps146
  go_wp2
  go_step3
  go_wp2
  go_step3
  go_wp2
  have hSt:=aj.mk (show bL.St (r1,r2,r3) w.heap.size w.heap.size a0 k 0 _ from .inl ⟨rfl,a1,a1, -1,⟨#[]⟩,hR.out,hH.out,by decide⟩)
  clear hR hH
  generalize w.alloc (.cells #[.string a0,.int .i64 a1,.int .i64 a1,.int .i64 (-1),.pointer none,.slice none 0 0] 228) = w1 at hSt hB ⊢
  generalize hgg:w.heap.size = g at hSt hB ⊢
  have hg':=aj.mk hgg
  clear hgg
  go_loopg [8] k (fun kq v8 wr=>∃ x:Int,v8 = .int .i64 x ∧ aj (bL.St (r1,r2,r3) g g a0 kq x wr) ∧ aj (kq ≤ k) ∧ aj (Below g w wr))
  case atStart=>exact ⟨0,rfl,hSt,⟨alC _⟩,hB⟩
  case round =>
   clear hSt hB
   obtain ⟨x,rfl,HS,HK,HB⟩:=hrel
   rcases HS.out with ⟨hx,i,l,n,t,hR0,hH0,ht0⟩ | ⟨hx,hR⟩
   ·subst hx
    clear HS
    cases gk with
    | zero=>exact absurd hH0 (by simp [bL.l])
    | succ k2 =>
     have hR:=aj.mk hR0
     have m0:=hR0.cells.1
     have m1:=hR0.cells.2.1
     have hsz':=hsz.out
     have hBs:=aj.mk (show g ≤ wr.heap.size by have:=hR0.base.2;omega)
     have ht:=aj.mk ht0
     rw [bL.l] at hH0
     clear hR0 ht0
     by_cases hg:lC a0 i 1
     ·rw [alx hg] at hH0
      have hget:=aj.mk (bL.aiL a0 i hsz' hg)
      have hi0:=hg.1
      have hi1:i ≤ 140737488355328:=by have:=hg.2.2.2;omega
      have hii:=aj.mk (And.intro hi0 hi1)
      have hbr:=iA a0 i
      clear hi0 hi1 hsz' hg
      by_cases c1:bt a0 i = 0
      ·rw [alx c1] at hH0
       rw [c1] at hget
       simp only [alI,alK] at hH0
       obtain ⟨rfl,h2,rfl⟩:=hH0
       have h2':=aj.mk h2.symm
       clear c1 hbr h2
       go_wp2
       go_quiet ((go_at_call 117;exact Calls.quiet_of ((bC.calls 9 a0 i 1 _ _ _ hget.out).mono fun _ _ h=>⟨h.1,h.2.out⟩)))
       go_wp2_with (go_at_call 153;refine (kV.any g g a0 i l n t _ (hR.out.drewN _) (by simpa using hBs.out) (by have:=ht.out;omega) hii.out.1 hii.out.2 r2 h2').mono ?_;rintro e w' ⟨rfl,hb⟩)
       (try rw [Exit.noGoto_ret])
       go_ret3
       exact ⟨rfl,by rw [hg'.out];exact (ah HB.out _).trans hb⟩
      ·rw [aly c1] at hH0
       have d1:(bt a0 i == 0) = false:=by simpa using c1
       by_cases c2:192 ≤ bt a0 i
       ·rw [alx c2] at hH0
        have d2:decide (192 ≤ bt a0 i) = true:=alz c2
        by_cases c3:lC a0 i 2
        ·rw [alx c3] at hH0
         by_cases c4:iU 2 a0 i - 49152 ≥ l
         ·rw [alx c4] at hH0
          simp only [alI,alK] at hH0
          obtain ⟨rfl,rfl,rfl⟩:=hH0
          have hF:=fun (W:World) (hW:aC.Rd g g a0 i l n t W)=>aC.name g g a0 i l n t W hW hsz.out c3 c4
          have hF':=aj.mk hF
          clear hF c1 c2 c3 c4 hbr
          generalize bt a0 i = c at *
          go_wp2
          go_quiet ((go_at_call 117;exact Calls.quiet_of ((bC.calls 9 a0 i 1 _ _ _ hget.out).mono fun _ _ h=>⟨h.1,h.2.out⟩)))
          go_wp2_with (go_at_call 154;refine (hF'.out _ (hR.out.drewN _)).mono ?_;rintro e w' ⟨rfl,hR',hb⟩)
          go_roundg k2
          case measure=>have:=HK.out;omega
          case rel=>exact ⟨3,rfl,⟨.inr ⟨by decide,rfl⟩⟩,⟨by have:=HK.out;omega⟩,⟨(ah HB.out _).trans hb⟩⟩
         ·rw [aly c4] at hH0
          have hF:=fun (W:World) (hW:aC.Rd g g a0 i l n t W)=>aC.ok g g a0 i l n t W hW hsz.out c3 (by omega) _ ⟨rfl⟩
          have hF':=aj.mk hF
          have hH1:=aj.mk hH0
          clear hF c1 c2 c3 c4 hbr hH0
          generalize bt a0 i = c at *
          go_wp2
          go_quiet ((go_at_call 117;exact Calls.quiet_of ((bC.calls 9 a0 i 1 _ _ _ hget.out).mono fun _ _ h=>⟨h.1,h.2.out⟩)))
          go_wp2_with (go_at_call 154;refine (hF'.out _ (hR.out.drewN _)).mono ?_;rintro e w' ⟨rfl,hR',hb⟩)
          go_roundg k2
          case measure=>have:=HK.out;omega
          case rel=>exact ⟨0,rfl,⟨.inl ⟨rfl,_,_,_,_,hR',hH1.out,ht.out⟩⟩,⟨by have:=HK.out;omega⟩,⟨(ah HB.out _).trans hb⟩⟩
        ·rw [aly c3] at hH0
         simp only [alI,alK] at hH0
         obtain ⟨rfl,rfl,rfl⟩:=hH0
         have hF:=fun (W:World) (hW:aC.Rd g g a0 i l n t W)=>aC.cut g g a0 i l n t W hW hsz.out c3
         have hF':=aj.mk hF
         clear hF c1 c2 c3 hbr
         generalize bt a0 i = c at *
         go_wp2
         go_quiet ((go_at_call 117;exact Calls.quiet_of ((bC.calls 9 a0 i 1 _ _ _ hget.out).mono fun _ _ h=>⟨h.1,h.2.out⟩)))
         go_wp2_with (go_at_call 154;refine (hF'.out _ (hR.out.drewN _)).mono ?_;rintro e w' ⟨rfl,hR',hb⟩)
         go_roundg k2
         case measure=>have:=HK.out;omega
         case rel=>exact ⟨2,rfl,⟨.inr ⟨by decide,rfl⟩⟩,⟨by have:=HK.out;omega⟩,⟨(ah HB.out _).trans hb⟩⟩
       ·rw [aly c2] at hH0
        have d2:decide (192 ≤ bt a0 i) = false:=alB c2
        by_cases c3:63 < bt a0 i
        ·rw [alx c3] at hH0
         have d3:decide (63 < bt a0 i) = true:=alz c3
         simp only [alI,alK] at hH0
         obtain ⟨rfl,rfl,rfl⟩:=hH0
         clear c1 c2 c3 hbr
         generalize bt a0 i = c at *
         go_wp2
         go_quiet ((go_at_call 117;exact Calls.quiet_of ((bC.calls 9 a0 i 1 _ _ _ hget.out).mono fun _ _ h=>⟨h.1,h.2.out⟩)))
         go_wp2
         go_roundg k2
         case measure=>have:=HK.out;omega
         case rel=>exact ⟨3,rfl,⟨.inr ⟨by decide,rfl⟩⟩,⟨by have:=HK.out;omega⟩,⟨ah HB.out _⟩⟩
        ·rw [aly c3] at hH0
         have d3:decide (63 < bt a0 i) = false:=alB c3
         by_cases c4:iP a0 i (1 + bt a0 i)
         ·rw [alx c4] at hH0
          by_cases c5:(t.size:Int) + (1 + bt a0 i) ≥ 255
          ·rw [alx c5] at hH0
           simp only [alI,alK] at hH0
           obtain ⟨rfl,rfl,rfl⟩:=hH0
           have hF:=fun (W:World) (hW:aC.Rd g g a0 i l n t W)=>dQ.name g g a0 i l n (bt a0 i) t W hW hsz.out hbr.1 hbr.2 c4 (by have:=ht.out;omega) c5
           have hF':=aj.mk hF
           clear hF c1 c2 c3 c4 c5 hbr
           generalize bt a0 i = c at *
           go_wp2
           go_quiet ((go_at_call 117;exact Calls.quiet_of ((bC.calls 9 a0 i 1 _ _ _ hget.out).mono fun _ _ h=>⟨h.1,h.2.out⟩)))
           go_wp2_with (go_at_call 155;refine (hF'.out _ (hR.out.drewN _)).mono ?_;rintro e w' ⟨rfl,hR',hb⟩)
           go_roundg k2
           case measure=>have:=HK.out;omega
           case rel=>exact ⟨3,rfl,⟨.inr ⟨by decide,rfl⟩⟩,⟨by have:=HK.out;omega⟩,⟨(ah HB.out _).trans hb⟩⟩
          ·rw [aly c5] at hH0
           have hF:=fun (W:World) (hw:g ≤ W.heap.size) (hW:aC.Rd g g a0 i l n t W)=>dQ.ok g g a0 i l n (bt a0 i) t W hW hw hsz.out hbr.1 hbr.2 c4 (by omega)
           have hF':=aj.mk hF
           have hH1:=aj.mk hH0
           have hz:=B.size_ext c4.1 c4.2.1 c4.2.2
           have ht2:=aj.mk (show (t ++ a0.extract i.toNat (i + (1 + bt a0 i)).toNat).size ≤ 255 by rw [alO];omega)
           clear hF c1 c2 c3 c4 c5 hbr hH0 hz
           generalize bt a0 i = c at *
           go_wp2
           go_quiet ((go_at_call 117;exact Calls.quiet_of ((bC.calls 9 a0 i 1 _ _ _ hget.out).mono fun _ _ h=>⟨h.1,h.2.out⟩)))
           go_wp2_with (go_at_call 155;refine (hF'.out _ (by simpa using hBs.out) (hR.out.drewN _)).mono ?_;rintro e w' ⟨rfl,hR',hb⟩)
           go_roundg k2
           case measure=>have:=HK.out;omega
           case rel=>exact ⟨0,rfl,⟨.inl ⟨rfl,_,_,_,_,hR',hH1.out,ht2.out⟩⟩,⟨by have:=HK.out;omega⟩,⟨(ah HB.out _).trans hb⟩⟩
         ·rw [aly c4] at hH0
          simp only [alI,alK] at hH0
          obtain ⟨rfl,rfl,rfl⟩:=hH0
          have hF:=fun (W:World) (hW:aC.Rd g g a0 i l n t W)=>dQ.cut g g a0 i l n (bt a0 i) t W hW hsz.out hbr.1 hbr.2 c4
          have hF':=aj.mk hF
          clear hF c1 c2 c3 c4 hbr
          generalize bt a0 i = c at *
          go_wp2
          go_quiet ((go_at_call 117;exact Calls.quiet_of ((bC.calls 9 a0 i 1 _ _ _ hget.out).mono fun _ _ h=>⟨h.1,h.2.out⟩)))
          go_wp2_with (go_at_call 155;refine (hF'.out _ (hR.out.drewN _)).mono ?_;rintro e w' ⟨rfl,hR',hb⟩)
          go_roundg k2
          case measure=>have:=HK.out;omega
          case rel=>exact ⟨2,rfl,⟨.inr ⟨by decide,rfl⟩⟩,⟨by have:=HK.out;omega⟩,⟨(ah HB.out _).trans hb⟩⟩
     ·rw [aly hg] at hH0
      have h:=get_eq 9 (alC _) a0 i 1 (by omega)
      rw [aly hg] at h
      have hget:=aj.mk h
      simp only [alI,alK] at hH0
      obtain ⟨rfl,rfl,rfl⟩:=hH0
      clear hg h hsz'
      go_wp2
      go_quiet ((go_at_call 117;exact Calls.quiet_of ((bC.calls 9 a0 i 1 _ _ _ hget.out).mono fun _ _ h=>⟨h.1,h.2.out⟩)))
      go_wp2
      (try rw [Exit.noGoto_ret])
      go_ret3
      exact ⟨rfl,by rw [hg'.out];exact ah HB.out _⟩
   ·simp only [alK] at hR
    obtain ⟨rfl,rfl,rfl⟩:=hR
    have d1:(r3 == 0) = false:=by simpa using hx
    clear HS hx
    go_wp2
    (try rw [Exit.noGoto_ret])
    go_ret3
    exact ⟨rfl,by rw [hg'.out];exact HB.out⟩
 ·rw [aly hs] at h
  exact absurd h (by simp)
end
section
open Go.RowKit Go.Proofs.YtfokaoeinpnagaaGreatW.bI Go.Proofs.YtfokaoeinpnagaaGreatW.eF Go.Proofs.YtfokaoeinpnagaaGreatW.fK
attribute [local go_sem] j4 j5 lS lT ji jk j6 kg
def aU.f (a0:Int):Option (ByteArray × Int × Int):=some ((⟨#[]⟩:ByteArray),0,a0)
theorem aU.calls (a0:Int) (r1:ByteArray) (r2:Int) (r3:Int) (w:World) (h:aU.f a0 = some (r1,r2,r3)) :
  Calls Tryz.prog 140 #[.int .i64 a0] w fun e w'=>e = .returned (.tuple #[.string r1,.int .i64 r2,.int .i64 r3]) ∧ bA w w':=by
 have H:(some ((⟨#[]⟩:ByteArray),0,a0)) = some (r1,r2,r3):=h
 clear h
 simp only [alI,alK] at H
 obtain ⟨rfl,rfl,rfl⟩:=H
 go_enter Tryz.func140,Tryz.ntmps140
 go_wp2
 go_ret3
 exact ⟨by first | rfl | (simp;done) | (simp [*];done),by repeat (first | exact bA.refl _ | apply bA.step)⟩
def aV.l0 : Nat → ByteArray → Int → ByteArray → Int → Int → Option (ByteArray × Int × Int)
 | 0,_,_,_,_,_=>none
 | k + 1,x0,x1,x7,x8,x9=>(ay.f k x0 x1 1).bind fun CQ=>(if CQ.2 = true then (if CQ.1 = 0 then (if x8 < 0 then (if x7.size + 1 ≤ 9223372036854775807 then (some (x7 ++ (⟨#[0]⟩:ByteArray),wrap64 (x1 + 1),0)) else (none)) else (if x7.size + 1 ≤ 9223372036854775807 then (some (x7 ++ (⟨#[0]⟩:ByteArray),x8,0)) else (none))) else (if CQ.1 ≥ 192 then ((ay.f k x0 x1 2).bind fun lD=>(if lD.2 = true then (if (wrap64 (lD.1 - 49152)) ≥ x9 then ((aU.f 3).bind fun lU=>(some (lU.1,lU.2.1,lU.2.2))) else (if x8 < 0 then (aV.l0 k x0 (wrap64 (lD.1 - 49152)) x7 (wrap64 (x1 + 2)) (wrap64 (lD.1 - 49152))) else (aV.l0 k x0 (wrap64 (lD.1 - 49152)) x7 x8 (wrap64 (lD.1 - 49152))))) else ((aU.f 2).bind fun lV=>(some (lV.1,lV.2.1,lV.2.2))))) else (if CQ.1 > 63 then ((aU.f 3).bind fun rT=>(some (rT.1,rT.2.1,rT.2.2))) else ((bH.f x0 x1 (wrap64 (CQ.1 + 1))).bind fun oQ=>(if oQ.2 = true then (if x7.size + oQ.1.size ≤ 9223372036854775807 then (if (wrap64 (((x7 ++ oQ.1).size:Int) + 1)) > 255 then ((aU.f 3).bind fun lW=>(some (lW.1,lW.2.1,lW.2.2))) else (aV.l0 k x0 (wrap64 ((wrap64 (x1 + CQ.1)) + 1)) (x7 ++ oQ.1) x8 x9)) else (none)) else ((aU.f 2).bind fun lX=>(some (lX.1,lX.2.1,lX.2.2)))))))) else ((aU.f 2).bind fun rU=>(some (rU.1,rU.2.1,rU.2.2))))
def aV.f (k:Nat) (a0:ByteArray) (a1:Int):Option (ByteArray × Int × Int):=aV.l0 k a0 a1 (⟨#[]⟩:ByteArray) (-1) a1
theorem aV.calls (k:Nat) (a0:ByteArray) (a1:Int) (r1:ByteArray) (r2:Int) (r3:Int) (w:World) (h:aV.f k a0 a1 = some (r1,r2,r3)) :
  Calls Tryz.prog 124 #[.string a0,.int .i64 a1] w fun e w'=>e = .returned (.tuple #[.string r1,.int .i64 r2,.int .i64 r3]) ∧ bA w w':=by
 have H:(aV.l0 k a0 a1 (⟨#[]⟩:ByteArray) (-1) a1) = some (r1,r2,r3):=h
 clear h
 have H':=aj.mk H
 clear H
 go_enter Tryz.func124,Tryz.ntmps124
 go_wp2
 go_loopg [1,7,8,9] k (fun kq v1 v7 v8 v9 w'=>∃ (eU:Int) (eB:ByteArray) (iH:Int) (jv:Int),v1 = .int .i64 eU ∧ v7 = .string eB ∧ v8 = .int .i64 iH ∧ v9 = .int .i64 jv ∧ aj (aV.l0 kq a0 eU eB iH jv = some (r1,r2,r3)) ∧ aj (kq ≤ k) ∧ bA w w')
 case atStart=>exact ⟨(a1),((⟨#[]⟩:ByteArray)),((-1)),(a1),(by first | rfl | (simp;done) | (simp [*];done) | (simp [B.aY];done) | (simp [B.aZ];done)),(by first | rfl | (simp;done) | (simp [*];done) | (simp [B.aY];done) | (simp [B.aZ];done)),(by first | rfl | (simp;done) | (simp [*];done) | (simp [B.aY];done) | (simp [B.aZ];done)),(by first | rfl | (simp;done) | (simp [*];done) | (simp [B.aY];done) | (simp [B.aZ];done)),H',⟨alC _⟩,by repeat (first | exact bA.refl _ | apply bA.step)⟩
 case round =>
  clear H'
  try clear c1
  try clear p2
  obtain ⟨eU,eB,iH,jv,rfl,rfl,rfl,rfl,HA,vV,⟨m1,rfl⟩⟩:=hrel
  cases gk with
  | zero=>exact absurd HA.out (by simp [aV.l0])
  | succ k1 =>
   have H:=HA.out
   clear HA
   simp only [aV.l0] at H
   replace H:=zbm H
   obtain ⟨⟨t143,ada⟩,QD,H⟩:=H
   replace H:(if ada = true then (if t143 = 0 then (if iH < 0 then (if eB.size + 1 ≤ 9223372036854775807 then (some (eB ++ (⟨#[0]⟩:ByteArray),wrap64 (eU + 1),0)) else (none)) else (if eB.size + 1 ≤ 9223372036854775807 then (some (eB ++ (⟨#[0]⟩:ByteArray),iH,0)) else (none))) else (if t143 ≥ 192 then ((ay.f k1 a0 eU 2).bind fun lD=>(if lD.2 = true then (if (wrap64 (lD.1 - 49152)) ≥ jv then ((aU.f 3).bind fun lU=>(some (lU.1,lU.2.1,lU.2.2))) else (if iH < 0 then (aV.l0 k1 a0 (wrap64 (lD.1 - 49152)) eB (wrap64 (eU + 2)) (wrap64 (lD.1 - 49152))) else (aV.l0 k1 a0 (wrap64 (lD.1 - 49152)) eB iH (wrap64 (lD.1 - 49152))))) else ((aU.f 2).bind fun lV=>(some (lV.1,lV.2.1,lV.2.2))))) else (if t143 > 63 then ((aU.f 3).bind fun rT=>(some (rT.1,rT.2.1,rT.2.2))) else ((bH.f a0 eU (wrap64 (t143 + 1))).bind fun oQ=>(if oQ.2 = true then (if eB.size + oQ.1.size ≤ 9223372036854775807 then (if (wrap64 (((eB ++ oQ.1).size:Int) + 1)) > 255 then ((aU.f 3).bind fun lW=>(some (lW.1,lW.2.1,lW.2.2))) else (aV.l0 k1 a0 (wrap64 ((wrap64 (eU + t143)) + 1)) (eB ++ oQ.1) iH jv)) else (none)) else ((aU.f 2).bind fun lX=>(some (lX.1,lX.2.1,lX.2.2)))))))) else ((aU.f 2).bind fun rU=>(some (rU.1,rU.2.1,rU.2.2)))) = some (r1,r2,r3):=H
   have A3:=aj.mk QD
   clear QD
   by_cases c4:ada = true
   ·subst c4
    have H1:(if t143 = 0 then (if iH < 0 then (if eB.size + 1 ≤ 9223372036854775807 then (some (eB ++ (⟨#[0]⟩:ByteArray),wrap64 (eU + 1),0)) else (none)) else (if eB.size + 1 ≤ 9223372036854775807 then (some (eB ++ (⟨#[0]⟩:ByteArray),iH,0)) else (none))) else (if t143 ≥ 192 then ((ay.f k1 a0 eU 2).bind fun lD=>(if lD.2 = true then (if (wrap64 (lD.1 - 49152)) ≥ jv then ((aU.f 3).bind fun lU=>(some (lU.1,lU.2.1,lU.2.2))) else (if iH < 0 then (aV.l0 k1 a0 (wrap64 (lD.1 - 49152)) eB (wrap64 (eU + 2)) (wrap64 (lD.1 - 49152))) else (aV.l0 k1 a0 (wrap64 (lD.1 - 49152)) eB iH (wrap64 (lD.1 - 49152))))) else ((aU.f 2).bind fun lV=>(some (lV.1,lV.2.1,lV.2.2))))) else (if t143 > 63 then ((aU.f 3).bind fun rT=>(some (rT.1,rT.2.1,rT.2.2))) else ((bH.f a0 eU (wrap64 (t143 + 1))).bind fun oQ=>(if oQ.2 = true then (if eB.size + oQ.1.size ≤ 9223372036854775807 then (if (wrap64 (((eB ++ oQ.1).size:Int) + 1)) > 255 then ((aU.f 3).bind fun lW=>(some (lW.1,lW.2.1,lW.2.2))) else (aV.l0 k1 a0 (wrap64 ((wrap64 (eU + t143)) + 1)) (eB ++ oQ.1) iH jv)) else (none)) else ((aU.f 2).bind fun lX=>(some (lX.1,lX.2.1,lX.2.2)))))))) = some (r1,r2,r3):=by rw [alx rfl] at H;exact H
    clear H
    have H:=H1
    clear H1
    by_cases c5:t143 = 0
    ·rw [alx c5] at H
     have rO:(t143 == 0) = true:=alW.mpr c5
     have xA:(t143 != 0) = false:=ami.mpr c5
     clear c5
     by_cases c6:iH < 0
     ·rw [alx c6] at H
      have BJ:decide (iH < 0) = true:=alz c6
      clear c6
      by_cases c7:eB.size + 1 ≤ 9223372036854775807
      ·rw [alx c7] at H
       have wu:=alH c7
       have ME:decide (eB.size + 1 ≤ 9223372036854775807) = true:=alz c7
       try have Uj:(9223372036854775807 < eB.size + 1) = False:=eq_false (amy.2 c7)
       simp only [alI,alK] at H
       obtain ⟨rfl,rfl,rfl⟩:=H
       go_wp2_with (first | ((with_reducible refine aQ (f:=120) rfl ?_);refine bW (some 20) rfl rfl Tryz.func120 (by kernel_rfl) rfl #[.string a0,.int .i64 eU,.int .i64 1] rfl (by (try simp only [alJ,alD,alE]) <;> rfl) ?_;(with_reducible refine (ay.calls k1 a0 eU 1 t143 true _ A3.out).mono ?_);rintro e w' ⟨rfl,⟨nd,rfl⟩⟩;refine ⟨_,rfl,?_⟩))
       go_ret3
       exact ⟨by first | rfl | (simp;done) | (simp [*];done),by repeat (first | exact bA.refl _ | apply bA.step)⟩
      ·rw [aly c7] at H
       exact absurd H (by simp)
     ·rw [aly c6] at H
      have BJ:decide (iH < 0) = false:=alB c6
      clear c6
      by_cases c8:eB.size + 1 ≤ 9223372036854775807
      ·rw [alx c8] at H
       have uE:=alH c8
       have uF:decide (eB.size + 1 ≤ 9223372036854775807) = true:=alz c8
       try have Qw:(9223372036854775807 < eB.size + 1) = False:=eq_false (amy.2 c8)
       simp only [alI,alK] at H
       obtain ⟨rfl,rfl,rfl⟩:=H
       go_wp2_with (first | ((with_reducible refine aQ (f:=120) rfl ?_);refine bW (some 20) rfl rfl Tryz.func120 (by kernel_rfl) rfl #[.string a0,.int .i64 eU,.int .i64 1] rfl (by (try simp only [alJ,alD,alE]) <;> rfl) ?_;(with_reducible refine (ay.calls k1 a0 eU 1 t143 true _ A3.out).mono ?_);rintro e w' ⟨rfl,⟨nd,rfl⟩⟩;refine ⟨_,rfl,?_⟩))
       go_ret3
       exact ⟨by first | rfl | (simp;done) | (simp [*];done),by repeat (first | exact bA.refl _ | apply bA.step)⟩
      ·rw [aly c8] at H
       exact absurd H (by simp)
    ·rw [aly c5] at H
     have rO:(t143 == 0) = false:=amd.mpr c5
     have xA:(t143 != 0) = true:=amf.mpr c5
     by_cases c9:t143 ≥ 192
     ·rw [alx c9] at H
      have vW:decide (192 ≤ t143) = true:=alz c9
      clear c9
      replace H:=zbm H
      obtain ⟨⟨t148,adb⟩,QE,H⟩:=H
      replace H:(if adb = true then (if (wrap64 (t148 - 49152)) ≥ jv then ((aU.f 3).bind fun lU=>(some (lU.1,lU.2.1,lU.2.2))) else (if iH < 0 then (aV.l0 k1 a0 (wrap64 (t148 - 49152)) eB (wrap64 (eU + 2)) (wrap64 (t148 - 49152))) else (aV.l0 k1 a0 (wrap64 (t148 - 49152)) eB iH (wrap64 (t148 - 49152))))) else ((aU.f 2).bind fun lV=>(some (lV.1,lV.2.1,lV.2.2)))) = some (r1,r2,r3):=H
      have WE:=aj.mk QE
      clear QE
      by_cases c11:adb = true
      ·subst c11
       have H1:(if (wrap64 (t148 - 49152)) ≥ jv then ((aU.f 3).bind fun lU=>(some (lU.1,lU.2.1,lU.2.2))) else (if iH < 0 then (aV.l0 k1 a0 (wrap64 (t148 - 49152)) eB (wrap64 (eU + 2)) (wrap64 (t148 - 49152))) else (aV.l0 k1 a0 (wrap64 (t148 - 49152)) eB iH (wrap64 (t148 - 49152))))) = some (r1,r2,r3):=by rw [alx rfl] at H;exact H
       clear H
       have H:=H1
       clear H1
       by_cases c12:(wrap64 (t148 - 49152)) ≥ jv
       ·rw [alx c12] at H
        have vX:decide (jv ≤ (wrap64 (t148 - 49152))) = true:=alz c12
        (try (have vY:decide (jv ≤ ((t148 - 49152))) = true:=by have h_:decide (jv ≤ (wrap64 (t148 - 49152))) = true:=alz c12;rw [B.iC (by omega) (by omega)] at h_;exact h_))
        clear c12
        replace H:=zbm H
        obtain ⟨⟨ade,t154,adf⟩,adg,H⟩:=H
        replace H:(some (ade,t154,adf)) = some (r1,r2,r3):=H
        have A13:=aj.mk adg
        clear adg
        simp only [alI,alK] at H
        obtain ⟨rfl,rfl,rfl⟩:=H
        go_wp2_with (first | ((with_reducible refine aQ (f:=120) rfl ?_);refine bW (some 20) rfl rfl Tryz.func120 (by kernel_rfl) rfl #[.string a0,.int .i64 eU,.int .i64 1] rfl (by (try simp only [alJ,alD,alE]) <;> rfl) ?_;(with_reducible refine (ay.calls k1 a0 eU 1 t143 true _ A3.out).mono ?_);rintro e w' ⟨rfl,⟨nd,rfl⟩⟩;refine ⟨_,rfl,?_⟩) | ((with_reducible refine aQ (f:=120) rfl ?_);refine bW (some 43) rfl rfl Tryz.func120 (by kernel_rfl) rfl #[.string a0,.int .i64 eU,.int .i64 2] rfl (by (try simp only [alJ,alD,alE]) <;> rfl) ?_;(with_reducible refine (ay.calls k1 a0 eU 2 t148 true _ WE.out).mono ?_);rintro e w' ⟨rfl,⟨nd,rfl⟩⟩;refine ⟨_,rfl,?_⟩) | ((with_reducible refine aQ (f:=140) rfl ?_);refine bW (some 56) rfl rfl Tryz.func140 (by kernel_rfl) rfl #[.int .i64 3] rfl (by (try simp only [alJ,alD,alE]) <;> rfl) ?_;(with_reducible refine (aU.calls 3 ade t154 adf _ A13.out).mono ?_);rintro e w' ⟨rfl,⟨nd,rfl⟩⟩;refine ⟨_,rfl,?_⟩))
        go_ret3
        exact ⟨by first | rfl | (simp;done) | (simp [*];done),by repeat (first | exact bA.refl _ | apply bA.step)⟩
       ·rw [aly c12] at H
        have vX:decide (jv ≤ (wrap64 (t148 - 49152))) = false:=alB c12
        (try (have vY:decide (jv ≤ ((t148 - 49152))) = false:=by have h_:decide (jv ≤ (wrap64 (t148 - 49152))) = false:=alB c12;rw [B.iC (by omega) (by omega)] at h_;exact h_))
        clear c12
        by_cases c14:iH < 0
        ·rw [alx c14] at H
         have CP:decide (iH < 0) = true:=alz c14
         clear c14
         have H':=aj.mk H
         clear H
         go_wp2_with (first | ((with_reducible refine aQ (f:=120) rfl ?_);refine bW (some 20) rfl rfl Tryz.func120 (by kernel_rfl) rfl #[.string a0,.int .i64 eU,.int .i64 1] rfl (by (try simp only [alJ,alD,alE]) <;> rfl) ?_;(with_reducible refine (ay.calls k1 a0 eU 1 t143 true _ A3.out).mono ?_);rintro e w' ⟨rfl,⟨nd,rfl⟩⟩;refine ⟨_,rfl,?_⟩) | ((with_reducible refine aQ (f:=120) rfl ?_);refine bW (some 43) rfl rfl Tryz.func120 (by kernel_rfl) rfl #[.string a0,.int .i64 eU,.int .i64 2] rfl (by (try simp only [alJ,alD,alE]) <;> rfl) ?_;(with_reducible refine (ay.calls k1 a0 eU 2 t148 true _ WE.out).mono ?_);rintro e w' ⟨rfl,⟨nd,rfl⟩⟩;refine ⟨_,rfl,?_⟩))
         go_roundg k1
         case measure=>have:=vV.out;omega
         case rel=>exact ⟨(wrap64 (t148 - 49152)),(eB),(wrap64 (eU + 2)),(wrap64 (t148 - 49152)),(by first | rfl | (simp;done) | (simp [*];done) | (simp [B.aY];done) | (simp [B.aZ];done)),(by first | rfl | (simp;done) | (simp [*];done) | (simp [B.aY];done) | (simp [B.aZ];done)),(by first | rfl | (simp;done) | (simp [*];done) | (simp [B.aY];done) | (simp [B.aZ];done)),(by first | rfl | (simp;done) | (simp [*];done) | (simp [B.aY];done) | (simp [B.aZ];done)),H',⟨by have:=vV.out;omega⟩,by repeat (first | exact bA.refl _ | apply bA.step)⟩
        ·rw [aly c14] at H
         have CP:decide (iH < 0) = false:=alB c14
         clear c14
         have H':=aj.mk H
         clear H
         go_wp2_with (first | ((with_reducible refine aQ (f:=120) rfl ?_);refine bW (some 20) rfl rfl Tryz.func120 (by kernel_rfl) rfl #[.string a0,.int .i64 eU,.int .i64 1] rfl (by (try simp only [alJ,alD,alE]) <;> rfl) ?_;(with_reducible refine (ay.calls k1 a0 eU 1 t143 true _ A3.out).mono ?_);rintro e w' ⟨rfl,⟨nd,rfl⟩⟩;refine ⟨_,rfl,?_⟩) | ((with_reducible refine aQ (f:=120) rfl ?_);refine bW (some 43) rfl rfl Tryz.func120 (by kernel_rfl) rfl #[.string a0,.int .i64 eU,.int .i64 2] rfl (by (try simp only [alJ,alD,alE]) <;> rfl) ?_;(with_reducible refine (ay.calls k1 a0 eU 2 t148 true _ WE.out).mono ?_);rintro e w' ⟨rfl,⟨nd,rfl⟩⟩;refine ⟨_,rfl,?_⟩))
         go_roundg k1
         case measure=>have:=vV.out;omega
         case rel=>exact ⟨(wrap64 (t148 - 49152)),(eB),(iH),(wrap64 (t148 - 49152)),(by first | rfl | (simp;done) | (simp [*];done) | (simp [B.aY];done) | (simp [B.aZ];done)),(by first | rfl | (simp;done) | (simp [*];done) | (simp [B.aY];done) | (simp [B.aZ];done)),(by first | rfl | (simp;done) | (simp [*];done) | (simp [B.aY];done) | (simp [B.aZ];done)),(by first | rfl | (simp;done) | (simp [*];done) | (simp [B.aY];done) | (simp [B.aZ];done)),H',⟨by have:=vV.out;omega⟩,by repeat (first | exact bA.refl _ | apply bA.step)⟩
      ·replace c11:=amg.mpr c11
       subst c11
       have H1:((aU.f 2).bind fun lV=>(some (lV.1,lV.2.1,lV.2.2))) = some (r1,r2,r3):=by rw [aly (show ¬ (false = true) by decide)] at H;exact H
       clear H
       have H:=H1
       clear H1
       replace H:=zbm H
       obtain ⟨⟨adh,adi,t152⟩,adj,H⟩:=H
       replace H:(some (adh,adi,t152)) = some (r1,r2,r3):=H
       have A15:=aj.mk adj
       clear adj
       simp only [alI,alK] at H
       obtain ⟨rfl,rfl,rfl⟩:=H
       go_wp2_with (first | ((with_reducible refine aQ (f:=120) rfl ?_);refine bW (some 20) rfl rfl Tryz.func120 (by kernel_rfl) rfl #[.string a0,.int .i64 eU,.int .i64 1] rfl (by (try simp only [alJ,alD,alE]) <;> rfl) ?_;(with_reducible refine (ay.calls k1 a0 eU 1 t143 true _ A3.out).mono ?_);rintro e w' ⟨rfl,⟨nd,rfl⟩⟩;refine ⟨_,rfl,?_⟩) | ((with_reducible refine aQ (f:=120) rfl ?_);refine bW (some 43) rfl rfl Tryz.func120 (by kernel_rfl) rfl #[.string a0,.int .i64 eU,.int .i64 2] rfl (by (try simp only [alJ,alD,alE]) <;> rfl) ?_;(with_reducible refine (ay.calls k1 a0 eU 2 t148 false _ WE.out).mono ?_);rintro e w' ⟨rfl,⟨nd,rfl⟩⟩;refine ⟨_,rfl,?_⟩) | ((with_reducible refine aQ (f:=140) rfl ?_);refine bW (some 48) rfl rfl Tryz.func140 (by kernel_rfl) rfl #[.int .i64 2] rfl (by (try simp only [alJ,alD,alE]) <;> rfl) ?_;(with_reducible refine (aU.calls 2 adh adi t152 _ A15.out).mono ?_);rintro e w' ⟨rfl,⟨nd,rfl⟩⟩;refine ⟨_,rfl,?_⟩))
       go_ret3
       exact ⟨by first | rfl | (simp;done) | (simp [*];done),by repeat (first | exact bA.refl _ | apply bA.step)⟩
     ·rw [aly c9] at H
      have vW:decide (192 ≤ t143) = false:=alB c9
      clear c9
      by_cases c16:t143 > 63
      ·rw [alx c16] at H
       have KM:decide (63 < t143) = true:=alz c16
       clear c16
       replace H:=zbm H
       obtain ⟨⟨t156,t157,adk⟩,adl,H⟩:=H
       replace H:(some (t156,t157,adk)) = some (r1,r2,r3):=H
       have A17:=aj.mk adl
       clear adl
       simp only [alI,alK] at H
       obtain ⟨rfl,rfl,rfl⟩:=H
       go_wp2_with (first | ((with_reducible refine aQ (f:=120) rfl ?_);refine bW (some 20) rfl rfl Tryz.func120 (by kernel_rfl) rfl #[.string a0,.int .i64 eU,.int .i64 1] rfl (by (try simp only [alJ,alD,alE]) <;> rfl) ?_;(with_reducible refine (ay.calls k1 a0 eU 1 t143 true _ A3.out).mono ?_);rintro e w' ⟨rfl,⟨nd,rfl⟩⟩;refine ⟨_,rfl,?_⟩) | ((with_reducible refine aQ (f:=140) rfl ?_);refine bW (some 69) rfl rfl Tryz.func140 (by kernel_rfl) rfl #[.int .i64 3] rfl (by (try simp only [alJ,alD,alE]) <;> rfl) ?_;(with_reducible refine (aU.calls 3 t156 t157 adk _ A17.out).mono ?_);rintro e w' ⟨rfl,⟨nd,rfl⟩⟩;refine ⟨_,rfl,?_⟩))
       go_ret3
       exact ⟨by first | rfl | (simp;done) | (simp [*];done),by repeat (first | exact bA.refl _ | apply bA.step)⟩
      ·rw [aly c16] at H
       have KM:decide (63 < t143) = false:=alB c16
       clear c16
       replace H:=zbm H
       obtain ⟨⟨t159,t160⟩,QF,H⟩:=H
       replace H:(if t160 = true then (if eB.size + t159.size ≤ 9223372036854775807 then (if (wrap64 (((eB ++ t159).size:Int) + 1)) > 255 then ((aU.f 3).bind fun lW=>(some (lW.1,lW.2.1,lW.2.2))) else (aV.l0 k1 a0 (wrap64 ((wrap64 (eU + t143)) + 1)) (eB ++ t159) iH jv)) else (none)) else ((aU.f 2).bind fun lX=>(some (lX.1,lX.2.1,lX.2.2)))) = some (r1,r2,r3):=H
       have Zd:=aj.mk QF
       clear QF
       by_cases c19:t160 = true
       ·subst c19
        have H1:(if eB.size + t159.size ≤ 9223372036854775807 then (if (wrap64 (((eB ++ t159).size:Int) + 1)) > 255 then ((aU.f 3).bind fun lW=>(some (lW.1,lW.2.1,lW.2.2))) else (aV.l0 k1 a0 (wrap64 ((wrap64 (eU + t143)) + 1)) (eB ++ t159) iH jv)) else (none)) = some (r1,r2,r3):=by rw [alx rfl] at H;exact H
        clear H
        have H:=H1
        clear H1
        by_cases c20:eB.size + t159.size ≤ 9223372036854775807
        ·rw [alx c20] at H
         have QG:=alH c20
         have adn:decide (eB.size + t159.size ≤ 9223372036854775807) = true:=alz c20
         try have aj8:(9223372036854775807 < eB.size + t159.size) = False:=eq_false (amy.2 c20)
         by_cases c21:(wrap64 (((eB ++ t159).size:Int) + 1)) > 255
         ·rw [alx c21] at H
          have WG:decide (255 < (wrap64 (((eB ++ t159).size:Int) + 1))) = true:=alz c21
          (try (have WH:decide (255 < (wrap64 (((eB.size:Int) + (t159.size:Int)) + 1))) = true:=by have h_:decide (255 < (wrap64 (((eB ++ t159).size:Int) + 1))) = true:=alz c21;rw [show ((eB ++ t159).size:Int) = ((eB.size:Int) + (t159.size:Int)) from by (simp only [alO,Int.natCast_add];first | done | rfl)] at h_;(first | exact h_ | (simp only [anf] at h_;exact h_))))
          (try (have ado:decide (255 < ((((eB ++ t159).size:Int) + 1))) = true:=by have h_:decide (255 < (wrap64 (((eB ++ t159).size:Int) + 1))) = true:=alz c21;rw [B.iC (by omega) (by omega)] at h_;exact h_))
          (try (have adp:decide (255 < ((((eB.size:Int) + (t159.size:Int)) + 1))) = true:=by have h_:decide (255 < (wrap64 (((eB.size:Int) + (t159.size:Int)) + 1))) = true:=by have h_:decide (255 < (wrap64 (((eB ++ t159).size:Int) + 1))) = true:=alz c21;rw [show ((eB ++ t159).size:Int) = ((eB.size:Int) + (t159.size:Int)) from by (simp only [alO,Int.natCast_add];first | done | rfl)] at h_;(first | exact h_ | (simp only [anf] at h_;exact h_));rw [B.iC (by omega) (by omega)] at h_;exact h_))
          clear c21
          replace H:=zbm H
          obtain ⟨⟨adq,t162,adr⟩,ads,H⟩:=H
          replace H:(some (adq,t162,adr)) = some (r1,r2,r3):=H
          have A22:=aj.mk ads
          clear ads
          simp only [alI,alK] at H
          obtain ⟨rfl,rfl,rfl⟩:=H
          go_wp2_with (first | ((with_reducible refine aQ (f:=120) rfl ?_);refine bW (some 20) rfl rfl Tryz.func120 (by kernel_rfl) rfl #[.string a0,.int .i64 eU,.int .i64 1] rfl (by (try simp only [alJ,alD,alE]) <;> rfl) ?_;(with_reducible refine (ay.calls k1 a0 eU 1 t143 true _ A3.out).mono ?_);rintro e w' ⟨rfl,⟨nd,rfl⟩⟩;refine ⟨_,rfl,?_⟩) | ((with_reducible refine aQ (f:=139) rfl ?_);refine bW (some 78) rfl rfl Tryz.func139 (by kernel_rfl) rfl #[.string a0,.int .i64 eU,.int .i64 (wrap64 (t143 + 1))] rfl (by (try simp only [alJ,alD,alE]);first | done | rfl | (simp only [al5,alP];rfl) | (simp only [alO,Int.natCast_add];rfl) | (rw [B.iC] <;> first | rfl | omega | (simp only [alS,alL,Int.not_lt,amy,gt_iff_lt] at * <;> omega))) ?_;(with_reducible refine (bH.calls a0 eU (wrap64 (t143 + 1)) t159 true _ Zd.out).mono ?_);rintro e w' ⟨rfl,⟨nd,rfl⟩⟩;refine ⟨_,rfl,?_⟩) | ((with_reducible refine aQ (f:=140) rfl ?_);refine bW (some 94) rfl rfl Tryz.func140 (by kernel_rfl) rfl #[.int .i64 3] rfl (by (try simp only [alJ,alD,alE]) <;> rfl) ?_;(with_reducible refine (aU.calls 3 adq t162 adr _ A22.out).mono ?_);rintro e w' ⟨rfl,⟨nd,rfl⟩⟩;refine ⟨_,rfl,?_⟩))
          go_ret3
          exact ⟨by first | rfl | (simp;done) | (simp [*];done),by repeat (first | exact bA.refl _ | apply bA.step)⟩
         ·rw [aly c21] at H
          have WG:decide (255 < (wrap64 (((eB ++ t159).size:Int) + 1))) = false:=alB c21
          (try (have WH:decide (255 < (wrap64 (((eB.size:Int) + (t159.size:Int)) + 1))) = false:=by have h_:decide (255 < (wrap64 (((eB ++ t159).size:Int) + 1))) = false:=alB c21;rw [show ((eB ++ t159).size:Int) = ((eB.size:Int) + (t159.size:Int)) from by (simp only [alO,Int.natCast_add];first | done | rfl)] at h_;(first | exact h_ | (simp only [anf] at h_;exact h_))))
          (try (have ado:decide (255 < ((((eB ++ t159).size:Int) + 1))) = false:=by have h_:decide (255 < (wrap64 (((eB ++ t159).size:Int) + 1))) = false:=alB c21;rw [B.iC (by omega) (by omega)] at h_;exact h_))
          (try (have adp:decide (255 < ((((eB.size:Int) + (t159.size:Int)) + 1))) = false:=by have h_:decide (255 < (wrap64 (((eB.size:Int) + (t159.size:Int)) + 1))) = false:=by have h_:decide (255 < (wrap64 (((eB ++ t159).size:Int) + 1))) = false:=alB c21;rw [show ((eB ++ t159).size:Int) = ((eB.size:Int) + (t159.size:Int)) from by (simp only [alO,Int.natCast_add];first | done | rfl)] at h_;(first | exact h_ | (simp only [anf] at h_;exact h_));rw [B.iC (by omega) (by omega)] at h_;exact h_))
          clear c21
          have H':=aj.mk H
          clear H
          go_wp2_with (first | ((with_reducible refine aQ (f:=120) rfl ?_);refine bW (some 20) rfl rfl Tryz.func120 (by kernel_rfl) rfl #[.string a0,.int .i64 eU,.int .i64 1] rfl (by (try simp only [alJ,alD,alE]) <;> rfl) ?_;(with_reducible refine (ay.calls k1 a0 eU 1 t143 true _ A3.out).mono ?_);rintro e w' ⟨rfl,⟨nd,rfl⟩⟩;refine ⟨_,rfl,?_⟩) | ((with_reducible refine aQ (f:=139) rfl ?_);refine bW (some 78) rfl rfl Tryz.func139 (by kernel_rfl) rfl #[.string a0,.int .i64 eU,.int .i64 (wrap64 (t143 + 1))] rfl (by (try simp only [alJ,alD,alE]);first | done | rfl | (simp only [al5,alP];rfl) | (simp only [alO,Int.natCast_add];rfl) | (rw [B.iC] <;> first | rfl | omega | (simp only [alS,alL,Int.not_lt,amy,gt_iff_lt] at * <;> omega))) ?_;(with_reducible refine (bH.calls a0 eU (wrap64 (t143 + 1)) t159 true _ Zd.out).mono ?_);rintro e w' ⟨rfl,⟨nd,rfl⟩⟩;refine ⟨_,rfl,?_⟩))
          go_roundg k1
          case measure=>have:=vV.out;omega
          case rel=>exact ⟨(wrap64 ((wrap64 (eU + t143)) + 1)),(eB ++ t159),(iH),(jv),(by first | rfl | (simp;done) | (simp [*];done) | (simp [B.aY];done) | (simp [B.aZ];done)),(by first | rfl | (simp;done) | (simp [*];done) | (simp [B.aY];done) | (simp [B.aZ];done)),(by first | rfl | (simp;done) | (simp [*];done) | (simp [B.aY];done) | (simp [B.aZ];done)),(by first | rfl | (simp;done) | (simp [*];done) | (simp [B.aY];done) | (simp [B.aZ];done)),H',⟨by have:=vV.out;omega⟩,by repeat (first | exact bA.refl _ | apply bA.step)⟩
        ·rw [aly c20] at H
         exact absurd H (by simp)
       ·replace c19:=amg.mpr c19
        subst c19
        have H1:((aU.f 2).bind fun lX=>(some (lX.1,lX.2.1,lX.2.2))) = some (r1,r2,r3):=by rw [aly (show ¬ (false = true) by decide)] at H;exact H
        clear H
        have H:=H1
        clear H1
        replace H:=zbm H
        obtain ⟨⟨t164,adt,adu⟩,adv,H⟩:=H
        replace H:(some (t164,adt,adu)) = some (r1,r2,r3):=H
        have A23:=aj.mk adv
        clear adv
        simp only [alI,alK] at H
        obtain ⟨rfl,rfl,rfl⟩:=H
        go_wp2_with (first | ((with_reducible refine aQ (f:=120) rfl ?_);refine bW (some 20) rfl rfl Tryz.func120 (by kernel_rfl) rfl #[.string a0,.int .i64 eU,.int .i64 1] rfl (by (try simp only [alJ,alD,alE]) <;> rfl) ?_;(with_reducible refine (ay.calls k1 a0 eU 1 t143 true _ A3.out).mono ?_);rintro e w' ⟨rfl,⟨nd,rfl⟩⟩;refine ⟨_,rfl,?_⟩) | ((with_reducible refine aQ (f:=139) rfl ?_);refine bW (some 78) rfl rfl Tryz.func139 (by kernel_rfl) rfl #[.string a0,.int .i64 eU,.int .i64 (wrap64 (t143 + 1))] rfl (by (try simp only [alJ,alD,alE]);first | done | rfl | (simp only [al5,alP];rfl) | (simp only [alO,Int.natCast_add];rfl) | (rw [B.iC] <;> first | rfl | omega | (simp only [alS,alL,Int.not_lt,amy,gt_iff_lt] at * <;> omega))) ?_;(with_reducible refine (bH.calls a0 eU (wrap64 (t143 + 1)) t159 false _ Zd.out).mono ?_);rintro e w' ⟨rfl,⟨nd,rfl⟩⟩;refine ⟨_,rfl,?_⟩) | ((with_reducible refine aQ (f:=140) rfl ?_);refine bW (some 83) rfl rfl Tryz.func140 (by kernel_rfl) rfl #[.int .i64 2] rfl (by (try simp only [alJ,alD,alE]) <;> rfl) ?_;(with_reducible refine (aU.calls 2 t164 adt adu _ A23.out).mono ?_);rintro e w' ⟨rfl,⟨nd,rfl⟩⟩;refine ⟨_,rfl,?_⟩))
        go_ret3
        exact ⟨by first | rfl | (simp;done) | (simp [*];done),by repeat (first | exact bA.refl _ | apply bA.step)⟩
   ·replace c4:=amg.mpr c4
    subst c4
    have H1:((aU.f 2).bind fun rU=>(some (rU.1,rU.2.1,rU.2.2))) = some (r1,r2,r3):=by rw [aly (show ¬ (false = true) by decide)] at H;exact H
    clear H
    have H:=H1
    clear H1
    replace H:=zbm H
    obtain ⟨⟨t145,t146,adw⟩,adx,H⟩:=H
    replace H:(some (t145,t146,adw)) = some (r1,r2,r3):=H
    have A24:=aj.mk adx
    clear adx
    simp only [alI,alK] at H
    obtain ⟨rfl,rfl,rfl⟩:=H
    go_wp2_with (first | ((with_reducible refine aQ (f:=120) rfl ?_);refine bW (some 20) rfl rfl Tryz.func120 (by kernel_rfl) rfl #[.string a0,.int .i64 eU,.int .i64 1] rfl (by (try simp only [alJ,alD,alE]) <;> rfl) ?_;(with_reducible refine (ay.calls k1 a0 eU 1 t143 false _ A3.out).mono ?_);rintro e w' ⟨rfl,⟨nd,rfl⟩⟩;refine ⟨_,rfl,?_⟩) | ((with_reducible refine aQ (f:=140) rfl ?_);refine bW (some 25) rfl rfl Tryz.func140 (by kernel_rfl) rfl #[.int .i64 2] rfl (by (try simp only [alJ,alD,alE]) <;> rfl) ?_;(with_reducible refine (aU.calls 2 t145 t146 adw _ A24.out).mono ?_);rintro e w' ⟨rfl,⟨nd,rfl⟩⟩;refine ⟨_,rfl,?_⟩))
    go_ret3
    exact ⟨by first | rfl | (simp;done) | (simp [*];done),by repeat (first | exact bA.refl _ | apply bA.step)⟩
end
section
open Go.RowKit Go.Proofs.YtfokaoeinpnagaaGreatW.bI Go.Proofs.YtfokaoeinpnagaaGreatW.eF Go.Proofs.YtfokaoeinpnagaaGreatW.fK Go.Proofs.YtfokaoeinpnagaaGreat.B
theorem KT {msg:ByteArray} {i:Int} (h:192 ≤ bt msg i):49152 ≤ iU 2 msg i ∧ iU 2 msg i ≤ 65535:=by
 have h1:=iA msg i
 have h2:=iA msg (i + 1)
 simp [iU]
 omega
theorem aiM (a b:Nat) (c:Int) (h:(b:Int) = 1 + c) (ha:a ≤ 254) (hb:c ≤ 63) (h0:0 ≤ c):wrap64 (((a + b:Nat):Int) + 1) = a + (1 + c) + 1:=by
 rw [iC (by omega) (by omega)];omega
theorem MG (d:Nat):∀ (k:Nat) (msg:ByteArray) (i l n:Int) (t:ByteArray),l.toNat + (255 - t.size) < d → d + 10 ≤ k → msg.size ≤ 100000 → t.size ≤ 254 → (n = -1 ∨ 0 ≤ n) →
  ∃ R,bL.l k msg i l n t = some R ∧ aV.l0 k msg i t n l = some R:=by
 induction d with
 | zero=>intro k msg i l n t h;omega
 | succ d ih =>
  intro k msg i l n t hd hk hm ht hn
  obtain ⟨k,rfl⟩:∃ m,k = m + 1:=⟨k - 1,by omega⟩
  rw [bL.l,aV.l0,uG k (by omega) msg i 1 (by omega),uG k (by omega) msg i 2 (by omega)]
  simp only [Option.bind_some]
  by_cases g1:lC msg i 1
  ·have hr:=iA msg i
   have e1:iU (1:Int).toNat msg i = bt msg i:=GY msg i
   have hi0:=g1.1
   have hi1:=g1.2.2.2
   simp only [alx g1,e1,ama]
   by_cases c0:bt msg i = 0
   ·simp only [alx c0]
    have z:t.size + 1 ≤ 9223372036854775807:=by omega
    simp only [alx z]
    rw [iC (n:=i + 1) (by omega) (by omega)]
    rcases hn with rfl | hn
    ·rw [alx (show (-1:Int) < 0 by omega),alx rfl];exact ⟨_,rfl,rfl⟩
    ·rw [aly (show ¬ n < 0 by omega),aly (show ¬ n = -1 by omega)];exact ⟨_,rfl,rfl⟩
   ·simp only [aly c0]
    by_cases c1:192 ≤ bt msg i
    ·have hg:=KT c1
     simp only [alx c1,alx (show bt msg i ≥ 192 from c1)]
     by_cases g2:lC msg i 2
     ·have e2:iU (2:Int).toNat msg i = iU 2 msg i:=rfl
      have hi2:=g2.2.2.2
      simp only [alx g2,e2,ama]
      rw [iC (n:=iU 2 msg i - 49152) (by omega) (by omega),iC (n:=i + 2) (by omega) (by omega)]
      by_cases c2:iU 2 msg i - 49152 ≥ l
      ·rw [alx c2,alx c2]
       exact ⟨_,rfl,rfl⟩
      ·rw [aly c2,aly c2]
       rcases hn with rfl | hn
       ·rw [alx (show (-1:Int) < 0 by omega),alx rfl]
        exact ih k msg _ _ _ t (by omega) (by omega) hm ht (.inr (by omega))
       ·rw [aly (show ¬ n < 0 by omega),aly (show ¬ n = -1 by omega)]
        exact ih k msg _ _ _ t (by omega) (by omega) hm ht (.inr hn)
     ·simp only [aly g2,al4,alV]
      exact ⟨_,rfl,rfl⟩
    ·simp only [aly c1,aly (show ¬ bt msg i ≥ 192 from c1)]
     by_cases c2:63 < bt msg i
     ·rw [alx c2,alx (show bt msg i > 63 from c2)]
      exact ⟨_,rfl,rfl⟩
     ·rw [aly c2,aly (show ¬ bt msg i > 63 from c2),iC (n:=bt msg i + 1) (by omega) (by omega),rR msg i _ (by omega),show bt msg i + 1 = 1 + bt msg i from by omega]
      simp only [Option.bind_some]
      by_cases g3:iP msg i (1 + bt msg i)
      ·have hz:=size_ext g3.1 g3.2.1 g3.2.2
       simp only [alx g3,ama]
       have hsz:t.size + (msg.extract i.toNat (i + (1 + bt msg i)).toNat).size ≤ 9223372036854775807:=by omega
       rw [alx hsz,alO,aiM _ _ _ hz ht (by omega) (by omega)]
       clear hsz
       by_cases c3:(t.size:Int) + (1 + bt msg i) ≥ 255
       ·rw [alx c3,alx (show (t.size:Int) + (1 + bt msg i) + 1 > 255 by omega)]
        exact ⟨_,rfl,rfl⟩
       ·have hb:=g3.2.2
        rw [aly c3,aly (show ¬ (t.size:Int) + (1 + bt msg i) + 1 > 255 by omega),iC (n:=i + bt msg i) (by omega) (by omega),iC (n:=i + bt msg i + 1) (by omega) (by omega),show i + bt msg i + 1 = i + (1 + bt msg i) from by omega]
        exact ih k msg _ _ _ _ (by rw [alO];omega) (by omega) hm (by rw [alO];omega) hn
      ·simp only [aly g3,al4,alV]
       exact ⟨_,rfl,rfl⟩
  ·simp only [aly g1,al4,alV]
   exact ⟨_,rfl,rfl⟩
theorem GZ {k k':Nat} (hk:k ≤ k') {msg:ByteArray} {i:Int} {R:ByteArray × Int × Int} (h:bL.f k msg i = some R):bL.f k' msg i = some R:=xk (fun k=>bL.mono msg i k) hk h
def rounds (i:Int):Nat:=i.toNat + 300
theorem CS (k:Nat) (msg:ByteArray) (i:Int) (hm:msg.size ≤ 100000) (hk:rounds i ≤ k):∃ R,bL.f k msg i = some R ∧ aV.f k msg i = some R:=by
 unfold rounds at hk
 obtain ⟨R,h1,h2⟩:=MG (i.toNat + 256) k msg i i (-1) ⟨#[]⟩ (by rw [GD];omega) (by omega) hm (by decide) (.inl rfl)
 refine ⟨R,?_,h2⟩
 unfold bL.f
 rw [alx (by omega)]
 exact h1
def pre (t:ByteArray):Prop:=∃ ls,t = BI ls ∧ ∀ x ∈ ls,Mj x
theorem pre_nil : pre ⟨#[]⟩:=⟨[],rfl,by simp⟩
theorem QH {t x:ByteArray} (h:pre t) (hx:Mj x):pre (t ++ (sg x.size ++ x)):=by
 obtain ⟨ls,rfl,hok⟩:=h
 refine ⟨ls ++ [x],?_,?_⟩
 ·rw [GJ];simp only [BI];rw [append_empty]
 ·intro y hy
  rcases amj.mp hy with hy | hy
  ·exact hok y hy
  ·rw [amA] at hy;subst hy;exact hx
theorem MH {msg:ByteArray} {i:Int} (h:iP msg i (1 + bt msg i)) (h1:1 ≤ bt msg i) (h2:bt msg i ≤ 63):∃ x,Mj x ∧ msg.extract i.toNat (i + (1 + bt msg i)).toNat = sg x.size ++ x:=by
 obtain ⟨g0,g1,g2⟩:=h
 have hz:=size_ext g0 g1 g2
 refine ⟨msg.extract (i.toNat + 1) (i + (1 + bt msg i)).toNat,?_,?_⟩
 ·unfold Mj;rw [al1];omega
 ·have e:(msg.extract (i.toNat + 1) (i + (1 + bt msg i)).toNat).size = (bt msg i).toNat:=by rw [al1];omega
  rw [e]
  have h3:msg.extract i.toNat (i.toNat + 1) = sg ((bt msg i).toNat:Nat):=by
   refine Jf (by rw [sK,al1];omega) fun j j0 j1=>?_
   rw [al1] at j1
   have:j = 0:=by omega
   subst this
   rw [oo (by omega) (by rw [al1];omega),Qk _ (by omega)]
   rw [show ((i.toNat:Nat):Int) + 0 = i from by omega]
   omega
  rw [← h3,ByteArray.extract_append_extract]
  congr 1 <;> omega
theorem MI (k:Nat):∀ (msg:ByteArray) (a i l n:Int) (t:ByteArray) (R:ByteArray × Int × Int),0 ≤ a → pre t → t.size ≤ 254 → ((n = -1 ∧ a ≤ i) ∨ (a < n ∧ n ≤ (msg.size:Int))) → bL.l k msg i l n t = some R →
  (R.2.2 = 0 ∧ kK R.1 = true ∧ a < R.2.1 ∧ R.2.1 ≤ (msg.size:Int)) ∨ ((R.2.2 = 2 ∨ R.2.2 = 3) ∧ R.1 = ⟨#[]⟩ ∧ R.2.1 = 0):=by
 induction k with
 | zero=>intro msg a i l n t R _ _ _ _ h;simp [bL.l] at h
 | succ k ih =>
  intro msg a i l n t R ha hp ht hn h
  rw [bL.l] at h
  by_cases g1:lC msg i 1
  ·have hr:=iA msg i
   have hi0:=g1.1
   have hi1:=g1.2.2.2
   rw [alx g1] at h
   by_cases c0:bt msg i = 0
   ·rw [alx c0] at h
    cases h
    left
    refine ⟨rfl,?_,?_⟩
    ·obtain ⟨ls,rfl,hok⟩:=hp
     exact KG.mpr ⟨ls,rfl,hok,by rw [alO];show _ + root.size ≤ 255;rw [mq];omega⟩
    ·rcases hn with ⟨rfl,hn⟩ | hn
     ·rw [alx rfl];exact ⟨(by show a < i + 1;omega),(by show i + 1 ≤ (msg.size:Int);omega)⟩
     ·rw [aly (by omega)];exact hn
   ·rw [aly c0] at h
    by_cases c1:192 ≤ bt msg i
    ·rw [alx c1] at h
     have hg:=KT c1
     by_cases g2:lC msg i 2
     ·rw [alx g2] at h
      have hi2:=g2.2.2.2
      by_cases c2:iU 2 msg i - 49152 ≥ l
      ·rw [alx c2] at h
       cases h;right;exact ⟨.inr rfl,rfl,rfl⟩
      ·rw [aly c2] at h
       rcases hn with ⟨rfl,hn⟩ | hn
       ·rw [alx rfl] at h
        exact ih msg a _ _ _ t R ha hp ht (.inr ⟨by omega,by omega⟩) h
       ·rw [aly (by omega)] at h
        exact ih msg a _ _ _ t R ha hp ht (.inr hn) h
     ·rw [aly g2] at h
      cases h;right;exact ⟨.inl rfl,rfl,rfl⟩
    ·rw [aly c1] at h
     by_cases c2:63 < bt msg i
     ·rw [alx c2] at h
      cases h;right;exact ⟨.inr rfl,rfl,rfl⟩
     ·rw [aly c2] at h
      by_cases g3:iP msg i (1 + bt msg i)
      ·rw [alx g3] at h
       by_cases c3:(t.size:Int) + (1 + bt msg i) ≥ 255
       ·rw [alx c3] at h
        cases h;right;exact ⟨.inr rfl,rfl,rfl⟩
       ·rw [aly c3] at h
        have hz:=size_ext g3.1 g3.2.1 g3.2.2
        obtain ⟨x,hx,hxe⟩:=MH g3 (by omega) (by omega)
        refine ih msg a _ _ _ _ R ha ?_ (by rw [alO];omega) ?_ h
        ·rw [hxe];exact QH hp hx
        ·rcases hn with ⟨rfl,hn⟩ | hn
         ·exact .inl ⟨rfl,by omega⟩
         ·exact .inr hn
      ·rw [aly g3] at h
       cases h;right;exact ⟨.inl rfl,rfl,rfl⟩
  ·rw [aly g1] at h
   cases h;right;exact ⟨.inl rfl,rfl,rfl⟩
theorem Ze {k:Nat} {msg:ByteArray} {i:Int} {R:ByteArray × Int × Int} (hm:msg.size ≤ 100000):bL.f k msg i = some R ↔ bL.l k msg i i (-1) ⟨#[]⟩ = some R:=by
 unfold bL.f;rw [alx (by omega)]
theorem Jo {k:Nat} {msg:ByteArray} {i:Int} {R:ByteArray × Int × Int} (hm:msg.size ≤ 100000) (h:bL.f k msg i = some R) :
  (R.2.2 = 0 ∧ kK R.1 = true ∧ 0 ≤ i ∧ i < R.2.1 ∧ R.2.1 ≤ (msg.size:Int)) ∨ ((R.2.2 = 2 ∨ R.2.2 = 3) ∧ R.1 = ⟨#[]⟩ ∧ R.2.1 = 0):=by
 rw [Ze hm] at h
 by_cases h0:0 ≤ i
 ·rcases MI k msg i i i (-1) ⟨#[]⟩ R h0 pre_nil (by decide) (.inl ⟨rfl,amb _⟩) h with ⟨h1,h2,h3,h4⟩ | h1
  ·exact .inl ⟨h1,h2,h0,h3,h4⟩
  ·exact .inr h1
 ·cases k with
  | zero=>simp [bL.l] at h
  | succ k =>
   rw [bL.l,aly (fun g=>h0 g.1)] at h
   cases h;right;exact ⟨.inl rfl,rfl,rfl⟩
end
section
open Go.RowKit Go.Proofs.YtfokaoeinpnagaaGreatW.bI Go.Proofs.YtfokaoeinpnagaaGreatW.eF Go.Proofs.YtfokaoeinpnagaaGreatW.fK Go.Proofs.YtfokaoeinpnagaaGreat.B
def plL : List ByteArray → Int → ByteArray → Int
 | [],_,_=>-1
 | x :: m,o,r=>if same (enc (x :: m)) r then o else plL m (o + 1 + x.size) r
def wrL (m:List ByteArray) (a:Int):List ByteArray → ByteArray → ByteArray
 | [],p=>p ++ root
 | x :: l,p=>if 0 ≤ plL m 0 (enc (x :: l)) then p ++ aiI (49152 + a + plL m 0 (enc (x :: l))) 2 else wrL m a l (p ++ (sg x.size ++ x))
def wr (base:ByteArray) (a:Int) (n:ByteArray):ByteArray:=match vU base,vU n with
 | some m,some ls=>if 0 ≤ a ∧ a ≤ 16000 then wrL m a ls ⟨#[]⟩ else ⟨#[]⟩
 | _,_=>⟨#[]⟩
theorem CU (a:ByteArray):(qM a).size = a.size:=by unfold qM;rw [strOfNums_size,alA,numsOf_length]
end
end Go.Proofs.YtfokaoeinpnagaaGreat.ZQ
namespace Go.Proofs.YtfokaoeinpnagaaGreat.Mi
open Go Go.Proofs.YtfokaoeinpnagaaGreatW.bI
def ents : Nat → List (Int × Value) → List MapEntry
 | _,[]=>[]
 | i,(k,v) :: l=>{ key:=.int .i64 k,val:=v,born:=i } :: ents (i + 1) l
def uT (k:Int):List (Int × Value) → Option Value
 | []=>none
 | (k',v) :: l=>if k = k' then some v else uT k l
theorem qE (k:Int):∀ (l:List (Int × Value)) (i j:Nat),∃ r,Instr.findNow (.int .i64) (.int .i64 k) (ents i l) j = some r ∧ r.map (·.2) = uT k l
 | [],i,j=>⟨none,rfl,rfl⟩
 | (k',v) :: l,i,j=>by
  obtain ⟨r,h1,h2⟩:=qE k l (i + 1) (j + 1)
  unfold ents uT Instr.findNow
  by_cases h:k = k'
  ·subst h
   exact ⟨some (j,v),by simp [Instr.sameNow],by simp⟩
  ·have hb:(k == k') = false:=by simpa using h
   exact ⟨r,by simp [Instr.sameNow,hb,h1],by simp [h,h2]⟩
theorem CW (k:Int) (v:Value):∀ (l:List (Int × Value)) (i:Nat),ents i (l ++ [(k,v)]) = ents i l ++ [{ key:=.int .i64 k,val:=v,born:=i + l.length }]
 | [],i=>rfl
 | (k',v') :: l,i=>by
  simp only [List.cons_append,ents,CW k v l (i + 1),List.length_cons]
  rw [show i + 1 + l.length = i + (l.length + 1) from by omega]
def At (w:World) (b:Nat) (l:List (Int × Value)):Prop:=w.heap[b]? = some (.map (ents 0 l).toArray l.length)
variable {P : Program}
theorem Jp {w:World} {b:Nat} {l:List (Int × Value)} (h:At w b l) (t kt et:TypeId) (hm:P.underlying t = some (.map kt et)) (hk:P.underlying kt = some (.int .i64)) (k:Int) (v:Value) (hn:uT k l = none) :
  ∃ w',(Instr.mapUpdate t (.map (some b)) (.int .i64 k) v).run P w = .ok () w' ∧ At w' b (l ++ [(k,v)]) ∧ w.grownBy w' (some b):=by
 obtain ⟨r,h1,h2⟩:=qE k l 0 0
 rw [hn] at h2
 obtain rfl:r = none:=by cases r with | none=>rfl | some x=>cases h2
 have hc:(Instr.checkKey false 10000 kt (.int .i64 k)).run P w = .ok () w:=MapKept.run_checkKey (k:=.int .i64 k) hk (by simp [MapKept.IsKey]) false 9999
 refine ⟨{ w with heap:=w.heap.setIfInBounds b (.map (ents 0 (l ++ [(k,v)])).toArray (l ++ [(k,v)]).length) },?_,(MapKept.heap_set h).1,⟨rfl,rfl,rfl,by simp,fun i _ hi=>(MapKept.heap_set h).2 i (fun e=>hi (by rw [e]))⟩⟩
 unfold At at h
 simp [Instr.mapUpdate,run_underlying hm,MapKept.run_getObj_map h,hc,MapKept.run_findKey hk h1,MapKept.run_setObj_map _ h,Result.andThen]
 rw [CW]
 simp
theorem look {w:World} {b:Nat} {l:List (Int × Value)} (h:At w b l) (t kt et:TypeId) (hm:P.underlying t = some (.map kt et)) (hk:P.underlying kt = some (.int .i64)) (z:Value) (hz:(zeroValue et).run P w = .ok z w) (k:Int) :
  (Instr.lookup t (.map (some b)) (.int .i64 k) true).run P w = .ok (.tuple #[(uT k l).getD z,.bool (uT k l).isSome]) w:=by
 obtain ⟨r,h1,h2⟩:=qE k l 0 0
 unfold At at h
 have hc:∀ e,(Instr.checkKey e 10000 kt (.int .i64 k)).run P w = .ok () w:=fun e=>MapKept.run_checkKey (k:=.int .i64 k) hk (by simp [MapKept.IsKey]) e 9999
 rw [← h2]
 cases r with
 | none=>simp [Instr.lookup,run_underlying hm,MapKept.run_getObj_map h,hc,MapKept.run_findKey hk h1,Result.andThen,hz]
 | some x=>obtain ⟨i,v⟩:=x;simp [Instr.lookup,run_underlying hm,MapKept.run_getObj_map h,hc,MapKept.run_findKey hk h1,Result.andThen]
theorem MJ (w:World) {ops:Array Oper} {rest:List Oper} {o:Oper} {a:Act} {Q:Exit → Act → World → Prop}
  (hg:o.guard = none) (m x v:Operand) (t:TypeId) (hop:o.op = Op.insert t m x v)
  (kt et:TypeId) (ht:P.underlying t = some (.map kt et)) (hk:P.underlying kt = some (.int .i64)) (b:Nat) (l:List (Int × Value)) (hm:a.eval m = .map (some b)) (hat:At w b l) (k:Int) (val:Value) (hx:a.eval x = .int .i64 k) (hv:a.eval v = val) (hn:uT k l = none)
  (hK:∀ w',At w' b (l ++ [(k,val)]) → w.grownBy w' (some b) → wpList P ops Q rest (a.put o.dst undef) w') :
  wpList P ops Q (o :: rest) a w:=by
 refine wpList_plain hg fun K' hK'=>?_
 obtain ⟨w',hrun,r1,r2⟩:=Jp hat t kt et ht hk k val hn
 unfold Oper.wp
 simp [execOp,hop,hm,hx,hv,hrun,Result.andThen]
 exact hK' _ _ (hK w' r1 r2)
theorem Ul (w:World):At (w.alloc (.map #[] 0)) w.heap.size []:=by
 unfold At ents
 exact heap_alloc_new w _
structure In (B0:Nat) (w0 w:World) (b:Nat) (l:List (Int × Value)):Prop where
 at_:At w b l
 ge:B0 ≤ b
 QI:RowKit.Below B0 w0 w
theorem In.made {w:World}:In w.heap.size w (w.alloc (.map #[] 0)) w.heap.size []:=⟨Ul w,alC _,(RowKit.Below.refl _ _).alloc (alC _) _⟩
theorem In.grown {B0 b:Nat} {w0 w w':World} {l l':List (Int × Value)} (h:In B0 w0 w b l) (h':At w' b l') (hg:w.grownBy w' (some b)):In B0 w0 w' b l':=by
 refine ⟨h',h.ge,h.QI.grown hg ?_ (fun k e=>by cases e;exact h.ge)⟩
 have:=(amI.1 h.at_).1
 have:=h.ge
 omega
theorem G5 {w:World} {ops:Array Oper} {rest:List Oper} {o:Oper} {a:Act} {Q:Exit → Act → World → Prop} (t:TypeId) (m x v:Operand) (hop:o.op = Op.insert t m x v) (h:wpList P ops Q (o :: rest) a w):wpList P ops Q (o :: rest) a w:=h
theorem ady (w:World) {ops:Array Oper} {rest:List Oper} {o:Oper} {a:Act} {Q:Exit → Act → World → Prop}
  (hg:o.guard = none) (m x v:Operand) (t:TypeId) (hop:o.op = Op.insert t m x v)
  (kt et:TypeId) (ht:P.underlying t = some (.map kt et)) (hk:P.underlying kt = some (.int .i64)) (b:Nat) (l:List (Int × Value)) (hm:a.eval m = .map (some b)) {B0:Nat} {w0:World} (hin:In B0 w0 w b l) (k:Int) (val:Value) (hx:a.eval x = .int .i64 k) (hv:a.eval v = val) (hn:uT k l = none)
  (hK:∀ w',aj (In B0 w0 w' b (l ++ [(k,val)])) → wpList P ops Q rest (a.put o.dst undef) w') :
  wpList P ops Q (o :: rest) a w :=
 MJ w hg m x v t hop kt et ht hk b l hm hin.at_ k val hx hv hn fun w' h1 h2=>hK w' ⟨hin.grown h1 h2⟩
end Go.Proofs.YtfokaoeinpnagaaGreat.Mi

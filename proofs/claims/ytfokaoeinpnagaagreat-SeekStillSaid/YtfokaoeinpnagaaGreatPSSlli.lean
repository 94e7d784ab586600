/- A part of the proof of SeekStill: cut, joined and given short names by a program of this session (wip/tools/pack.py); Lean checks it. No condition. -/
import Derived.Test.YtfokaoeinpnagaaGreatPSSllh
import Derived.Test.YtfokaoeinpnagaaGreatPSSllg
import Derived.BigRegion
import Derived.Laws.BitsLemmas
import Derived.Test.YtfokaoeinpnagaaGreatPSSlle
import Derived.ProofKit
import Derived.OpenShut
import Derived.SizedLaws
import Derived.ChangeArms
import Derived.ChangeSlices
import Derived.Carry
import Derived.Test.YtfokaoeinpnagaaGreatPSSllf
import Derived.Test.YtfokaoeinpnagaaGreatProg
import Derived.WalkKit
import Derived.Test.YtfokaoeinpnagaaGreatPSSlld
set_option linter.unusedSectionVars false
set_option linter.unusedSimpArgs false
set_option linter.unusedVariables false
set_option maxHeartbeats 16000000
set_option maxRecDepth 100000
namespace Go.Proofs.YtfokaoeinpnagaaGreat.ZQ
section
open Go.RowKit Go.Proofs.YtfokaoeinpnagaaGreatW.aX Go.Proofs.YtfokaoeinpnagaaGreatW.dQ Go.Proofs.YtfokaoeinpnagaaGreatW.eX Go.Proofs.YtfokaoeinpnagaaGreat.B
def Av (msg:ByteArray) (i:Int):ByteArray × Int × Int:=(aW.f (rounds i) msg i).getD (⟨#[]⟩,0,0)
theorem TL (msg:ByteArray) (i:Int) (hm:msg.size ≤ 100000):aW.f (rounds i) msg i = some (Av msg i):=by
 obtain ⟨R,h1,_⟩:=JD (rounds i) msg i hm (ah1 _)
 unfold Av;rw [h1];rfl
theorem abe (k:Nat) (msg:ByteArray) (i:Int) (hm:msg.size ≤ 100000) (hk:rounds i ≤ k):aW.f k msg i = some (Av msg i):=Et hk (TL msg i hm)
theorem EA (msg:ByteArray) (i:Int) (hm:msg.size ≤ 100000) :
  ((Av msg i).2.2 = 0 ∧ jL (Av msg i).1 = true ∧ 0 ≤ i ∧ i < (Av msg i).2.1 ∧ (Av msg i).2.1 ≤ (msg.size:Int)) ∨ (((Av msg i).2.2 = 2 ∨ (Av msg i).2.2 = 3) ∧ (Av msg i).1 = ⟨#[]⟩ ∧ (Av msg i).2.1 = 0):=Gd hm (TL msg i hm)
def Ki (msg:ByteArray) (e:Int):Nat → Int → List ByteArray → Option (List ByteArray × Int)
 | 0,i,l=>some (l,i)
 | n + 1,i,l=>if (Av msg i).2.2 = 0 then (if (Av msg i).2.1 > e then none else Ki msg e n (Av msg i).2.1 (l ++ [(Av msg i).1])) else none
theorem qp (msg:ByteArray) (e:Int) (hm:msg.size ≤ 100000):∀ (n:Nat) (i:Int) (l:List ByteArray) (R:List ByteArray × Int),Ki msg e n i l = some R → i ≤ e → i ≤ R.2 ∧ R.2 ≤ e ∧ R.1.length = l.length + n ∧ (∃ l',R.1 = l ++ l' ∧ ∀ x ∈ l',jL x = true)
 | 0,i,l,R,h,hi=>by cases h;exact ⟨aiU _,hi,rfl,[],by simp,by simp⟩
 | n + 1,i,l,R,h,hi=>by
  rw [Ki] at h
  by_cases h0:(Av msg i).2.2 = 0
  ·rw [ahX h0] at h
   by_cases h1:(Av msg i).2.1 > e
   ·rw [ahX h1] at h;cases h
   ·rw [ahY h1] at h
    obtain ⟨a1,a2,a3,l',a4,a5⟩:=qp msg e hm n _ _ R h (by omega)
    rcases EA msg i hm with ⟨_,b2,_,b4,_⟩ | ⟨b1,_⟩
    ·refine ⟨by omega,a2,by rw [a3,ah7,List.length_singleton];omega,(Av msg i).1 :: l',by rw [a4];simp,?_⟩
     intro x hx
     rcases aif.mp hx with rfl | hx
     ·exact b2
     ·exact a5 x hx
    ·omega
  ·rw [ahY h0] at h;cases h
def K0 : Nat:=101000
theorem JI {msg:ByteArray} {i:Int} {k:Nat} (hm:msg.size ≤ 100000) (hi:i ≤ (msg.size:Int)) (hk:K0 ≤ k):rounds i ≤ k:=by unfold rounds;unfold K0 at hk;omega
theorem Cu (msg:ByteArray) (e s0 s1 s2:Int) (a b:ByteArray) (hm:msg.size ≤ 100000) (he:e ≤ (msg.size:Int)) (h2:0 ≤ s2 ∧ s2 ≤ 1000) (c:Int) (hc:c ≤ 100):∀ (n k:Nat) (i x:Int) (l:List ByteArray),K0 + n ≤ k → x + n = c → 0 ≤ x → 0 ≤ i → i ≤ e → l.length + n ≤ 1000 →
  bN.l0 (k + 1) msg i e c x s0 s1 s2 a b l = (match Ki msg e n i l with
   | some R=>some (a,msg.extract R.2.toNat e.toNat,R.1,(((msg.extract R.2.toNat e.toNat).size:Int) == s2))
   | none=>some (⟨#[]⟩,⟨#[]⟩,[],false))
 | 0,k,i,x,l,hk,hx,hx0,hi,hie,hl=>by
  rw [bN.l0,ahY (by omega),ahX hi,ahX hie,ahX he,Ki]
 | n + 1,k,i,x,l,hk,hx,hx0,hi,hie,hl=>by
  obtain ⟨k,rfl⟩:∃ m,k = m + 1:=⟨k - 1,by omega⟩
  rw [bN.l0,ahX (by omega),abe (k + 1) msg i hm (JI hm (by omega) (by omega)),Ki]
  simp only [Option.bind_some]
  by_cases h0:(Av msg i).2.2 = 0
  ·rw [ahX h0,ahX h0]
   by_cases h1:(Av msg i).2.1 > e
   ·rw [ahX h1,ahX h1]
   ·rcases EA msg i hm with ⟨_,_,_,b4,_⟩ | ⟨b1,_⟩
    ·rw [ahY h1,ahY h1,ahX (by omega),lF (by omega) (by omega)]
     exact Cu msg e s0 s1 s2 a b hm he h2 c hc n k _ (x + 1) _ (by omega) (by omega) (by omega) (by omega) (by omega) (by rw [ah7,List.length_singleton];omega)
    ·omega
  ·rw [ahY h0,ahY h0]
def TM (s:ByteArray):Nat → Int → Bool
 | 0,_=>false
 | k + 1,i=>if i < (s.size:Int) then TM s k (i + 1 + bt s i) else decide (i = s.size)
def NJ (s:ByteArray):Bool:=decide (0 < s.size) && TM s (s.size + 1) 0
theorem WE (s:ByteArray) {k:Nat} {i:Int} (h:(s.size:Int) < i):TM s k i = false:=by
 cases k with
 | zero=>rfl
 | succ k=>rw [TM,ahY (by omega)];simp;omega
theorem NK (s:ByteArray) (hs:s.size ≤ 100000) (d:Nat):∀ (k m:Nat) (i:Int),0 ≤ i → i ≤ (s.size:Int) → s.size - i.toNat ≤ d → d + 1 ≤ k → d + 1 ≤ m → dD.l0 k (s.extract i.toNat s.size) = some (TM s m i):=by
 induction d with
 | zero =>
  intro k m i h0 h1 h2 hk hm
  obtain ⟨k,rfl⟩:∃ j,k = j + 1:=⟨k - 1,by omega⟩
  obtain ⟨m,rfl⟩:∃ j,m = j + 1:=⟨m - 1,by omega⟩
  rw [dD.l0,ahX (toList_nil.mpr (by rw [aiF];omega)),TM,ahY (by omega),ah0 (by omega)]
 | succ d ih =>
  intro k m i h0 h1 h2 hk hm
  obtain ⟨k,rfl⟩:∃ j,k = j + 1:=⟨k - 1,by omega⟩
  obtain ⟨m,rfl⟩:∃ j,m = j + 1:=⟨m - 1,by omega⟩
  have hz:(s.extract i.toNat s.size).size = s.size - i.toNat:=by rw [aiF];omega
  by_cases hi:i < (s.size:Int)
  ·have hb:bt (s.extract i.toNat s.size) 0 = bt s i:=by
    rw [nR (by omega) (by omega)];congr 1;omega
   have hr:=gI s i
   rw [dD.l0,ahY (by rw [toList_nil];omega),ahX (by omega),hb,lF (n:=bt s i) (by omega) (by omega),lF (n:=1 + bt s i) (by omega) (by omega),TM,ahX hi]
   by_cases h3:1 + bt s i > ((s.extract i.toNat s.size).size:Int)
   ·rw [ahX h3,WE s (by omega)]
   ·rw [ahY h3,ahX (by omega),ahX (by omega)]
    have e:(s.extract i.toNat s.size).extract (1 + bt s i).toNat (s.extract i.toNat s.size).size = s.extract (i + 1 + bt s i).toNat s.size:=by
     rw [ByteArray.extract_extract,hz]
     congr 1 <;> omega
    rw [e]
    exact ih k m _ (by omega) (by omega) (by omega) (by omega) (by omega)
  ·rw [dD.l0,ahX (toList_nil.mpr (by omega)),TM,ahY hi,ah0 (by omega)]
theorem NM (k:Nat) (hk:K0 ≤ k) (s:ByteArray) (hs:s.size ≤ 100000):dD.f k s = some (NJ s):=by
 unfold dD.f NJ
 by_cases h:s.toList = ([]:List UInt8)
 ·rw [ahX h];rw [toList_nil] at h;rw [h];rfl
 ·rw [ahY h]
  rw [toList_nil] at h
  unfold K0 at hk
  have:=NK s hs s.size k (s.size + 1) 0 (by omega) (by omega) (by omega) (by omega) (by omega)
  rw [show (0:Int).toNat = 0 from rfl,ByteArray.extract_zero_size] at this
  rw [this,ah0 (by omega),Bool.true_and]
end
section
open Go.RowKit Go.Proofs.YtfokaoeinpnagaaGreatW.aX Go.Proofs.YtfokaoeinpnagaaGreatW.dQ Go.Proofs.YtfokaoeinpnagaaGreatW.eX Go.Proofs.YtfokaoeinpnagaaGreat.B
theorem EB {n:ByteArray} (h:jL n = true):n.size ≤ 255:=by
 obtain ⟨l,_,_,hz⟩:=wC.mp h;exact hz
theorem yH : ∀ {l:List ByteArray},(∀ x ∈ l,jL x = true) → (strings_Join.cat l).size ≤ 255 * l.length
 | [],_=>aiy _
 | x :: l,h=>by
  have h1:=EB (h x (by simp))
  have h2:=yH (l:=l) (fun y hy=>h y (by simp [hy]))
  rw [strings_Join.cat,aiw,List.length_cons]
  omega
def zB (d:ByteArray):ByteArray × Int:=if (d.size:Int) > 65535 then (⟨#[]⟩,4) else (d,0)
theorem Aw (d:ByteArray):(if (d.size:Int) > 65535 then some ((⟨#[]⟩:ByteArray),(4:Int)) else some (d,0)) = some (zB d):=by
 unfold zB;split <;> rfl
def RD (msg:ByteArray) (i size:Int) (s:Int × Int × Int):ByteArray × Int :=
 if s.1 ≤ size then (match Ki msg (i + size) s.2.1.toNat (i + s.1) [] with
  | some R=>if R.2 + s.2.2 = i + size then zB (msg.extract i.toNat (i + s.1).toNat ++ strings_Join.cat R.1 ++ msg.extract R.2.toNat (i + size).toNat) else (⟨#[]⟩,4)
  | none=>(⟨#[]⟩,4)) else (⟨#[]⟩,4)
def Gh (msg:ByteArray) (i size kind:Int):ByteArray × Int :=
 if ig msg i size then (match ay.CX kind with
  | some s=>RD msg i size s
  | none=>if kind = 16 then (if NJ (msg.extract i.toNat (i + size).toNat) = true then zB (msg.extract i.toNat (i + size).toNat) else (⟨#[]⟩,4)) else zB (msg.extract i.toNat (i + size).toNat))
 else (⟨#[]⟩,2)
theorem qw {kind:Int} {s:Int × Int × Int} (h:ay.CX kind = some s):0 ≤ s.1 ∧ s.1 ≤ 16 ∧ 0 ≤ s.2.1 ∧ s.2.1 ≤ 2 ∧ 0 ≤ s.2.2 ∧ s.2.2 ≤ 20 ∧ kind ≠ 16 ∧ (s.1 = 0 → s.2.1 = 0 → False):=by
 unfold ay.CX at h
 repeat' split at h
 all_goals (first | (cases h;subst_vars;decide) | cases h)
theorem WG (k:Nat) (hk:K0 ≤ k) (kind:Int) (hkind:kind ≠ 16) (d:ByteArray):ay.fin k kind d true = some (zB d):=by
 unfold ay.fin
 rw [ahX rfl,ahY hkind,Aw]
theorem uP (k:Nat) (kind:Int) (d:ByteArray):ay.fin k kind d false = some (⟨#[]⟩,4):=by
 unfold ay.fin;rw [ahY aiZ]
theorem JJ (msg:ByteArray) (i size kind:Int) (k:Nat) (hk:K0 ≤ k) (hm:msg.size ≤ 100000) (f:ByteArray → Option Bool) (hf:∀ s,s.size ≤ 100000 → f s = some (NJ s)) (t:ByteArray) (ht:t.size ≤ 100000) :
  (if kind = 16 then ((f t).bind fun b=>if b = true then (if (t.size:Int) > 65535 then some ((⟨#[]⟩:ByteArray),(4:Int)) else some (t,0)) else some (⟨#[]⟩,4)) else (if (t.size:Int) > 65535 then some (⟨#[]⟩,4) else some (t,0))) =
   some (if kind = 16 then (if NJ t = true then zB t else (⟨#[]⟩,4)) else zB t):=by
 rw [hf t ht,Aw]
 simp only [Option.bind_some]
 split
 ·split <;> rfl
 ·rfl
theorem JK (k:Nat) (hk:K0 + 10 ≤ k) (msg:ByteArray) (i size kind:Int) (hm:msg.size ≤ 100000) (ht:ig msg i size) (s:Int × Int × Int) (hs:ay.CX kind = some s):ay.g k msg i size kind s = some (RD msg i size s):=by
 obtain ⟨h0,h1,h2⟩:=ht
 obtain ⟨a1,a2,a3,a4,a5,a6,a7,a8⟩:=qw hs
 obtain ⟨s0,s1,s2⟩:=s
 simp only at a1 a2 a3 a4 a5 a6 a8
 have e1:wrap64 (i + size) = i + size:=lF (by omega) (by omega)
 have e2:wrap64 (i + size - i) = size:=by rw [lF (by omega) (by omega)];omega
 have e3:wrap64 (i + s0) = i + s0:=lF (by omega) (by omega)
 unfold ay.g bN.f RD
 simp only [e1,e2,e3]
 by_cases c:s0 ≤ size
 ·rw [ahX c,ahX c,ahX h0,ahX (by omega),ahX (by omega)]
  obtain ⟨k,rfl⟩:∃ j,k = j + 1:=⟨k - 1,by omega⟩
  rw [Cu msg (i + size) s0 s1 s2 _ _ hm h2 ⟨a5,by omega⟩ s1 (by omega) s1.toNat k (i + s0) 0 [] (by omega) (by omega) (aiU _) (by omega) (by omega) (by simp only [List.length_nil];omega)]
  have hz:(msg.extract i.toNat (i + s0).toNat).size ≤ 16:=by rw [aiF];omega
  cases hr:Ki msg (i + size) s1.toNat (i + s0) [] with
  | none =>
   simp only [Option.bind_some]
   rw [ahX (by decide),ahX (by decide),uP]
  | some R =>
   obtain ⟨b1,b2,b3,l',b4,b5⟩:=qp msg _ hm _ _ _ R hr (by omega)
   have hcz:=yH b5
   rw [List.nil_append] at b4
   rw [← b4] at hcz
   rw [List.length_nil,aip] at b3
   have hbz:(msg.extract R.2.toNat (i + size).toNat).size = (i + size - R.2).toNat:=by rw [aiF];omega
   simp only [Option.bind_some]
   rw [ahX (by omega),ahX (by omega)]
   by_cases d:R.2 + s2 = i + size
   ·rw [ahX d,show (((msg.extract R.2.toNat (i + size).toNat).size:Int) == s2) = true from aiH.mpr (by omega),WG k.succ (by omega) kind a7]
   ·rw [ahY d,show (((msg.extract R.2.toNat (i + size).toNat).size:Int) == s2) = false from aji.mpr (by omega),uP]
 ·rw [ahY c,ahY c]
  simp only [Option.bind_some]
  rw [ahX (by decide),ahX (by decide),uP]
theorem WH (k:Nat) (hk:K0 + 10 ≤ k) (msg:ByteArray) (i size kind:Int) (hm:msg.size ≤ 100000):ay.f k msg i size kind = some (Gh msg i size kind):=by
 unfold ay.f Gh
 rw [tN msg i size (by omega)]
 simp only [Option.bind_some]
 by_cases ht:ig msg i size
 ·rw [ahX ht,ahX ht]
  simp only [aiu]
  cases hs:ay.CX kind with
  | some s=>exact JK k hk msg i size kind hm ht s hs
  | none =>
   have hz:(msg.extract i.toNat (i + size).toNat).size ≤ 100000:=by rw [aiF];omega
   have:=JJ msg i size kind k (by omega) hm (dD.f k) (fun s h=>NM k (by omega) s h) _ hz
   unfold ay.fin
   rw [ahX rfl]
   exact this
 ·rw [ahY ht,ahY ht];rfl
end
section
open Go.RowKit Go.Proofs.YtfokaoeinpnagaaGreatW.aX Go.Proofs.YtfokaoeinpnagaaGreatW.dQ Go.Proofs.YtfokaoeinpnagaaGreatW.eX Go.Proofs.YtfokaoeinpnagaaGreat.B
def CS (kind:Int) (d:ByteArray):Bool:=decide (d.size ≤ 65535) && (decide ((Gh d 0 d.size kind).2 = 0) && decide ((Gh d 0 d.size kind).1 = d))
theorem Cv {kind:Int} {d:ByteArray}:CS kind d = true ↔ d.size ≤ 65535 ∧ Gh d 0 d.size kind = (d,0):=by
 unfold CS
 simp only [ah5,aii]
 constructor
 ·rintro ⟨h1,h2,h3⟩;exact ⟨h1,Prod.ext h3 h2⟩
 ·rintro ⟨h1,h2⟩;rw [h2];exact ⟨h1,rfl,rfl⟩
theorem Ay (k:Nat) (hk:K0 + 10 ≤ k) (kind:Int) (d:ByteArray):iJ.f k kind d = some (CS kind d):=by
 unfold iJ.f CS
 by_cases h:(d.size:Int) > 65535
 ·rw [ahX h,ah2 (by omega)];rfl
 ·rw [ahY h,WH k hk d 0 _ kind (by omega),ah0 (by omega),Bool.true_and]
  simp only [Option.bind_some]
  by_cases h0:(Gh d 0 d.size kind).2 = 0
  ·rw [ahX h0,ah0 h0,Ga,Bool.true_and]
  ·rw [ahY h0,ah2 h0,Bool.false_and]
theorem Gi (d:ByteArray):ig d 0 d.size:=⟨aiU _,by omega,by omega⟩
theorem JL {x d:ByteArray} (h:zB x = (d,0)):x = d ∧ x.size ≤ 65535:=by
 unfold zB at h
 split at h
 ·have:=aio Prod.snd h;cases this
 ·exact ⟨aio Prod.fst h,by omega⟩
theorem yI {kind:Int} {d:ByteArray} {s:Int × Int × Int} (h:CS kind d = true) (hs:ay.CX kind = some s) :
  ∃ R,s.1 ≤ (d.size:Int) ∧ Ki d d.size s.2.1.toNat s.1 [] = some R ∧ R.2 + s.2.2 = d.size ∧ d = d.extract 0 s.1.toNat ++ strings_Join.cat R.1 ++ d.extract R.2.toNat d.size ∧ s.1 ≤ R.2 ∧ R.2 ≤ (d.size:Int) ∧ R.1.length = s.2.1.toNat ∧ (∀ x ∈ R.1,jL x = true) ∧ R.2 = s.1 + (strings_Join.cat R.1).size:=by
 obtain ⟨h0,h1⟩:=Cv.mp h
 unfold Gh RD at h1
 rw [ahX (Gi d),hs] at h1
 simp only [Int.zero_add,Int.toNat_natCast] at h1
 obtain ⟨a1,a2,a3,a4,a5,a6,a7,a8⟩:=qw hs
 by_cases c:s.1 ≤ (d.size:Int)
 ·rw [ahX c] at h1
  cases hr:Ki d d.size s.2.1.toNat s.1 [] with
  | none=>rw [hr] at h1;have:=aio Prod.snd h1;cases this
  | some R =>
   rw [hr] at h1
   simp only at h1
   by_cases e:R.2 + s.2.2 = d.size
   ·rw [ahX e] at h1
    obtain ⟨h2,_⟩:=JL h1
    obtain ⟨b1,b2,b3,l',b4,b5⟩:=qp d _ (by omega) _ _ _ R hr c
    rw [List.nil_append] at b4
    rw [← b4] at b5
    have hz:=aio ByteArray.size h2
    simp only [aiw,aiF] at hz
    refine ⟨R,c,rfl,e,h2.symm,b1,b2,by rw [b3];simp,b5,?_⟩
    simp only [show (0:Int).toNat = 0 from rfl] at hz
    omega
   ·rw [ahY e] at h1;have:=aio Prod.snd h1;cases this
 ·rw [ahY c] at h1;have:=aio Prod.snd h1;cases this
def prt (kind:Int) (d:ByteArray):ByteArray × ByteArray × List ByteArray × Bool :=
 if CS kind d = true then (match ay.CX kind with
  | some s=>(match Ki d d.size s.2.1.toNat s.1 [] with
   | some R=>(d.extract 0 s.1.toNat,d.extract R.2.toNat d.size,R.1,true)
   | none=>(⟨#[]⟩,⟨#[]⟩,[],false))
  | none=>(d,⟨#[]⟩,[],true)) else (⟨#[]⟩,⟨#[]⟩,[],false)
theorem vZ (k:Nat) (hk:K0 + 20 ≤ k) (d:ByteArray) (hd:d.size ≤ 65535) (s0 s1 s2:Int) (a1:0 ≤ s0) (a3:0 ≤ s1) (a4:s1 ≤ 2) (a5:0 ≤ s2) (a6:s2 ≤ 20) (R:List ByteArray × Int) (c1:s0 ≤ (d.size:Int)) (c2:Ki d d.size s1.toNat s0 [] = some R) (c3:R.2 + s2 = d.size) :
  bN.f k d 0 (d.size:Int) s0 s1 s2 = some (d.extract 0 s0.toNat,d.extract R.2.toNat d.size,R.1,true):=by
 unfold bN.f
 have e2:wrap64 ((d.size:Int) - 0) = d.size:=by rw [lF (by omega) (by omega)];omega
 have e3:wrap64 (0 + s0) = s0:=by rw [lF (by omega) (by omega)];omega
 obtain ⟨b1,b2,_⟩:=qp d _ (by omega) _ _ _ R c2 c1
 have hz:((d.extract R.2.toNat d.size).size:Int) = s2:=by rw [aiF];omega
 obtain ⟨k,rfl⟩:∃ j,k = j + 1:=⟨k - 1,by omega⟩
 have h:=Cu d d.size s0 s1 s2 (d.extract 0 s0.toNat) ⟨#[]⟩ (by omega) (aiU _) ⟨a5,by omega⟩ s1 (by omega) s1.toNat k s0 0 [] (by omega) (by omega) (aiU _) a1 c1 (by simp only [List.length_nil];omega)
 rw [c2] at h
 simp only [Int.toNat_natCast] at h
 rw [show (((d.extract R.2.toNat d.size).size:Int) == s2) = true from aiH.mpr hz] at h
 rw [e2,ahX c1,ahX (aiU _),e3,ahX a1,ahX c1]
 exact h
theorem Az (k:Nat) (hk:K0 + 20 ≤ k) (kind:Int) (d:ByteArray):bS.f k kind d = some (prt kind d):=by
 unfold bS.f prt
 rw [Ay k (by omega)]
 simp only [Option.bind_some]
 by_cases h:CS kind d = true
 ·rw [ahX h,ahX h]
  cases hs:ay.CX kind with
  | none=>rfl
  | some s =>
   obtain ⟨R,c1,c2,c3,c4,c5,c6,c7,c8,c9⟩:=yI h hs
   obtain ⟨a1,a2,a3,a4,a5,a6,a7,a8⟩:=qw hs
   obtain ⟨h0,_⟩:=Cv.mp h
   obtain ⟨s0,s1,s2⟩:=s
   simp only at a1 a2 a3 a4 a5 a6 c1 c2 c3 c5
   simp only [c2]
   exact vZ k hk d h0 s0 s1 s2 a1 a3 a4 a5 a6 R c1 c2 c3
 ·rw [ahY h,ahY h]
theorem NP (k:Nat) (hk:K0 + 20 ≤ k) (kind:Int) (d:ByteArray):mh.f k kind d = some (prt kind d).2.2.1:=by
 unfold mh.f;rw [Az k hk];rfl
theorem uQ {kind:Int} {d:ByteArray}:(∀ x ∈ (prt kind d).2.2.1,jL x = true) ∧ (prt kind d).2.2.1.length ≤ 2:=by
 unfold prt
 by_cases h:CS kind d = true
 ·rw [ahX h]
  cases hs:ay.CX kind with
  | none=>exact ⟨by simp,by simp⟩
  | some s =>
   obtain ⟨R,c1,c2,c3,c4,c5,c6,c7,c8,c9⟩:=yI h hs
   obtain ⟨a1,a2,a3,a4,a5,a6,a7,a8⟩:=qw hs
   simp only [c2]
   exact ⟨c8,by omega⟩
 ·rw [ahY h];exact ⟨by simp,by simp⟩
theorem vJ (k:Nat) (hk:600 ≤ k) (n:ByteArray) (hs:n.size ≤ 1000000000):l9.f k n = some (if jL n = true then vV n else ⟨#[]⟩):=by
 unfold l9.f
 rw [yx k hk n hs,Ws n hs]
 simp only [Option.bind_some]
 split <;> rfl
theorem all_eq (k:Nat) (hk:600 ≤ k):∀ l:List ByteArray,(∀ x ∈ l,jL x = true) → d9.all k l = some (l.map vV)
 | [],_=>rfl
 | x :: l,h=>by
  have hx:=h x (by simp)
  have hz:=EB hx
  rw [d9.all,vJ k hk x (by omega),ahX hx]
  simp only [Option.bind_some]
  rw [all_eq k hk l (fun y hy=>h y (by simp [hy]))]
  rfl
theorem tQ : ∀ l:List ByteArray,(strings_Join.cat (l.map vV)).size = (strings_Join.cat l).size
 | []=>rfl
 | x :: l=>by rw [ah8,strings_Join.cat,strings_Join.cat,aiw,aiw,Ap,tQ l]
def lw (kind:Int) (d:ByteArray):ByteArray:=(prt kind d).1 ++ strings_Join.cat ((prt kind d).2.2.1.map vV) ++ (prt kind d).2.1
theorem JM {kind:Int} {d:ByteArray}:(prt kind d).1.size ≤ 65535 ∧ (prt kind d).2.1.size ≤ 65535:=by
 unfold prt
 by_cases h:CS kind d = true
 ·obtain ⟨h0,_⟩:=Cv.mp h
  rw [ahX h]
  cases hs:ay.CX kind with
  | none=>exact ⟨h0,by show (⟨#[]⟩:ByteArray).size ≤ 65535;decide⟩
  | some s =>
   obtain ⟨R,c1,c2,_⟩:=yI h hs
   simp only [c2]
   simp only [aiF]
   omega
 ·rw [ahY h];exact ⟨by decide,by decide⟩
theorem RF (k:Nat) (hk:K0 + 20 ≤ k) (kind:Int) (d:ByteArray):d9.f k kind d = some (lw kind d):=by
 obtain ⟨p1,p2⟩:=@uQ kind d
 obtain ⟨p3,p4⟩:=@JM kind d
 have hcz:=yH p1
 unfold d9.f
 rw [Az k hk]
 simp only [Option.bind_some]
 rw [all_eq k (by unfold K0 at hk;omega) _ p1]
 simp only [Option.bind_some]
 unfold d9.fin lw
 rw [ahX (by rw [tQ];omega),ahX (by rw [ahZ];omega)]
end
end Go.Proofs.YtfokaoeinpnagaaGreat.ZQ
namespace Go.Proofs.YtfokaoeinpnagaaGreat.Ev
section
open Go Go.RowKit
structure Old (w w':World):Prop where
 os:w'.os = w.os
 output:w'.output = w.output
 size:w.heap.size ≤ w'.heap.size
 block:∀ k,k < w.heap.size → w'.heap[k]? = w.heap[k]?
theorem Old.frame {W w':World} (h:Old W w') (may:MemPlace → Prop):W.keptBut w' may:=by
 refine ⟨h.os,h.output,fun i hi=>?_⟩
 rw [h.block i hi]
 split <;> simp_all
theorem Old.same {W w':World} (h:Old W w') {p:MemPlace} (hp:p.block < W.heap.size):W.sameAt w' p:=by
 cases p with
 | cell b o=>exact World.cell?_of_block (w:=W) (h.block b hp)
 | map b=>exact h.block b hp
theorem Old.trod {H:Type} {enc:TypeId × Value → H} {P:Program} {t:TypeId} (hl:laidOutB P = true) (hr:P.readableRec t = true) (hrow:t < P.types.size) {W W':World} {v:Value} {d:DataW H} {ps:List MemPlace}
  (h:DataW.Trod enc P W 0 (fun _=>true) true t v d ps) (hb:Old W W') (hlt:∀ x ∈ ps,x.block < W.heap.size):DataW.Trod enc P W' 0 (fun b=>decide (b < W.heap.size)) true t v d ps :=
 WideElems.Trod_stays hl hr hrow h (fun x hx=>hb.same (hlt x hx)) (fun x hx=>by simpa using hlt x hx)
theorem J3 {P:Program} {Γ:Env} (j6:gL P Γ) {f:FuncId} {dV oP:List AV} {b:Bool} {vals:List Value} {W:World} (h:Γ f dV = some ([.one (.f (.bool b))],oP)) (ha:eZ (fun k=>k < W.heap.size) W dV vals []) :
  Calls P f vals.toArray W fun e W'=>e = .returned (.bool b) ∧ Old W W':=by
 refine (j6 f dV _ _ h (fun k=>k < W.heap.size) W vals [] ha ajC (by simp) (fun _ h=>h)).mono fun e w' ⟨bg,sw,b1,b2,he,hp⟩=>?_
 refine ⟨?_,hp.kp.1,hp.kp.2,hp.big,fun k hk=>hp.ext k hk (by simp)⟩
 match sw,hp.rs with
 | [v],⟨c1,c2,h1,h2,h3⟩=>rw [he,show v = .bool b from h1.1];rfl
def Gt (P:Program) {α:Type} (T:TypeId) (f:α → List FV) (G:α → Prop):Prop :=
 ∀ {H:Type} (enc:TypeId × Value → H) (w:World) (spare:Nat → Bool) (held:Bool) (fuel:Nat) (cs:List Value) (x:DataW H × List MemPlace),
  DataW.trod enc P w 0 spare held fuel T cs = some x → (∀ n ∈ x.1.weights P T,n ≤ reachBytes) → ∃ a:α,bX (fun k=>k < w.heap.size) w (f a) cs ∧ G a
section
variable {P : Program}
theorem nZ {k:IntKind} {T:TypeId} (h:P.underlying T = some (.int k)):Gt P T (fun n=>[FV.int k n]) (fun n=>(Lit.int k n).wf = true):=by
 intro H enc w spare held fuel cs x hx _
 obtain ⟨n,rfl,rfl,hw⟩:=DataW.trod_int h hx
 exact ⟨n,⟨by simp only [eO],trivial⟩,hw⟩
theorem IE {T:TypeId} (h:P.underlying T = some .string):Gt P T (fun s=>[FV.str s]) (fun s=>s.size ≤ 140737488351232):=by
 intro H enc w spare held fuel cs x hx hz
 obtain ⟨s,rfl,rfl,hw⟩:=DataW.trod_string h hx
 refine ⟨s,⟨by simp only [eO],trivial⟩,?_⟩
 have:=hz s.data.toList.length (by simp [DataW.weights])
 rw [Array.length_toList] at this
 exact this
theorem nH {H:Type} {e:TypeId}:∀ {ds:List (DataW H)} {i:Nat} {d:DataW H},ds[i]? = some d → ∀ n ∈ d.weights P e,n ∈ DataW.weightsAll P e ds
 | [],i,d,h,_,_=>by simp at h
 | d0 :: ds,0,d,h,n,hn=>by
  simp at h;subst h
  exact air.mpr (.inl hn)
 | d0 :: ds,i + 1,d,h,n,hn=>by
  simp at h
  exact air.mpr (.inr (nH h n hn))
theorem vL {H:Type} {ts:List TypeId} {ds:List (DataW H)} (h:(DataW.weightsEach P ts ds).all (· ≤ reachBytes) = true) {j:Nat} {t:TypeId} {d:DataW H} (ht:ts[j]? = some t) (hd:ds[j]? = some d) :
  ∀ n ∈ d.weights P t,n ≤ reachBytes:=fun n hn=>by
 have:=aib.1 h n (DataW.weights_mem_each ht hd n hn)
 simpa using this
theorem tX {α:Type} {Q:Nat → α → Prop}:∀ n,(∀ i,i < n → ∃ y,Q i y) → ∃ ys:List α,ys.length = n ∧ ∀ i y,ys[i]? = some y → Q i y
 | 0,_=>⟨[],rfl,by simp⟩
 | n + 1,h=>by
  obtain ⟨ys,hl,hq⟩:=tX n (fun i hi=>h i (by omega))
  obtain ⟨y,hy⟩:=h n (by omega)
  refine ⟨ys ++ [y],by simp [hl],fun i z hz=>?_⟩
  by_cases hi:i < n
  ·rw [ajp (by omega)] at hz
   exact hq i z hz
  ·have hlt:=(aiO.1 hz).1
   simp only [ah7,List.length_singleton] at hlt
   obtain rfl:i = n:=by omega
   rw [ajG (by omega),hl,Nat.sub_self] at hz
   simp at hz
   subst hz
   exact hy
theorem AP {Fz:Nat → Prop} {w:World} {b:Nat}:∀ (xs:List FV) (cs:List Value) (o:Nat),bX Fz w xs cs → (∀ i u,cs[i]? = some u → w.cell? ⟨b,o + i,none⟩ = some u) → dS Fz w b o xs
 | [],_,_,_,_=>by simp only [dS]
 | x :: xs,[],_,h,_=>h.elim
 | x :: xs,c :: cs,o,h,hc=>by
  simp only [dS]
  exact ⟨⟨c,hc 0 c rfl,h.1⟩,AP xs cs (o + 1) h.2 fun i u hi=>by rw [show o + 1 + i = o + (i + 1) from by omega];exact hc (i + 1) u hi⟩
theorem yQ {Fz:Nat → Prop} {w:World} {sz b:Nat} {α:Type} {f:α → List FV} (hf:∀ a,(f a).length = sz):∀ (l:List α) (o:Nat),(∀ i y,l[i]? = some y → dS Fz w b (o + i * sz) (f y)) → cO Fz w sz b o (l.map f)
 | [],_,_=>by simp only [ail,cO]
 | y :: l,o,h=>by
  simp only [ah8,cO]
  refine ⟨hf y,by simpa using h 0 y rfl,yQ hf l (o + sz) fun i z hz=>?_⟩
  rw [show o + sz + i * sz = o + (i + 1) * sz from by rw [Nat.add_mul];omega]
  exact h (i + 1) z hz
theorem J4 (a:Addr) (x y:Nat):(a.add x).add y = a.add (x + y):=by
 unfold Addr.add
 by_cases hx:x = 0
 ·subst hx;simp
 ·by_cases hy:y = 0
  ·subst hy;simp [hx]
  ·simp [hx,hy,Nat.add_assoc]
theorem yR {w:World} {a:Addr} {u:Value} (h:w.cell? a = some u):a = ⟨a.block,a.off,none⟩ ∧ a.block < w.heap.size:=by
 unfold World.cell? at h
 split at h
 ·rename_i c _ _ hb
  split at h
  ·cases h
  ·rename_i hs
   obtain ⟨b,o,s⟩:=a
   cases s with
   | none=>exact ⟨rfl,by have:=(ai5.mp hb).1;exact this⟩
   | some s=>simp at hs
 ·cases h
theorem AQ {α:Type} {f:α → List FV} {T e:TypeId} {G:α → Prop} (sz:Nat) (h:P.underlying T = some (.slice e)) (hc:P.cellsOf e = sz) (h0:0 < sz) (hf:∀ a,(f a).length = sz) (hby:decide (1 ≤ P.bytesOf e) = true) (hd:Gt P e f G) :
  Gt P T (fun l:List α=>[FV.sl (l.map f)]) (fun l=>l.length ≤ 140737488351232 ∧ ∀ x ∈ l,G x):=by
 intro H enc w spare held fuel cs x hx hz
 rcases DataW.trod_slice h hx with ⟨rfl,rfl⟩ | ⟨a,len,cap,elems,rest,n,_,rfl,rfl,hb,hl,hm,hlen,hel,_,_⟩
 ·refine ⟨[],⟨?_,trivial⟩,by simp⟩
  simp only [eO]
  exact ⟨none,0,rfl,ah1 _,by simp,.inl rfl⟩
 ·have hw:∀ m ∈ (elems.length + rest.length) * P.bytesOf e :: (DataW.weightsAll P e (elems.map (·.1)) ++ DataW.weightsAll P e (rest.map (·.1))),m ≤ reachBytes:=by
   intro m hm'
   refine hz m ?_
   simp only [DataW.weights,h,ahZ]
   exact hm'
  obtain ⟨ys,hyl,hys⟩:=tX (α:=α) (Q:=fun i y=>∃ c,w.cells? 0 (a.add (i * P.cellsOf e)) (P.cellsOf e) = some c ∧ bX (fun k=>k < w.heap.size) w (f y) c ∧ G y) len (fun i hi=>by
   have h1:=hel i hi
   rw [aic (by omega),Option.bind_eq_some_iff] at h1
   obtain ⟨c,hc1,hc2⟩:=h1
   obtain ⟨y,hy,hg⟩:=hd enc w spare held n c _ hc2 (fun m hm'=>by
    refine hw m (aiQ _ (air.mpr (.inl ?_)))
    exact nH (i:=i) (d:=(elems[i]'(by omega)).1) (by rw [ah3,aic (by omega)];rfl) m hm')
   exact ⟨y,c,hc1,hy,hg⟩)
  have hlen1:(elems.length + rest.length) * P.bytesOf e ≤ reachBytes:=hw _ (by simp)
  have hlm:cap ≤ 9223372036854775807:=by unfold maxLen at hm;omega
  refine ⟨ys,⟨?_,trivial⟩,?_,?_⟩
  ·simp only [eO,ahZ]
   refine ⟨some a,cap,by rw [hyl],by omega,by omega,?_⟩
   cases hy0:ys with
   | nil=>exact .inl rfl
   | cons y0 ys0 =>
    right
    obtain ⟨c0,k0,_,_⟩:=hys 0 y0 (by rw [hy0];rfl)
    rw [hc] at k0
    obtain ⟨_,kl,kc⟩:=World.cells?_some k0
    have k1:=kc 0 h0
    rw [aic (by omega)] at k1
    obtain ⟨ea,eb⟩:=yR k1
    have ea0:(a.add (0 * sz)).add 0 = a:=by simp [Addr.add]
    rw [ea0] at ea eb
    refine ⟨a.block,a.off,sz,aio some ea,eb,?_⟩
    rw [← hy0]
    refine yQ hf ys a.off fun i y hi=>?_
    obtain ⟨c,hc1,hk,_⟩:=hys i y hi
    rw [hc] at hc1
    obtain ⟨_,hcl,hcc⟩:=World.cells?_some hc1
    refine AP _ c _ hk fun j u hj=>?_
    have hj':j < sz:=by have:=(aiO.1 hj).1;omega
    have:=hcc j hj'
    rw [J4,hj] at this
    obtain ⟨e1,_⟩:=yR this
    rw [e1] at this
    have e2:a.add (i * sz + j) = ⟨a.block,a.off + i * sz + j,none⟩:=by
     rw [ea];unfold Addr.add;split
     ·rename_i hz;congr 1;simp only;omega
     ·congr 1;simp only;omega
    rw [e2] at this
    exact this
  ·rw [hyl,← hlen]
   have h1:elems.length * P.bytesOf e ≤ (elems.length + rest.length) * P.bytesOf e:=ajv _ (by omega)
   have h2:reachBytes = 140737488351232:=rfl
   have h3:elems.length * 1 ≤ elems.length * P.bytesOf e:=Nat.mul_le_mul_left _ (aiB hby)
   omega
  ·intro y hy
   obtain ⟨i,hi,rfl⟩:=List.mem_iff_getElem.1 hy
   obtain ⟨_,_,_,hg⟩:=hys i _ (aic hi)
   exact hg
def R3 (P:Program) {α:Type} (sz:Nat) (f:α → List FV) (fs:List (TypeId × Nat)) (off:Nat) (G:α → Prop):Prop :=
 ∀ {H:Type} (enc:TypeId × Value → H) (w:World) (spare:Nat → Bool) (held:Bool) (n:Nat) (cs:List Value) (xs:List (DataW H × List MemPlace)),
  (∀ (i:Nat) (f:TypeId × Nat),fs[i]? = some f → DataW.trod enc P w 0 spare held n f.1 ((cs.drop f.2).take (P.cellsOf f.1)) = xs[i]?) → xs.length = fs.length →
  (∀ (i:Nat) (x:DataW H × List MemPlace) (f:TypeId × Nat),xs[i]? = some x → fs[i]? = some f → ∀ m ∈ x.1.weights P f.1,m ≤ reachBytes) → cs.length = off + sz → ∃ a,bX (fun k=>k < w.heap.size) w (f a) (cs.drop off) ∧ G a
theorem qx {α:Type} {sz:Nat} {f:α → List FV} {t:TypeId} {off:Nat} {G:α → Prop} (hd:Gt P t f G) (hc:P.cellsOf t = sz):R3 P sz f [(t,off)] off G:=by
 intro H enc w spare held n cs xs hf hl hw hn
 match xs,hl with
 | [y],_ =>
  have h1:=hf 0 _ rfl
  have h2:(cs.drop off).take (P.cellsOf t) = cs.drop off:=ajB (by rw [aiv];omega)
  rw [h2] at h1
  exact hd enc w spare held n _ y h1 (hw 0 y _ rfl rfl)
theorem AU {Fz:Nat → Prop} {w:World}:∀ {xs ys:List FV} {cs ds:List Value},bX Fz w xs cs → bX Fz w ys ds → bX Fz w (xs ++ ys) (cs ++ ds)
 | [],_,[],_,_,h=>h
 | [],_,_ :: _,_,h,_=>h.elim
 | _ :: _,_,[],_,h,_=>h.elim
 | x :: xs,ys,c :: cs,ds,h,k=>⟨h.1,AU h.2 k⟩
theorem iO {α β:Type} {sz sz':Nat} {f:α → List FV} {g:β → List FV} {t:TypeId} {fs:List (TypeId × Nat)} {off:Nat} {G:α → Prop} {G':β → Prop} (hd:Gt P t f G) (hc:P.cellsOf t = sz)
  (hr:R3 P sz' g fs (off + sz) G'):R3 P (sz + sz') (fun p:α × β=>f p.1 ++ g p.2) ((t,off) :: fs) off (fun p=>G p.1 ∧ G' p.2):=by
 intro H enc w spare held n cs xs hf hl hw hn
 match xs,hl with
 | y :: ys,hl =>
  have h1:=hf 0 _ rfl
  obtain ⟨a,ha,ga⟩:=hd enc w spare held n _ y h1 (hw 0 y _ rfl rfl)
  obtain ⟨b,hb,gb⟩:=hr enc w spare held n cs ys (fun i f hi=>hf (i + 1) f hi) (by simpa using hl) (fun i x f hx hfi=>hw (i + 1) x f hx hfi) (by omega)
  refine ⟨(a,b),?_,ga,gb⟩
  have e:cs.drop off = (cs.drop off).take (P.cellsOf t) ++ cs.drop (off + sz):=by rw [← List.drop_drop,hc,aju]
  rw [e]
  exact AU ha hb
theorem oh {α:Type} {sz:Nat} {f:α → List FV} {T:TypeId} {fs:Array Field} {G:α → Prop} (h:P.underlying T = some (.struct fs)) (hc:P.cellsOf T = sz)
  (hd:R3 P sz f (fs.toList.map fun f=>(f.type,f.offset)) 0 G):Gt P T f G:=by
 intro H enc w spare held fuel cs x hx hz
 obtain ⟨xs,n,_,rfl,hl,hlen,hf⟩:=DataW.trod_struct h hx
 have hd':=hd enc w spare held n cs xs ?_ (by rw [ahZ,Array.length_toList];exact hlen) ?_ (by rw [aip,← hc];exact hl)
 ·obtain ⟨a,ha,ga⟩:=hd'
  exact ⟨a,by simpa using ha,ga⟩
 ·intro i f hi
  rw [ah3,ajy] at hi
  obtain ⟨f',hf',rfl⟩:=hi
  exact hf i f' (by rw [← ai7];exact hf')
 ·intro i x f hxi hfi m hm
  refine hz m ?_
  simp only [DataW.weights,h]
  refine DataW.weights_mem_each (j:=i) (t:=f.1) (d:=x.1) ?_ ?_ m hm
  ·rw [ah3] at hfi ⊢
   rw [ajy] at hfi ⊢
   obtain ⟨f',hf',rfl⟩:=hfi
   exact ⟨f',hf',rfl⟩
  ·rw [ah3,hxi];rfl
theorem tY {α β:Type} {T:TypeId} {f:α → List FV} {f':β → List FV} {G:α → Prop} {G':β → Prop} (g:α → β) (hg:∀ a,f' (g a) = f a) (hG:∀ a,G a → G' (g a)) (hd:Gt P T f G):Gt P T f' G':=by
 intro H enc w spare held fuel cs x hx hz
 obtain ⟨a,ha,ga⟩:=hd enc w spare held fuel cs x hx hz
 exact ⟨g a,by rw [hg];exact ha,hG a ga⟩
theorem pK {w:World} {r:Reach} {base:Nat} {t:TypeId} {fs:Array Field} {v:Value} (ht:P.underlying t = some (.struct fs)) (h:Value.okWide P w r base t v):∃ cs,v = .agg cs:=by
 simp only [Value.okWide,ht] at h
 obtain ⟨cs,h1,_⟩:=h
 exact ⟨cs,h1⟩
theorem EO {Fz:Nat → Prop} {w:World}:∀ {xs:List FV} {cs:List Value},bX Fz w xs cs → j5 Fz w (xs.map .f) cs []
 | [],[],_=>rfl
 | [],_ :: _,h=>h.elim
 | _ :: _,[],h=>h.elim
 | x :: xs,c :: cs,h=>⟨[],[],⟨h.1,rfl⟩,EO h.2,rfl⟩
theorem EP {Fz:Nat → Prop} {w:World} {xs:List FV} {cs:Array Value} (h:bX Fz w xs cs.toList):ou Fz w (.agg (xs.map .f)) (.agg cs) []:=⟨cs,rfl,EO h⟩
theorem yS {Fz:Nat → Prop} {w:World} {x:AV} {v:Value} {xs:List AV} {vs:List Value} (h:ou Fz w x v []) (k:eZ Fz w xs vs []):eZ Fz w (x :: xs) (v :: vs) []:=⟨[],[],h,k,rfl⟩
theorem J5 {Fz:Nat → Prop} {w:World}:eZ Fz w [] [] []:=rfl
end
end
section
open Go
attribute [go_sem ↓] Fu Lj uD Fv Fw
attribute [go_sem] gu
attribute [go_sem ↓] Pp Ll UY
section
variable {α β:Type} {k:α → Prop} {u:Tok k}
@[go_sem ↓] theorem ad3 {c:Prop} [Decidable c] {a b:Option α}:W k u (if c then a else b) ↔ (c → W k u a) ∧ (¬ c → W k u b):=YZ
end
def I9 : CV → Option (Nat × Nat)
 | .one (.ptr k o)=>some (k,o)
 | _=>none
def qB : CV → Option ByteArray
 | .one (.f (.str s))=>some s
 | _=>none
def Lp : CV → Option (List PL)
 | .agg l=>some l
 | _=>none
def UZ : PV → Option (List CV)
 | .tZ l=>some l
 | _=>none
@[go_sem] theorem Y1 {l:List CV}:UZ (.tZ l) = some l:=rfl
def fav (off:Nat):CV → Option CV
 | .one (.ptr key o)=>some (.one (.ptr key (o + off)))
 | .one (.fp cs)=>some (.one (.fp (cs.drop off)))
 | .one (.rp key z i o)=>some (.one (.rp key z i (o + off)))
 | _=>none
@[go_sem] theorem abz {off k o:Nat}:fav off (.one (.ptr k o)) = some (.one (.ptr k (o + off))):=rfl
@[go_sem] theorem ad4 {off:Nat} {cs:List FV}:fav off (.one (.fp cs)) = some (.one (.fp (cs.drop off))):=rfl
@[go_sem] theorem ad5 {off k z i o:Nat}:fav off (.one (.rp k z i o)) = some (.one (.rp k z i (o + off))):=rfl
def U0 : CV → Option Bool
 | .one .bK=>some true
 | .one (.f (.sl (_ :: _)))=>some false
 | _=>none
@[go_sem] theorem ad6 : U0 (.one .bK) = some true:=rfl
@[go_sem] theorem ad7 {r:List FV} {l:List (List FV)}:U0 (.one (.f (.sl (r :: l)))) = some false:=rfl
section
variable {α : Type}
@[go_sem] theorem get_nil {i:Nat}:get ([]:List (Nat × α)) i = none:=rfl
@[go_sem] theorem Y2 {k:Nat} {v:α} {l:List (Nat × α)} {i:Nat}:get ((k,v) :: l) i = if k = i then some v else get l i:=rfl
@[go_sem] theorem abA {i:Nat}:rem ([]:List (Nat × α)) i = []:=rfl
@[go_sem] theorem Y3 {k:Nat} {v:α} {l:List (Nat × α)} {i:Nat}:rem ((k,v) :: l) i = if k = i then rem l i else (k,v) :: rem l i:=rfl
@[go_sem] theorem abB {i:Nat} {v:α}:put ([]:List (Nat × α)) i v = [(i,v)]:=rfl
@[go_sem] theorem Y4 {k:Nat} {w:α} {l:List (Nat × α)} {i:Nat} {v:α}:put ((k,w) :: l) i v = if k = i then (i,v) :: rem l i else (k,w) :: put l i v:=rfl
def Lr (k:Nat) (r:List (Nat × α)):Option α → List (Nat × α)
 | some v=>(k,v) :: r
 | none=>r
@[go_sem] theorem U1 {k:Nat} {v:α} {r:List (Nat × α)}:Lr k r (some v) = (k,v) :: r:=rfl
@[go_sem] theorem U2 {k:Nat} {r:List (Nat × α)}:Lr k r none = r:=rfl
@[go_sem] theorem Y5 {l:List (Nat × α)}:pick [] l = []:=rfl
@[go_sem] theorem Xi {k:Nat} {ks:List Nat} {l:List (Nat × α)}:pick (k :: ks) l = Lr k (pick ks l) (get l k):=by
 unfold pick
 rw [List.filterMap_cons]
 cases get l k <;> rfl
end
section
variable {Γ : Env} {F d:Nat} {q:Bool} {σ:St}
section
variable {k : Out × St → Prop} {u:Tok k}
@[go_sem ↓] theorem ad8 : W k u (ev Γ F .skip σ) ↔ k (.iK,σ):=by simp only [ev];exact gu
@[go_sem ↓] theorem afX {is:List G} {ks:List Nat}:W k u (ev Γ F (.reg is ks) σ) ↔ W (fun s=>W k ⟨⟩ (some (.iK,⟨pick ks s.tm,s.ob⟩))) ⟨⟩ (vN Γ false is σ):=by simp only [ev,dL,bQ,aZ]
@[go_sem ↓] theorem afY {pre:List (G × List Nat)} {kZ:List Nat} {jA rest:List G} {ks:List Nat}:W k u (ev Γ F (.oH pre kZ jA rest ks) σ) ↔ W (fun s=>W k ⟨⟩ (some (.iK,⟨pick ks s.tm,s.ob⟩))) ⟨⟩ (Xd Γ pre kZ jA rest σ):=by simp only [ev,dL,bQ,aZ]
@[go_sem ↓] theorem Y6 {gs:List G} {ks lS:List Nat} {r:St}:ku Γ gs ks lS σ r [] ↔ True:=ah6
@[go_sem ↓] theorem Xj {gs:List G} {ks lS:List Nat} {r:St} {o:List Nat} {os:List (List Nat)}:ku Γ gs ks lS σ r (o :: os) ↔ W (fun s=>W (fun t=>t = r) ⟨⟩ (some (⟨pick ks s.tm,pick lS s.ob⟩:St))) ⟨⟩ (vN Γ false (o.map fun i=>gs.getD i default) σ) ∧ ku Γ gs ks lS σ r os:=by
 conv=>lhs;unfold ku
 simp only [dL,V,aie,exists_eq_left']
@[go_sem ↓] theorem Y7 {gs:List G} {o:List Nat} {os:List (List Nat)} {ks lS:List Nat}:W k u (ev Γ F (.any gs (o :: os) ks lS) σ) ↔ W (fun s=>W (fun r=>ku Γ gs ks lS σ r os ∧ W k ⟨⟩ (some (.iK,r))) ⟨⟩ (some (⟨pick ks s.tm,pick lS s.ob⟩:St))) ⟨⟩ (vN Γ false (o.map fun i=>gs.getD i default) σ):=by
 simp only [ev,evO,dL,aJ,bF,aZ]
@[go_sem ↓] theorem afZ {a b:CC}:W k u (ev Γ F (.seq a b) σ) ↔ W (fun p=>match p.1 with
  | .iK=>W k ⟨⟩ (ev Γ F b p.2)
  | o=>k (o,p.2)) ⟨⟩ (ev Γ F a σ):=by
 simp only [ev,dL,aJ]
 refine bZ fun p=>?_
 obtain ⟨o,s⟩:=p
 cases o <;> first | rfl | exact aZ
@[go_sem ↓] theorem ad9 {c:dF} {a b:CC}:W k u (ev Γ F (.cond c a b) σ) ↔ W (fun v=>W (fun t=>Br t (fun _=>W k ⟨⟩ (ev Γ F a σ)) (fun _=>W k ⟨⟩ (ev Γ F b σ)) ⟨⟩) ⟨⟩ (bool? v)) ⟨⟩ (val σ c):=by
 simp only [ev,dL,aJ]
 refine bZ fun v=>bZ fun t=>?_
 cases t <;> simp [Br,dL]
@[go_sem ↓] theorem abC {id:Nat} {c:CC}:W k u (ev Γ F (.block id c) σ) ↔ W (fun p=>match p.1 with
  | .ext i=>if i = id then k (.iK,p.2) else k (.ext i,p.2)
  | o=>k (o,p.2)) ⟨⟩ (ev Γ F c σ):=by
 simp only [ev,dL,bQ]
 refine bZ fun p=>?_
 obtain ⟨o,s⟩:=p
 cases o with
 | ext i=>by_cases hi:i = id <;> simp [hi]
 | _=>exact ah6
@[go_sem ↓] theorem jH {keep AX:List Nat} {rws:List (Nat × Nat)} {c:CC}:W k u (ev Γ F (.loop keep AX rws c) σ) ↔ W k u (iter (ev Γ F c) (res keep AX rws) F σ):=by simp only [ev]
@[go_sem ↓] theorem aea {id:Nat}:W k u (ev Γ F (.exit id) σ) ↔ k (.ext id,σ):=by simp only [ev];exact gu
@[go_sem ↓] theorem af0 : W k u (ev Γ F .ret σ) ↔ k (.ret,σ):=by simp only [ev];exact gu
end
section
variable {k : St → Prop} {u:Tok k}
@[go_sem ↓] theorem Xk : W k u (vN Γ q [] σ) ↔ k σ:=gu
@[go_sem ↓] theorem U3 {g:G} {l:List G}:W k u (vN Γ q (g :: l) σ) ↔ W (fun s=>W k ⟨⟩ (vN Γ q l s)) ⟨⟩ (Oq Γ q σ g):=by
 show W k u ((Oq Γ q σ g).bind (vN Γ q l)) ↔ _
 rw [Fu]
@[go_sem ↓] theorem af2 {g:G}:W k u (Oq Γ q σ g) ↔ W (fun p=>W k ⟨⟩ (some (qA p.2 g.dst p.1))) ⟨⟩ (lU Γ q σ g):=by simp only [Oq,dL,bQ,aZ]
def U4 (f:Nat → Option (PV × St)):List Nat → Prop
 | []=>True
 | j :: l=>W (fun _=>True) ⟨⟩ (f j) ∧ U4 f l
theorem G9 {f:Nat → Option (PV × St)}:∀ {l:List Nat},l.all (fun j=>(f j).isSome) = true ↔ U4 f l
 | []=>by simp [U4]
 | j :: l=>by
  rw [List.all_cons,ah5,G9 (l:=l)]
  refine and_congr_left fun _=>?_
  cases h:f j with
  | none=>simp [uD]
  | some y=>simp [gu]
@[go_sem ↓] theorem abD {f:Nat → Option (PV × St)}:U4 f [] ↔ True:=ah6
@[go_sem ↓] theorem Y8 {f:Nat → Option (PV × St)} {j:Nat} {l:List Nat}:U4 f (j :: l) ↔ W (fun _=>True) ⟨⟩ (f j) ∧ U4 f l:=ah6
def wkv : Option CV → List Nat
 | some (.one (.ptr k _))=>[k]
 | _=>[]
@[go_sem] theorem abE {k o:Nat}:wkv (some (.one (.ptr k o))) = [k]:=rfl
@[go_sem] theorem abF {tm:List (Nat × PV)} {dst:Option Nat} {gd:Option (Option Nat × Bool)} {n:Nat} {x y:dF}:rM tm ⟨dst,gd,.store n x y⟩ = wkv (val ⟨tm,[]⟩ x):=by
 show (match val ⟨tm,[]⟩ x with | some (.one (.ptr k _))=>[k] | _=>[]) = _
 cases val ⟨tm,[]⟩ x with
 | none=>rfl
 | some v=>cases v with
  | one y=>cases y <;> rfl
  | agg _=>rfl
@[go_sem ↓] theorem af3 {pre:List (G × List Nat)} {kZ:List Nat} {jA rest:List G}:W k u (Xd Γ pre kZ jA rest σ) ↔ pre.all (fun g=>!jL g.1.i || fresh σ (dw (g.1.dst.getD 999))) = true ∧ W (fun s=>W (fun tm=>U4 (fun j=>lU Γ true ⟨tm,σ.ob.filter (fun p=>!(jA.flatMap (rM tm)).contains p.1)⟩ (pre.getD j default).1) kZ ∧ W (fun ob=>W (fun s=>W k ⟨⟩ (vN Γ false rest s)) ⟨⟩ (some ⟨tm,ob⟩)) ⟨⟩ (Ko Γ tm jA s.ob)) ⟨⟩ (some (pick (s.tm.map (·.1)) s.tm))) ⟨⟩ (OG Γ σ.ob pre σ):=by
 simp only [Xd,dL,aJ,bF,aZ,← G9]
@[go_sem ↓] theorem Xl {qG:List (Nat × Ob)}:W k u (OG Γ qG [] σ) ↔ k σ:=gu
@[go_sem ↓] theorem U5 {qG:List (Nat × Ob)} {g:G} {nk:List Nat} {l:List (G × List Nat)}:W k u (OG Γ qG ((g,nk) :: l) σ) ↔ W (fun p=>nk.any (fun k=>qF k p.1 || (jL g.i && (p.2.ob.take 1).any (fun r=>r.1 == k || lT k r.2))) = false ∧ W (fun s=>W k ⟨⟩ (OG Γ qG l s)) ⟨⟩ (some ⟨rJ g.dst σ.tm p.1,if jL g.i then p.2.ob.take 1 ++ σ.ob else σ.ob⟩)) ⟨⟩ (lU Γ true ⟨σ.tm,qG⟩ g):=by
 conv=>lhs;unfold OG
 simp only [dL,aJ,cZ,aZ,aiY]
end
section
variable {k : List (Nat × Ob) → Prop} {u:Tok k} {tm:List (Nat × PV)} {ob:List (Nat × Ob)}
@[go_sem ↓] theorem Xm : W k u (Ko Γ tm [] ob) ↔ k ob:=gu
@[go_sem ↓] theorem U6 {n:Nat} {x y:dF} {dst:Option Nat} {gd:Option (Option Nat × Bool)} {l:List G}:W k u (Ko Γ tm (⟨dst,gd,.store n x y⟩ :: l) ob) ↔ W (fun v=>W (fun _=>W (fun p=>W k ⟨⟩ (Ko Γ tm l p.2.ob)) ⟨⟩ (bW Γ true ⟨tm,ob⟩ 999 (.store n x y))) ⟨⟩ (I9 v)) ⟨⟩ (val ⟨tm,ob⟩ x):=by
 conv=>lhs;unfold Ko
 simp only
 cases hv:val ⟨tm,ob⟩ x with
 | none=>simp only [uD]
 | some v =>
  rw [gu]
  cases v with
  | one y=>cases y <;> simp only [I9,dL,jc,aZ,aJ]
  | agg xs=>simp only [I9,uD]
end
section
variable {i : Nat}
def vl : Option PV → Option CV
 | some (.c x)=>some x
 | _=>none
@[go_sem] theorem abG {x:CV}:vl (some (.c x)) = some x:=rfl
@[go_sem] theorem Y9 : val σ (.t i) = vl (get σ.tm i):=by simp only [val];cases get σ.tm i with | none=>rfl | some v=>cases v <;> rfl
@[go_sem] theorem af4 {x:CV}:val σ (.k x) = some x:=rfl
@[go_sem] theorem aeb : rF σ (.t i) = get σ.tm i:=rfl
@[go_sem] theorem aec {x:CV}:rF σ (.k x) = some (.c x):=rfl
@[go_sem] theorem Za {k:IntKind} {n:Int}:int? (.one (.f (.int k n))) = some (k,n):=rfl
@[go_sem] theorem U7 {b:Bool}:bool? (.one (.f (.bool b))) = some b:=rfl
@[go_sem] theorem Zb {k o:Nat}:I9 (.one (.ptr k o)) = some (k,o):=rfl
@[go_sem] theorem Zc {s:ByteArray}:qB (.one (.f (.str s))) = some s:=rfl
@[go_sem] theorem Zd {l:List PL}:Lp (.agg l) = some l:=rfl
@[go_sem] theorem cells_one {x:PL}:cells (.one x) = [x]:=rfl
@[go_sem] theorem Xn {xs:List PL}:cells (.agg xs) = xs:=rfl
def oc : Option Ob → Option (List PL)
 | some (.dM xs)=>some xs
 | _=>none
def Ls : Option Ob → Option (Nat × List (List FV))
 | some (.row sz rows)=>some (sz,rows)
 | _=>none
def om : Option Ob → Option (KS × List (KV × FC))
 | some (.map sh ents)=>some (sh,ents)
 | _=>none
@[go_sem] theorem aed {xs:List PL}:oc (some (.dM xs)) = some xs:=rfl
@[go_sem] theorem abH {sz:Nat} {rows:List (List FV)}:Ls (some (.row sz rows)) = some (sz,rows):=rfl
@[go_sem] theorem aee {sh:KS} {ents:List (KV × FC)}:om (some (.map sh ents)) = some (sh,ents):=rfl
def gb (want:Bool):Option PV → Option Bool
 | some (.c (.one (.f (.bool b))))=>some (b == want)
 | some (.c (.one .und))=>some false
 | _=>none
@[go_sem] theorem abI {b:Bool}:gb true (some (.c (.one (.f (.bool b))))) = some b:=by cases b <;> rfl
@[go_sem] theorem Ze {b:Bool}:gb false (some (.c (.one (.f (.bool b))))) = some (!b):=by cases b <;> rfl
@[go_sem] theorem aef {w:Bool}:gb w (some (.c (.one .und))) = some false:=rfl
@[go_sem] theorem Xo {v:PV}:qA σ (some i) v = ⟨put σ.tm i v,σ.ob⟩:=rfl
@[go_sem] theorem Xp {v:PV}:qA σ none v = σ:=rfl
@[go_sem] theorem Xq {tm:List (Nat × PV)} {v:PV}:rJ (some i) tm v = put tm i v:=rfl
@[go_sem] theorem Xr {tm:List (Nat × PV)} {v:PV}:rJ none tm v = tm:=rfl
end
section
variable {α : Type} {n off:Nat} {x:α} {xs ys:List α}
@[go_sem] theorem Zf : seg 0 0 xs = some []:=by simp [seg]
@[go_sem] theorem Zg : seg (n + 1) 0 (x :: xs) = (seg n 0 xs).map (x :: ·):=by
 unfold seg
 simp only [aip,List.length_cons,Nat.add_le_add_iff_right,ai9,List.take_succ_cons]
 split <;> rfl
@[go_sem] theorem Zh : seg n (off + 1) (x :: xs) = seg n off xs:=by
 unfold seg
 simp only [List.length_cons,List.drop_succ_cons]
 by_cases h:off + n ≤ xs.length
 ·rw [ahX h,ahX (by omega)]
 ·rw [ahY h,ahY (by omega)]
@[go_sem] theorem abJ : lay 0 ([]:List α) xs = some xs:=by simp [lay]
@[go_sem] theorem abK {y:α}:lay 0 (y :: ys) (x :: xs) = (lay 0 ys xs).map (y :: ·):=by
 unfold lay
 simp only [aip,List.length_cons,Nat.add_le_add_iff_right,List.take_zero,List.drop_succ_cons,List.nil_append,List.cons_append]
 split <;> rfl
@[go_sem] theorem Zi : lay (off + 1) ys (x :: xs) = (lay off ys xs).map (x :: ·):=by
 unfold lay
 simp only [List.length_cons,List.take_succ_cons]
 rw [show off + 1 + ys.length = off + ys.length + 1 from by omega]
 by_cases h:off + ys.length ≤ xs.length
 ·rw [ahX h,ahX (by omega)];rfl
 ·rw [ahY h,ahY (by omega)];rfl
end
@[go_sem] theorem aeg {xs:List PL}:mk true xs = some (.agg xs):=rfl
@[go_sem] theorem mk_one {x:PL}:mk false [x] = some (.one x):=rfl
def oC (σ:St) (key:Nat):Option (List PL):=oc (get σ.ob key)
def gX (σ:St) (key:Nat):Option (Nat × List (List FV)):=Ls (get σ.ob key)
def nN (σ:St) (key:Nat):Option (KS × List (KV × FC)):=om (get σ.ob key)
attribute [go_sem] oC gX nN Option.map_some Option.map_none Option.bind_some Option.bind_none
def jT (σ:St) (n:Nat):CV → Option (List PL)
 | .one (.ptr key off)=>(oC σ key).bind (seg n off)
 | .one (.fp cs)=>(seg n 0 cs).map (·.map .f)
 | .one (.rp key z i off)=>(gX σ key).bind fun p=>if p.1 ≠ z then none else p.2[i]?.bind fun r=>(seg n off r).map (·.map .f)
 | _=>none
@[go_sem ↓] theorem Si {n key off:Nat}:jT σ n (.one (.ptr key off)) = (oC σ key).bind (seg n off):=rfl
@[go_sem] theorem U8 {n:Nat} {cs:List FV}:jT σ n (.one (.fp cs)) = (seg n 0 cs).map (·.map .f):=rfl
section
variable {k : List PL → Prop} {u:Tok k}
@[go_sem ↓] theorem Sj {n key off:Nat}:W k u (jT σ n (.one (.ptr key off))) ↔ W (fun xs=>W k ⟨⟩ (seg n off xs)) ⟨⟩ (oC σ key):=Fu
@[go_sem ↓] theorem U9 {n:Nat} {cs:List FV}:W k u (jT σ n (.one (.fp cs))) ↔ W (fun l=>k (l.map .f)) ⟨⟩ (seg n 0 cs):=Lj
@[go_sem ↓] theorem Va {n key z i off:Nat}:W k u (jT σ n (.one (.rp key z i off))) ↔ W (fun p=>p.1 = z ∧ W (fun r=>W (fun l=>k (l.map .f)) ⟨⟩ (seg n off r)) ⟨⟩ (p.2[i]?)) ⟨⟩ (gX σ key):=by
 simp only [jT,dL,aJ,bQ,cZ,ne_eq,aiJ]
end
section
variable {k : PV × St → Prop} {u:Tok k} {x y c:dF}
@[go_sem ↓] theorem aeh {dst:Option Nat} {i:I}:W k u (lU Γ q σ ⟨dst,none,i⟩) ↔ W k u (bW Γ q σ (dst.getD 999) i):=ah6
@[go_sem ↓] theorem Xt {dst:Option Nat} {s:Nat} {want:Bool} {i:I}:W k u (lU Γ q σ ⟨dst,some (some s,want),i⟩) ↔ W (fun w=>Br w (fun _=>W k ⟨⟩ (bW Γ q σ (dst.getD 999) i)) (fun _=>k (.c (.one .und),σ)) ⟨⟩) ⟨⟩ (gb want (get σ.tm s)):=by
 have h:y7 σ (some (some s,want)) = gb want (get σ.tm s):=by
  simp only [y7]
  cases get σ.tm s with
  | none=>rfl
  | some v =>
   cases v with
   | tZ l=>rfl
   | c x =>
    cases x with
    | agg l=>rfl
    | one p =>
     cases p with
     | f z=>cases z <;> rfl
     | _=>rfl
 simp only [lU,dL,aJ,h]
 refine bZ fun t=>?_
 cases t <;> simp [aZ,Br,dL]
@[go_sem ↓] theorem ahG : W k u (bW Γ q σ d (.mv x)) ↔ W (fun v=>k (v,σ)) ⟨⟩ (rF σ x):=by simp only [bW];exact Lj
@[go_sem ↓] theorem aei : W k u (bW Γ q σ d (.pick c x y)) ↔ W (fun v=>W (fun t=>Br t (fun _=>W (fun z=>k (.c z,σ)) ⟨⟩ (val σ x)) (fun _=>W (fun z=>k (.c z,σ)) ⟨⟩ (val σ y)) ⟨⟩) ⟨⟩ (bool? v)) ⟨⟩ (val σ c):=by
 simp only [bW,dL,aJ,bQ]
 refine bZ fun v=>bZ fun t=>?_
 cases t <;> simp [Br,dL]
@[go_sem ↓] theorem abL {e:TypeId} {z:List PL}:W k u (bW Γ q σ d (.alloc e z)) ↔ z.any (dR (dw d)) = false ∧ W (fun s=>k (.c (.one (.ptr (dw d) 0)),s)) ⟨⟩ (new σ (dw d) (.dM z)):=by
 simp only [bW,dL,cZ,gq,bQ,aiY]
@[go_sem ↓] theorem af5 {e:TypeId}:W k u (bW Γ q σ d (.box e x)) ↔ W (fun v=>((cells v).any oK || (cells v).any (dR (dw d))) = false ∧ W (fun s=>k (.c (.one (.ptr (dw d) 0)),s)) ⟨⟩ (new σ (dw d) (.dM (cells v)))) ⟨⟩ (val σ x):=by
 simp only [bW,dL,aJ,cZ,gq,bQ,aiY]
@[go_sem ↓] theorem abM {z:List PL} {ps:List (Nat × Nat × dF)}:W k u (bW Γ q σ d (.build z ps)) ↔ W (fun l=>W (fun z=>k (.c (.agg z),σ)) ⟨⟩ (fill z l)) ⟨⟩ (vals σ ps):=by
 simp only [bW,dL,aJ,bQ]
@[go_sem ↓] theorem af6 {e:TypeId} {sz len:Nat} {z:List PL} {ps:List (Nat × Nat × dF)}:W k u (bW Γ q σ d (.wh e sz len z ps)) ↔ W (fun l=>W (fun z=>(q && z.any fP) = false ∧ W (fun p=>W (fun s=>k (.c (.one (.own (dw d) len)),s)) ⟨⟩ (new p.2 (dw d) (.row sz (rowsOf sz len p.1)))) ⟨⟩ (jR σ z)) ⟨⟩ (fill z l)) ⟨⟩ (vals σ ps):=by
 simp only [bW,dL,aJ,cZ,gq,bQ,aiY]
@[go_sem ↓] theorem abN {x:PL}:W k u (CZ (.c (.one x)) σ) ↔ W (fun p=>k (.c (.one (.f p.1)),p.2)) ⟨⟩ (uU σ x):=by simp only [CZ,dL,bQ]
@[go_sem ↓] theorem af7 {e:TypeId} {sz len:Nat} {z:List PL} {ps:List (Nat × Nat × dF)}:W k u (bW Γ q σ d (.Oo e sz len z ps)) ↔ W (fun l=>W (fun z=>(q && z.any fP) = false ∧ W (fun p=>W (fun s=>W k ⟨⟩ (CZ (.c (.one (.own (dw d) len))) s)) ⟨⟩ (new p.2 (dw d) (.row sz (rowsOf sz len p.1)))) ⟨⟩ (jR σ z)) ⟨⟩ (fill z l)) ⟨⟩ (vals σ ps):=by
 simp only [bW,dL,aJ,cZ,gq,bQ,aiY]
@[go_sem ↓] theorem aej {n:Nat} {agg:Bool}:W k u (bW Γ q σ d (.load n agg x)) ↔ W (fun v=>W (fun l=>W (fun z=>k (.c z,σ)) ⟨⟩ (mk agg l)) ⟨⟩ (jT σ n v)) ⟨⟩ (val σ x):=by
 have h:bW Γ q σ d (.load n agg x) = (val σ x).bind fun v=>(jT σ n v).bind fun l=>(mk agg l).map fun z=>(.c z,σ):=by
  simp only [bW]
  congr 1
  funext v
  cases v with
  | agg l=>rfl
  | one p =>
   cases p with
   | ptr key off=>simp only [jT,oC];cases get σ.ob key with | none=>rfl | some o=>cases o <;> rfl
   | fp cs=>simp only [jT];cases seg n 0 cs <;> rfl
   | rp key z i off =>
    simp only [jT,gX]
    cases get σ.ob key with
    | none=>rfl
    | some o =>
     cases o with
     | row sz rows =>
      simp only [Ls,Option.bind_some]
      split
      ·rfl
      ·cases rows[i]? with
       | none=>rfl
       | some r=>simp only [Option.bind_some];cases seg n off r <;> rfl
     | _=>rfl
   | _=>rfl
 rw [h]
 simp only [dL,aJ,bQ]
def DT (q:Bool) (σ:St) (ys:List PL):CV → Option St
 | .one (.ptr key off)=>(oC σ key).bind fun xs=>(lay off ys xs).map fun l=>iY σ key (.dM l)
 | .one (.rp key z i off)=>if q && ys.any fP then none else (jR σ ys).bind fun p=>(gX p.2 key).bind fun o=>if o.1 ≠ z then none else o.2[i]?.bind fun r=>(lay off p.1 r).map fun l=>iY p.2 key (.row o.1 (o.2.set i l))
 | _=>none
@[go_sem ↓] theorem abO {n:Nat}:W k u (bW Γ q σ d (.store n x y)) ↔ W (fun v=>W (fun z=>((cells z).length = n ∧ (cells z).any oK = false) ∧ W (fun s=>k (.c (.one .und),s)) ⟨⟩ (DT q σ (cells z) v)) ⟨⟩ (val σ y)) ⟨⟩ (val σ x):=by
 have h:bW Γ q σ d (.store n x y) = (val σ x).bind fun v=>(val σ y).bind fun z=>if (cells z).length = n ∧ (cells z).any oK = false then (DT q σ (cells z) v).map fun s=>(.c (.one .und),s) else none:=by
  simp only [bW]
  congr 1
  funext v
  congr 1
  funext z
  split
  ·cases v with
   | agg l=>rfl
   | one p =>
    cases p with
    | ptr key off =>
     simp only [DT,oC]
     cases get σ.ob key with
     | none=>rfl
     | some o=>cases o <;> first | rfl | (simp only [oc,Option.bind_some,Option.map_map];rfl)
    | rp key zz i off =>
     simp only [DT,gX]
     split
     ·rfl
     ·cases jR σ (cells z) with
      | none=>rfl
      | some p =>
       simp only [Option.bind_some]
       cases get p.2.ob key with
       | none=>rfl
       | some o =>
        cases o with
        | row sz rows =>
         simp only [Ls,Option.bind_some]
         split
         ·rfl
         ·cases rows[i]? with
          | none=>rfl
          | some r=>simp only [Option.bind_some,Option.map_map];rfl
        | _=>rfl
    | _=>rfl
  ·rfl
 rw [h]
 simp only [dL,aJ,bF,bQ]
end
section
variable {k : St → Prop} {u:Tok k}
@[go_sem ↓] theorem Vb {ys:List PL} {key off:Nat}:W k u (DT q σ ys (.one (.ptr key off))) ↔ W (fun xs=>W (fun l=>k (iY σ key (.dM l))) ⟨⟩ (lay off ys xs)) ⟨⟩ (oC σ key):=by
 simp only [DT,dL,aJ,bQ]
@[go_sem ↓] theorem Xu {ys:List PL} {key z i off:Nat}:W k u (DT q σ ys (.one (.rp key z i off))) ↔ (q && ys.any fP) = false ∧ W (fun p=>W (fun o=>o.1 = z ∧ W (fun r=>W (fun l=>k (iY p.2 key (.row o.1 (o.2.set i l)))) ⟨⟩ (lay off p.1 r)) ⟨⟩ (o.2[i]?)) ⟨⟩ (gX p.2 key)) ⟨⟩ (jR σ ys):=by
 simp only [DT,dL,cZ,aJ,bQ,ne_eq,aiJ,aiY]
end
end
end
section
open Go
section
variable {Γ : Env} {F d:Nat} {q:Bool} {σ:St} {k:PV × St → Prop} {u:Tok k} {x y z:dF}
def Pq : CV → Option CV
 | .one (.ptr k o)=>some (.one (.ptr k o))
 | .one (.fp cs)=>some (.one (.fp cs))
 | .one (.rp k z i o)=>some (.one (.rp k z i o))
 | _=>none
@[go_sem] theorem Zj {k o:Nat}:Pq (.one (.ptr k o)) = some (.one (.ptr k o)):=rfl
@[go_sem] theorem abP {cs:List FV}:Pq (.one (.fp cs)) = some (.one (.fp cs)):=rfl
@[go_sem] theorem abQ {k z i o:Nat}:Pq (.one (.rp k z i o)) = some (.one (.rp k z i o)):=rfl
@[go_sem ↓] theorem aek : W k u (bW Γ q σ d (.gH x)) ↔ W (fun v=>W (fun w=>k (.c w,σ)) ⟨⟩ (Pq v)) ⟨⟩ (val σ x):=by
 simp only [bW,dL,aJ]
 refine bZ fun v=>?_
 cases v with
 | agg l=>exact bT
 | one p=>cases p <;> first | exact bT | exact kS ah6
def Zk : CV → Option Bool
 | .one .iw=>some true
 | .one (.ptr _ _)=>some false
 | .one (.fp _)=>some false
 | .one (.rp _ _ _ _)=>some false
 | _=>none
@[go_sem] theorem abR : Zk (.one .iw) = some true:=rfl
@[go_sem] theorem abS {k o:Nat}:Zk (.one (.ptr k o)) = some false:=rfl
@[go_sem] theorem ael {cs:List FV}:Zk (.one (.fp cs)) = some false:=rfl
@[go_sem] theorem aem {k z i o:Nat}:Zk (.one (.rp k z i o)) = some false:=rfl
@[go_sem ↓] theorem aen {neg:Bool}:W k u (bW Γ q σ d (.wF neg x)) ↔ W (fun v=>W (fun b=>k (.c (.one (.f (.bool (if neg then !b else b)))),σ)) ⟨⟩ (Zk v)) ⟨⟩ (val σ x):=by
 simp only [bW,dL,aJ]
 refine bZ fun v=>?_
 cases v with
 | agg l=>exact bT
 | one p=>cases p <;> first | exact bT | (cases neg <;> exact kS ah6)
@[go_sem ↓] theorem ahH {off:Nat}:W k u (bW Γ q σ d (.fa off x)) ↔ W (fun v=>W (fun w=>k (.c w,σ)) ⟨⟩ (fav off v)) ⟨⟩ (val σ x):=by
 simp only [bW,dL,aJ]
 refine bZ fun v=>?_
 cases v with
 | agg l=>exact bT
 | one p=>cases p <;> first | exact bT | exact kS ah6
@[go_sem ↓] theorem ahI {o:Ar}:W k u (bW Γ q σ d (.ar o x y)) ↔ W (fun a=>W (fun b=>W (fun a=>W (fun b=>a.1 = b.1 ∧ W (fun n=>k (.c (.one (.f (.int a.1 n))),σ)) ⟨⟩ (J6 o a.1 a.2 b.2)) ⟨⟩ (int? b)) ⟨⟩ (int? a)) ⟨⟩ (val σ y)) ⟨⟩ (val σ x):=by
 simp only [bW,dL,aJ,bF,one,aZ]
@[go_sem ↓] theorem af8 {o:WY}:W k u (bW Γ q σ d (.cmp o x y)) ↔ W (fun a=>W (fun b=>W (fun a=>W (fun b=>a.1 = b.1 ∧ k (.c (.one (.f (.bool (wL o a.2 b.2)))),σ)) ⟨⟩ (int? b)) ⟨⟩ (int? a)) ⟨⟩ (val σ y)) ⟨⟩ (val σ x):=by
 simp only [bW,dL,aJ,bF,one,aZ]
@[go_sem] theorem abT {k:IntKind} {a b:Int}:J6 .add k a b = some (k.wrap (a + b)):=rfl
@[go_sem] theorem abU {k:IntKind} {a b:Int}:J6 .sub k a b = some (k.wrap (a - b)):=rfl
@[go_sem] theorem abV {k:IntKind} {a b:Int}:J6 .mul k a b = some (k.wrap (a * b)):=rfl
section
variable {k : Int → Prop} {u:Tok k} {kk:IntKind} {a b:Int}
@[go_sem ↓] theorem af9 : W k u (J6 .quo kk a b) ↔ ¬ b = 0 ∧ k (kk.wrap (a.tdiv b)):=by simp only [J6,dL,cZ,aZ]
@[go_sem ↓] theorem aga : W k u (J6 .rem kk a b) ↔ ¬ b = 0 ∧ k (a.tmod b):=by simp only [J6,dL,cZ,aZ]
end
section
variable {a b:Int}
@[go_sem] theorem abW : wL .eq a b = decide (a = b):=rfl
@[go_sem] theorem abX : wL .ne a b = !decide (a = b):=rfl
@[go_sem] theorem abY : wL .lt a b = decide (a < b):=rfl
@[go_sem] theorem abZ : wL .le a b = decide (a ≤ b):=rfl
@[go_sem] theorem ab0 : wL .gt a b = decide (b < a):=rfl
@[go_sem] theorem ab1 : wL .ge a b = decide (b ≤ a):=rfl
end
@[go_sem ↓] theorem agb {sh:KS} {neg:Bool}:W k u (bW Γ q σ d (.oG sh neg x y)) ↔ W (fun a=>W (fun b=>W (fun a=>W (fun b=>(a.ks = sh ∧ b.ks = sh) ∧ k (.c (.one (.f (.bool (if neg then !decide (a = b) else decide (a = b))))),σ)) ⟨⟩ (keyOf b)) ⟨⟩ (keyOf a)) ⟨⟩ (val σ y)) ⟨⟩ (val σ x):=by
 simp only [bW,dL,aJ,bF,one,aZ]
@[go_sem ↓] theorem agc : W k u (bW Γ q σ d (.cat x y)) ↔ W (fun a=>W (fun b=>W (fun a=>W (fun b=>a.size + b.size ≤ 9223372036854775807 ∧ k (.c (.one (.f (.str (a ++ b)))),σ)) ⟨⟩ (qB b)) ⟨⟩ (qB a)) ⟨⟩ (val σ y)) ⟨⟩ (val σ x):=by
 simp only [bW,dL,aJ]
 refine bZ fun v=>bZ fun w=>?_
 have no:V k none ↔ False:=jc
 have nb:∀ {g:ByteArray → Prop},V g none ↔ False:=jc
 have nn:∀ {x:Option ByteArray},V (fun _:ByteArray=>False) x ↔ False:=by intro x;cases x <;> simp [V]
 cases v with
 | agg l=>simp only [qB,no,nb]
 | one p =>
  cases p with
  | f a =>
   cases a with
   | str s =>
    cases w with
    | agg l=>simp only [qB,no,nb,aZ]
    | one p =>
     cases p with
     | f b =>
      cases b with
      | str t=>simp only [qB,aZ,bF,one]
      | _=>simp only [qB,no,nb,aZ]
     | _=>simp only [qB,no,nb,aZ]
   | _=>simp only [qB,no,nb]
  | _=>simp only [qB,no,nb]
@[go_sem ↓] theorem ahJ : W k u (bW Γ q σ d (.no x)) ↔ W (fun v=>W (fun b=>k (.c (.one (.f (.bool (!b)))),σ)) ⟨⟩ (bool? v)) ⟨⟩ (val σ x):=by
 simp only [bW,dL,aJ,one,aZ]
@[go_sem ↓] theorem ahK {kk:IntKind}:W k u (bW Γ q σ d (.ci kk x)) ↔ W (fun v=>W (fun a=>k (.c (.one (.f (.int kk (kk.wrap a.2)))),σ)) ⟨⟩ (int? v)) ⟨⟩ (val σ x):=by
 simp only [bW,dL,aJ,one,aZ]
@[go_sem ↓] theorem agd : W k u (bW Γ q σ d (.mq x)) ↔ W (fun v=>W (fun s=>k (.c (.one (.f (.str s))),σ)) ⟨⟩ (qB v)) ⟨⟩ (val σ x):=by
 simp only [bW,dL,aJ]
 refine bZ fun v=>?_
 cases v with
 | agg l=>exact bT
 | one p=>cases p with
  | f a=>cases a <;> first | exact bT | exact kS ah6
  | _=>exact bT
@[go_sem ↓] theorem ab2 {sh:KS}:W k u (bW Γ q σ d (.oJ sh)) ↔ W (fun s=>k (.c (.one (.mp (dw d))),s)) ⟨⟩ (new σ (dw d) (.map sh [])):=by
 simp only [bW,gq,dL,bQ]
@[go_sem ↓] theorem ahL : W k u (bW Γ q σ d (.mn x y)) ↔ W (fun a=>W (fun b=>W (fun a=>W (fun b=>a.1 = b.1 ∧ k (.c (.one (.f (.int a.1 (if b.2 < a.2 then b.2 else a.2)))),σ)) ⟨⟩ (int? b)) ⟨⟩ (int? a)) ⟨⟩ (val σ y)) ⟨⟩ (val σ x):=by
 simp only [bW,dL,aJ,bF,one,aZ]
@[go_sem ↓] theorem ahM : W k u (bW Γ q σ d (.mx x y)) ↔ W (fun a=>W (fun b=>W (fun a=>W (fun b=>a.1 = b.1 ∧ k (.c (.one (.f (.int a.1 (if a.2 < b.2 then b.2 else a.2)))),σ)) ⟨⟩ (int? b)) ⟨⟩ (int? a)) ⟨⟩ (val σ y)) ⟨⟩ (val σ x):=by
 simp only [bW,dL,aJ,bF,one,aZ]
@[go_sem ↓] theorem agf {o:BinOp}:W k u (bW Γ q σ d (.bit o x y)) ↔ W (fun a=>W (fun b=>W (fun a=>W (fun b=>a.1 = b.1 ∧ k (.c (.one (.f (.int a.1 (Go.bits o a.1 a.2 b.2)))),σ)) ⟨⟩ (int? b)) ⟨⟩ (int? a)) ⟨⟩ (val σ y)) ⟨⟩ (val σ x):=by
 simp only [bW,dL,aJ,bF,one,aZ]
@[go_sem ↓] theorem agh {l:Bool}:W k u (bW Γ q σ d (.Ub l x y)) ↔ W (fun a=>W (fun b=>W (fun a=>W (fun b=>0 ≤ b.2 ∧ k (.c (.one (.f (.int a.1 (if l then a.1.wrap (a.2 * 2 ^ (min b.2.toNat a.1.bits)) else a.2.fdiv (2 ^ (min b.2.toNat a.1.bits)))))),σ)) ⟨⟩ (int? b)) ⟨⟩ (int? a)) ⟨⟩ (val σ y)) ⟨⟩ (val σ x):=by
 simp only [bW,dL,aJ,bF,one,aZ]
@[go_sem ↓] theorem aeo {lo hi:Option dF}:W k u (bW Γ q σ d (.IG x lo hi)) ↔ W (fun v=>W (fun s=>W (fun p=>k (.c (.one (.f (.str (s.extract p.1 p.2)))),σ)) ⟨⟩ (rng s.size σ lo hi)) ⟨⟩ (qB v)) ⟨⟩ (val σ x):=by
 simp only [bW,dL,aJ]
 refine bZ fun v=>?_
 cases v with
 | agg l=>exact bT
 | one p=>cases p with
  | f a =>
   cases a with
   | str s=>simp only [qB,aZ,aJ,one]
   | _=>exact bT
  | _=>exact bT
section
variable {k : Nat × Nat → Prop} {u:Tok k} {len:Nat} {lo hi:Option dF}
@[go_sem ↓] theorem agi : W k u (rng len σ lo hi) ↔ W (fun h=>W (fun l=>k (l,h)) ⟨⟩ (bnd σ h lo 0)) ⟨⟩ (bnd σ len hi len):=by
 simp only [rng,dL,aJ,bQ]
end
section
variable {k : Nat → Prop} {u:Tok k} {len dd:Nat}
@[go_sem ↓] theorem Vd : W k u (bnd σ len none dd) ↔ k dd:=gu
@[go_sem ↓] theorem Ve : W k u (bnd σ len (some x) dd) ↔ W (fun v=>W (fun p=>(0 ≤ p.2 ∧ p.2 ≤ (len:Int)) ∧ k p.2.toNat) ⟨⟩ (int? v)) ⟨⟩ (val σ x):=by
 simp only [bnd,dL,aJ,bF,aZ]
end
def DU (q:Bool) (σ:St) (sz:Nat) (lo hi:Option dF):CV → Option (PV × St)
 | .one (.f (.sl rows))=>if rows.all (fun r=>r.length == sz) = false then none else (rng rows.length σ lo hi).bind fun p=>one (.sl ((rows.drop p.1).take (p.2 - p.1))) σ
 | .one .bK=>(rng 0 σ lo hi).bind fun p=>one (.sl []) σ
 | .one (.own key _)=>(gX σ key).bind fun o=>if o.1 ≠ sz then none else (rng o.2.length σ lo hi).bind fun p=>if q then none else (yT σ key).bind fun s=>one (.sl ((o.2.drop p.1).take (p.2 - p.1))) s
 | _=>none
@[go_sem ↓] theorem agj {sz:Nat} {lo hi:Option dF}:W k u (bW Γ q σ d (.cut sz x lo hi)) ↔ W (fun v=>W k ⟨⟩ (DU q σ sz lo hi v)) ⟨⟩ (val σ x):=by
 simp only [bW,dL,aJ]
 refine bZ fun v=>?_
 cases v with
 | agg l=>exact ah6
 | one p=>cases p with
  | f a=>cases a <;> exact ah6
  | own key n=>simp only [DU,gX];cases get σ.ob key with | none=>exact ah6 | some o=>cases o <;> exact ah6
  | _=>exact ah6
@[go_sem ↓] theorem Zl {sz:Nat} {lo hi:Option dF} {rows:List (List FV)}:W k u (DU q σ sz lo hi (.one (.f (.sl rows)))) ↔ rows.all (fun r=>r.length == sz) = true ∧ W (fun p=>k (.c (.one (.f (.sl ((rows.drop p.1).take (p.2 - p.1))))),σ)) ⟨⟩ (rng rows.length σ lo hi):=by
 simp only [DU,dL,aJ,cZ,one,aZ,Bool.not_eq_false]
@[go_sem ↓] theorem Zm {sz:Nat} {lo hi:Option dF}:W k u (DU q σ sz lo hi (.one .bK)) ↔ W (fun p=>k (.c (.one (.f (.sl []))),σ)) ⟨⟩ (rng 0 σ lo hi):=by
 simp only [DU,dL,aJ,one,aZ]
@[go_sem ↓] theorem Zn {sz key n:Nat} {lo hi:Option dF}:W k u (DU q σ sz lo hi (.one (.own key n))) ↔ W (fun o=>o.1 = sz ∧ W (fun p=>q = false ∧ W (fun s=>k (.c (.one (.f (.sl ((o.2.drop p.1).take (p.2 - p.1))))),s)) ⟨⟩ (yT σ key)) ⟨⟩ (rng o.2.length σ lo hi)) ⟨⟩ (gX σ key):=by
 simp only [DU,dL,aJ,cZ,one,aZ,ne_eq,aiJ,aiY]
@[go_sem ↓] theorem agk {off n:Nat} {agg:Bool}:W k u (bW Γ q σ d (.WZ off n agg x)) ↔ W (fun v=>W (fun l=>W (fun l=>W (fun z=>k (.c z,σ)) ⟨⟩ (mk agg l)) ⟨⟩ (seg n off l)) ⟨⟩ (Lp v)) ⟨⟩ (val σ x):=by
 simp only [bW,dL,aJ]
 refine bZ fun v=>?_
 cases v with
 | agg l=>simp only [Lp,aZ,aJ,bQ]
 | one p=>exact bT
def Vf (σ:St) (sz:Nat) (i:Int):CV → Option PL
 | .one (.f (.sl rows))=>rows[i.toNat]?.bind fun r=>if r.length = sz then some (.fp r) else none
 | .one (.own key n)=>(gX σ key).bind fun o=>if o.1 = sz ∧ i < n ∧ n = o.2.length then some (.rp key sz i.toNat 0) else none
 | _=>none
@[go_sem ↓] theorem ahN {sz:Nat}:W k u (bW Γ q σ d (.ia sz x y)) ↔ W (fun v=>W (fun j=>W (fun p=>0 ≤ p.2 ∧ W (fun l=>k (.c (.one l),σ)) ⟨⟩ (Vf σ sz p.2 v)) ⟨⟩ (int? j)) ⟨⟩ (val σ y)) ⟨⟩ (val σ x):=by
 simp only [bW,dL,aJ,bF]
 refine bZ fun v=>bZ fun j=>bZ fun p=>ajg ah6 ?_
 cases v with
 | agg l=>exact bT
 | one a =>
  cases a with
  | f a =>
   cases a with
   | sl rows=>simp only [Vf,aJ,bF,aZ]
   | _=>exact bT
  | own key n =>
   simp only [Vf,gX]
   cases get σ.ob key with
   | none=>exact bT
   | some o =>
    cases o with
    | row sz' rows=>simp only [Ls,Option.bind_some,bF,aZ]
    | _=>exact bT
  | _=>exact bT
section
variable {k : PL → Prop} {u:Tok k} {sz:Nat} {i:Int}
@[go_sem ↓] theorem ab3 {rows:List (List FV)}:W k u (Vf σ sz i (.one (.f (.sl rows)))) ↔ W (fun r=>r.length = sz ∧ k (.fp r)) ⟨⟩ (rows[i.toNat]?):=by
 simp only [Vf,dL,aJ,bF,aZ]
@[go_sem ↓] theorem ab4 {key n:Nat}:W k u (Vf σ sz i (.one (.own key n))) ↔ W (fun o=>(o.1 = sz ∧ i < n ∧ n = o.2.length) ∧ k (.rp key sz i.toNat 0)) ⟨⟩ (gX σ key):=by
 simp only [Vf,dL,aJ,bF,aZ]
end
@[go_sem ↓] theorem agl {sz len:Nat} {agg:Bool}:W k u (bW Γ q σ d (.idx sz len agg x y)) ↔ W (fun v=>W (fun j=>W (fun p=>(0 ≤ p.2 ∧ p.2 < (len:Int)) ∧ W (fun l=>W (fun l=>W (fun z=>k (.c z,σ)) ⟨⟩ (mk agg l)) ⟨⟩ (seg sz (p.2.toNat * sz) l)) ⟨⟩ (Lp v)) ⟨⟩ (int? j)) ⟨⟩ (val σ y)) ⟨⟩ (val σ x):=by
 simp only [bW,dL,aJ,bF]
 refine bZ fun v=>bZ fun j=>bZ fun p=>ajg ah6 ?_
 cases v with
 | agg l=>simp only [Lp,aZ,aJ,bQ]
 | one p=>exact bT
@[go_sem ↓] theorem agm : W k u (bW Γ q σ d (.chr x y)) ↔ W (fun v=>W (fun j=>W (fun p=>W (fun s=>0 ≤ p.2 ∧ W (fun b=>k (.c (.one (.f (.int .u8 b.toNat))),σ)) ⟨⟩ (s.data[p.2.toNat]?)) ⟨⟩ (qB v)) ⟨⟩ (int? j)) ⟨⟩ (val σ y)) ⟨⟩ (val σ x):=by
 simp only [bW,dL,aJ]
 refine bZ fun v=>bZ fun j=>bZ fun p=>?_
 cases v with
 | agg l=>exact bT
 | one p=>cases p with
  | f a =>
   cases a with
   | str s=>simp only [qB,aZ,bF,aJ,one]
   | _=>exact bT
  | _=>exact bT
@[go_sem ↓] theorem agn {i:Nat}:W k u (bW Γ q σ d (.ext x i)) ↔ W (fun v=>W (fun l=>W (fun w=>k (.c w,σ)) ⟨⟩ (l[i]?)) ⟨⟩ (UZ v)) ⟨⟩ (rF σ x):=by
 simp only [bW,dL]
 cases rF σ x with
 | none=>exact bT
 | some v =>
  rw [aZ]
  cases v with
  | c y=>exact bT
  | tZ l=>simp only [UZ,aZ,bQ]
@[go_sem ↓] theorem aep : W k u (bW Γ q σ d (.wH x)) ↔ W (fun v=>W (fun s=>k (.c (.one (.f (.int .i64 s.size))),σ)) ⟨⟩ (qB v)) ⟨⟩ (val σ x):=by
 simp only [bW,dL,aJ]
 refine bZ fun v=>?_
 cases v with
 | agg l=>exact bT
 | one p=>cases p with
  | f a=>cases a <;> first | exact bT | exact kS ah6
  | _=>exact bT
def Pv (σ:St):CV → Option Nat
 | .one .eH=>some 0
 | .one (.mp key)=>(nN σ key).map fun o=>o.2.length
 | _=>none
@[go_sem] theorem Zo : Pv σ (.one .eH) = some 0:=rfl
@[go_sem] theorem ab5 {key:Nat}:Pv σ (.one (.mp key)) = (nN σ key).map fun o=>o.2.length:=rfl
def Pw : CV → Option Nat
 | .one (.f (.sl rows))=>some rows.length
 | .one .bK=>some 0
 | .one (.own _ n)=>some n
 | _=>none
@[go_sem] theorem aer {rows:List (List FV)}:Pw (.one (.f (.sl rows))) = some rows.length:=rfl
@[go_sem] theorem aes : Pw (.one .bK) = some 0:=rfl
@[go_sem] theorem aeu {k n:Nat}:Pw (.one (.own k n)) = some n:=rfl
@[go_sem ↓] theorem aev : W k u (bW Γ q σ d (.fV x)) ↔ W (fun v=>W (fun n:Nat=>k (.c (.one (.f (.int .i64 (n:Int)))),σ)) ⟨⟩ (Pw v)) ⟨⟩ (val σ x):=by
 simp only [bW,dL,aJ]
 refine bZ fun v=>?_
 cases v with
 | agg l=>exact bT
 | one p=>cases p with
  | f a=>cases a <;> first | exact bT | exact kS ah6
  | _=>first | exact bT | exact kS ah6
@[go_sem ↓] theorem aew {neg:Bool}:W k u (bW Γ q σ d (.yY neg x)) ↔ W (fun v=>W (fun b=>k (.c (.one (.f (.bool (if neg then !b else b)))),σ)) ⟨⟩ (U0 v)) ⟨⟩ (val σ x):=by
 simp only [bW,dL,aJ]
 refine bZ fun v=>?_
 cases v with
 | agg l=>exact bT
 | one p=>cases p with
  | f a =>
   cases a with
   | sl rows=>cases rows <;> first | exact bT | (cases neg <;> exact kS ah6)
   | _=>exact bT
  | bK=>cases neg <;> exact kS ah6
  | _=>exact bT
end
end
section
open Go
section
variable {Γ : Env} {F d:Nat} {q:Bool} {σ:St} {k:PV × St → Prop} {u:Tok k} {x y z:dF}
def Lu (σ:St) (sh:KS):CV → Option (Option (Nat × List (KV × FC)))
 | .one .eH=>some none
 | .one (.mp key)=>(nN σ key).bind fun o=>if o.1 = sh then some (some (key,o.2)) else none
 | _=>none
@[go_sem] theorem Zp {sh:KS}:Lu σ sh (.one .eH) = some none:=rfl
section
variable {k : Option (Nat × List (KV × FC)) → Prop} {u:Tok k}
@[go_sem ↓] theorem aex {sh:KS} {key:Nat}:W k u (Lu σ sh (.one (.mp key))) ↔ W (fun o=>o.1 = sh ∧ k (some (key,o.2))) ⟨⟩ (nN σ key):=by
 simp only [Lu,dL,aJ,bF,aZ]
end
def rO (m:Option (Nat × List (KV × FC))) (a:KV):Option FC:=m.bind fun m=>rz m.2 a
def cnt (m:Option (Nat × List (KV × FC))):Nat:=match m with
 | none=>0
 | some m=>m.2.length
@[go_sem] theorem Zq {a:KV}:rO none a = none:=rfl
@[go_sem] theorem Zr {key:Nat} {l:List (KV × FC)} {a:KV}:rO (some (key,l)) a = rz l a:=rfl
@[go_sem] theorem Zt : cnt none = 0:=rfl
@[go_sem] theorem Zu {key:Nat} {l:List (KV × FC)}:cnt (some (key,l)) = l.length:=rfl
def lkv (z:FC) (ok:Bool) (r:Option FC):PV:=if ok then .tZ [wK (r.getD z),.one (.f (.bool r.isSome))] else .c (wK (r.getD z))
@[go_sem] theorem aey {z:FC} {r:Option FC}:lkv z true r = .tZ [wK (r.getD z),.one (.f (.bool r.isSome))]:=rfl
@[go_sem] theorem aez {z:FC} {r:Option FC}:lkv z false r = .c (wK (r.getD z)):=rfl
@[go_sem] theorem Zv {x:FV}:wK (.one x) = .one (.f x):=rfl
@[go_sem] theorem Zw {xs:List FV}:wK (.agg xs) = .agg (xs.map .f):=rfl
@[go_sem ↓] theorem aeA {sh:KS} {z:FC} {ok:Bool}:W k u (bW Γ q σ d (.look sh z ok x y)) ↔ W (fun v=>W (fun w=>W (fun a=>a.ks = sh ∧ W (fun m=>k (lkv z ok (rO m a),σ)) ⟨⟩ (Lu σ sh v)) ⟨⟩ (keyOf w)) ⟨⟩ (val σ y)) ⟨⟩ (val σ x):=by
 simp only [bW,dL,aJ,cZ,bQ,ne_eq,aiJ]
 refine bZ fun v=>bZ fun w=>bZ fun a=>ajg ah6 ?_
 cases v with
 | agg l=>exact bT
 | one p =>
  cases p with
  | eH=>exact kS ah6
  | mp key =>
   simp only [Lu,nN]
   cases get σ.ob key with
   | none=>exact bT
   | some o =>
    cases o with
    | map sh' ents =>
     simp only [om,Option.bind_some]
     by_cases hs:sh' = sh
     ·rw [ahX hs,ahX hs];exact kS (by cases ok <;> exact ah6)
     ·rw [ahY hs,ahY hs];exact bT
    | _=>exact bT
  | _=>exact bT
@[go_sem ↓] theorem aeB : W k u (bW Γ q σ d (.II x)) ↔ W (fun v=>W (fun n:Nat=>k (.c (.one (.f (.int .i64 (n:Int)))),σ)) ⟨⟩ (Pv σ v)) ⟨⟩ (val σ x):=by
 simp only [bW,dL,aJ]
 refine bZ fun v=>?_
 cases v with
 | agg l=>exact bT
 | one p =>
  cases p with
  | eH=>exact kS ah6
  | mp key =>
   simp only [Pv,nN]
   cases get σ.ob key with
   | none=>exact bT
   | some o=>cases o <;> first | exact bT | exact kS ah6
  | _=>exact bT
def upv (σ:St) (sh:KS) (a:KV) (p:FC × St):CV → Option St
 | .one (.mp key)=>(nN p.2 key).bind fun o=>if o.1 = sh then some (iY p.2 key (.map sh (wJ o.2 a p.1))) else none
 | _=>none
@[go_sem ↓] theorem aeC {sh:KS}:W k u (bW Γ q σ d (.wG sh x y z)) ↔ W (fun v=>W (fun w=>W (fun a=>a.ks = sh ∧ W (fun w=>(q && (cells w).any fP) = false ∧ W (fun p=>W (fun s=>k (.c (.one .und),s)) ⟨⟩ (upv σ sh a p v)) ⟨⟩ (Xb σ w)) ⟨⟩ (val σ z)) ⟨⟩ (keyOf w)) ⟨⟩ (val σ y)) ⟨⟩ (val σ x):=by
 simp only [bW,dL,aJ,cZ,ne_eq,aiJ,aiY]
 refine bZ fun v=>bZ fun w=>bZ fun a=>ajg ah6 (bZ fun w=>ajg ah6 (bZ fun p=>?_))
 cases v with
 | agg l=>exact bT
 | one b =>
  cases b with
  | mp key =>
   simp only [upv,nN]
   cases get p.2.ob key with
   | none=>exact bT
   | some o =>
    cases o with
    | map sh' ents =>
     simp only [om,Option.bind_some]
     split
     ·exact kS ah6
     ·exact bT
    | _=>exact bT
  | _=>exact bT
section
variable {k : St → Prop} {u:Tok k} {sh:KS} {a:KV} {key:Nat}
@[go_sem ↓] theorem agp {p:FC × St}:W k u (upv σ sh a p (.one (.mp key))) ↔ W (fun o=>o.1 = sh ∧ k (iY p.2 key (.map sh (wJ o.2 a p.1)))) ⟨⟩ (nN p.2 key):=by
 simp only [upv,dL,aJ,bF,aZ]
end
def Zx (σ:St) (sh:KS) (a:KV):CV → Option St
 | .one .eH=>some σ
 | .one (.mp key)=>(nN σ key).bind fun o=>if o.1 = sh then some (iY σ key (.map sh (AY o.2 a))) else none
 | _=>none
@[go_sem] theorem ab6 {sh:KS} {a:KV}:Zx σ sh a (.one .eH) = some σ:=rfl
section
variable {k : St → Prop} {u:Tok k} {sh:KS} {a:KV} {key:Nat}
@[go_sem ↓] theorem agq : W k u (Zx σ sh a (.one (.mp key))) ↔ W (fun o=>o.1 = sh ∧ k (iY σ key (.map sh (AY o.2 a)))) ⟨⟩ (nN σ key):=by
 simp only [Zx,dL,aJ,bF,aZ]
end
@[go_sem ↓] theorem agr {sh:KS}:W k u (bW Γ q σ d (.del sh x y)) ↔ W (fun v=>W (fun w=>W (fun a=>a.ks = sh ∧ W (fun s=>k (.tZ [],s)) ⟨⟩ (Zx σ sh a v)) ⟨⟩ (keyOf w)) ⟨⟩ (val σ y)) ⟨⟩ (val σ x):=by
 simp only [bW,dL,aJ,cZ,ne_eq,aiJ]
 refine bZ fun v=>bZ fun w=>bZ fun a=>ajg ah6 ?_
 cases v with
 | agg l=>exact bT
 | one b =>
  cases b with
  | eH=>exact kS ah6
  | mp key =>
   simp only [Zx,nN]
   cases get σ.ob key with
   | none=>exact bT
   | some o =>
    cases o with
    | map sh' ents =>
     simp only [om,Option.bind_some]
     split
     ·exact kS ah6
     ·exact bT
    | _=>exact bT
  | _=>exact bT
def Xv (σ:St):CV → Option (List (List FV))
 | .one .bK=>some []
 | .one (.f (.sl rows))=>some rows
 | .one (.own key _)=>(gX σ key).map (·.2)
 | _=>none
@[go_sem] theorem ags : Xv σ (.one .bK) = some []:=rfl
@[go_sem] theorem agt {rows:List (List FV)}:Xv σ (.one (.f (.sl rows))) = some rows:=rfl
@[go_sem] theorem agu {key n:Nat}:Xv σ (.one (.own key n)) = (gX σ key).map (·.2):=rfl
def Xw (q:Bool) (σ:St) (d sz bytes:Nat) (w:CV) (DV:List (List FV)):CV → Option (PV × St)
 | .one .bK=>if q = false ∧ DV.length * bytes ≤ 140737488355328 ∧ DV.all (fun r=>r.length == sz) then (new σ (dw d) (.row sz DV)).map fun s=>(.c (.one (.own (dw d) DV.length)),s) else none
 | .one (.own key n)=>(gX σ key).bind fun o=>if q = false ∧ (o.2.length + DV.length) * bytes ≤ 140737488355328 ∧ o.1 = sz ∧ n = o.2.length ∧ uT key w = false ∧ key % 2 = 0 ∧ DV.all (fun r=>r.length == sz) then
   some (.c (.one (.own key (o.2.length + DV.length))),iY (sub σ key .any) key (.row sz (o.2 ++ DV))) else none
 | _=>none
@[go_sem ↓] theorem agv {e:TypeId} {sz bytes:Nat}:W k u (bW Γ q σ d (.app e sz bytes x y)) ↔ W (fun v=>W (fun w=>W (fun l=>W k ⟨⟩ (Xw q σ d sz bytes w l v)) ⟨⟩ (Xv σ w)) ⟨⟩ (val σ y)) ⟨⟩ (val σ x):=by
 simp only [bW,dL,aJ]
 refine bZ fun v=>bZ fun w=>?_
 have e:pO σ w = Xv σ w:=by
  cases w with
  | agg l=>rfl
  | one p=>cases p with
   | f a=>cases a <;> rfl
   | own key n=>simp only [pO,Xv,gX];cases get σ.ob key with | none=>rfl | some o=>cases o <;> rfl
   | _=>rfl
 rw [e]
 refine bZ fun l=>?_
 cases v with
 | agg l=>exact bT
 | one p =>
  cases p with
  | bK=>exact ah6
  | own key n =>
   simp only [Xw,gX]
   cases get σ.ob key with
   | none=>exact bT
   | some o=>cases o <;> exact ah6
  | _=>exact bT
@[go_sem ↓] theorem ab7 {sz bytes:Nat} {w:CV} {l:List (List FV)}:W k u (Xw q σ d sz bytes w l (.one .bK)) ↔ (q = false ∧ l.length * bytes ≤ 140737488355328 ∧ l.all (fun r=>r.length == sz) = true) ∧ W (fun s=>k (.c (.one (.own (dw d) l.length)),s)) ⟨⟩ (new σ (dw d) (.row sz l)):=by
 simp only [Xw,dL,bF,bQ]
@[go_sem ↓] theorem ab8 {sz bytes key n:Nat} {w:CV} {l:List (List FV)}:W k u (Xw q σ d sz bytes w l (.one (.own key n))) ↔ W (fun o=>(q = false ∧ (o.2.length + l.length) * bytes ≤ 140737488355328 ∧ o.1 = sz ∧ n = o.2.length ∧ uT key w = false ∧ key % 2 = 0 ∧ l.all (fun r=>r.length == sz) = true) ∧ k (.c (.one (.own key (o.2.length + l.length))),iY (sub σ key .any) key (.row sz (o.2 ++ l)))) ⟨⟩ (gX σ key):=by
 simp only [Xw,dL,aJ,bF,aZ]
def cov (σ:St) (sz:Nat) (i:Int):CV → Option (PV × St)
 | .one (.own key n)=>(gX σ key).bind fun o=>if o.1 = sz ∧ key % 2 = 0 ∧ 0 ≤ i ∧ i ≤ o.2.length then some (.c (.one (.own key i.toNat)),iY (sub σ key .any) key (.row sz (o.2.take i.toNat))) else none
 | _=>none
@[go_sem ↓] theorem aeD {sz:Nat}:W k u (bW Γ q σ d (.CY sz x y)) ↔ q = false ∧ W (fun v=>W (fun j=>W (fun p=>W k ⟨⟩ (cov σ sz p.2 v)) ⟨⟩ (int? j)) ⟨⟩ (val σ y)) ⟨⟩ (val σ x):=by
 simp only [bW,dL,aJ,cZ,aiY]
 refine ajg ah6 (bZ fun v=>bZ fun j=>bZ fun p=>?_)
 cases v with
 | agg l=>exact bT
 | one b =>
  cases b with
  | own key n =>
   simp only [cov,gX]
   cases get σ.ob key with
   | none=>exact bT
   | some o=>cases o <;> exact ah6
  | _=>exact bT
@[go_sem ↓] theorem agw {sz key n:Nat} {i:Int}:W k u (cov σ sz i (.one (.own key n))) ↔ W (fun o=>(o.1 = sz ∧ key % 2 = 0 ∧ 0 ≤ i ∧ i ≤ (o.2.length:Int)) ∧ k (.c (.one (.own key i.toNat)),iY (sub σ key .any) key (.row sz (o.2.take i.toNat)))) ⟨⟩ (gX σ key):=by
 simp only [cov,dL,aJ,bF,aZ]
def cvv (σ:St) (sz:Nat) (i:Int):CV → Option PL
 | .one (.own key n)=>(gX σ key).bind fun o=>if o.1 = sz ∧ 0 ≤ i ∧ i ≤ o.2.length then some (.vw key sz o.2.length i.toNat) else none
 | _=>none
@[go_sem ↓] theorem aeE {sz:Nat}:W k u (bW Γ q σ d (.cutV sz x y)) ↔ W (fun v=>W (fun j=>W (fun p=>W (fun l=>k (.c (.one l),σ)) ⟨⟩ (cvv σ sz p.2 v)) ⟨⟩ (int? j)) ⟨⟩ (val σ y)) ⟨⟩ (val σ x):=by
 simp only [bW,dL,aJ]
 refine bZ fun v=>bZ fun j=>bZ fun p=>?_
 cases v with
 | agg l=>exact bT
 | one b =>
  cases b with
  | own key n =>
   simp only [cvv,gX]
   cases get σ.ob key with
   | none=>exact bT
   | some o =>
    cases o with
    | row sz' rows=>simp only [Ls,Option.bind_some,bF,aZ]
    | _=>exact bT
  | _=>exact bT
section
variable {k : PL → Prop} {u:Tok k}
@[go_sem ↓] theorem agx {sz key n:Nat} {i:Int}:W k u (cvv σ sz i (.one (.own key n))) ↔ W (fun o=>(o.1 = sz ∧ 0 ≤ i ∧ i ≤ (o.2.length:Int)) ∧ k (.vw key sz o.2.length i.toNat)) ⟨⟩ (gX σ key):=by
 simp only [cvv,dL,aJ,bF,aZ]
end
def vw? : CV → Option (Nat × Nat × Nat × Nat)
 | .one (.vw key z n lo)=>some (key,z,n,lo)
 | _=>none
@[go_sem] theorem aeF {a b c e:Nat}:vw? (.one (.vw a b c e)) = some (a,b,c,e):=rfl
@[go_sem ↓] theorem agy {sz:Nat} {zs:List FV}:W k u (bW Γ q σ d (.R4 sz zs x)) ↔ W (fun v=>W (fun p=>W (fun o=>(o.1 = sz ∧ p.2.1 = sz ∧ zs.length = sz ∧ p.2.2.1 = o.2.length ∧ p.2.2.2 ≤ p.2.2.1) ∧ k (.tZ [],iY σ p.1 (.row sz (o.2.take p.2.2.2 ++ List.replicate (p.2.2.1 - p.2.2.2) zs)))) ⟨⟩ (gX σ p.1)) ⟨⟩ (vw? v)) ⟨⟩ (val σ x):=by
 simp only [bW,dL,aJ]
 refine bZ fun v=>?_
 cases v with
 | agg l=>exact bT
 | one b =>
  cases b with
  | vw key z n lo =>
   simp only [vw?,aZ,gX]
   cases get σ.ob key with
   | none=>exact bT
   | some o =>
    cases o with
    | row sz' rows=>simp only [Ls,bF,aZ]
    | _=>exact bT
  | _=>exact bT
def Sl (σ:St):CV → Option (List (List FV))
 | .one (.f (.sl rows))=>some rows
 | .one .bK=>some []
 | .one (.own key _)=>(gX σ key).bind fun o=>if o.1 = 1 then some o.2 else none
 | _=>none
@[go_sem] theorem agz {rows:List (List FV)}:Sl σ (.one (.f (.sl rows))) = some rows:=rfl
@[go_sem] theorem agA : Sl σ (.one .bK) = some []:=rfl
@[go_sem] theorem Sm : bytesOf [] = some ⟨#[]⟩:=rfl
@[go_sem] theorem Px {n:Int} {l:List (List FV)}:bytesOf ([.int .u8 n] :: l) = (bytesOf l).map fun s=>⟨#[UInt8.ofNat n.toNat] ++ s.data⟩:=rfl
section
variable {k : List (List FV) → Prop} {u:Tok k}
@[go_sem ↓] theorem agB {key n:Nat}:W k u (Sl σ (.one (.own key n))) ↔ W (fun o=>o.1 = 1 ∧ k o.2) ⟨⟩ (gX σ key):=by
 simp only [Sl,dL,aJ,bF,aZ]
end
@[go_sem ↓] theorem agC : W k u (bW Γ q σ d (.W9 x)) ↔ W (fun v=>W (fun l=>W (fun s=>k (.c (.one (.f (.str s))),σ)) ⟨⟩ (bytesOf l)) ⟨⟩ (Sl σ v)) ⟨⟩ (val σ x):=by
 simp only [bW,dL,aJ]
 refine bZ fun v=>?_
 cases v with
 | agg l=>exact bT
 | one b =>
  cases b with
  | f a =>
   cases a with
   | sl rows=>simp only [Sl,aJ,aZ,one]
   | _=>exact bT
  | bK=>simp only [Sl,aZ,bytesOf,one]
  | own key n =>
   simp only [Sl,gX]
   cases get σ.ob key with
   | none=>exact bT
   | some o =>
    cases o with
    | row sz' rows=>simp only [Ls,Option.bind_some,bF,aJ,aZ,one]
    | _=>exact bT
  | _=>exact bT
@[go_sem ↓] theorem agD {f:FuncId} {xs:List dF}:W k u (bW Γ q σ d (.OA f xs)) ↔ W (fun l=>W (fun p=>k (.c (.one (.fn f p.1)),p.2)) ⟨⟩ (lg q σ l)) ⟨⟩ (iT σ xs):=by
 simp only [bW,dL,aJ,bQ]
@[go_sem ↓] theorem aeG {f:FuncId} {xs:List dF}:W k u (bW Γ q σ d (.yX f xs)) ↔ W (fun l=>W (fun dV=>W (fun r=>W (fun p=>W (fun s=>k (.c (.one (.own (dw d) p.2.length)),s)) ⟨⟩ (new σ (dw d) (.row p.1 p.2))) ⟨⟩ (Ue r.1)) ⟨⟩ (Γ f dV)) ⟨⟩ (Kl l)) ⟨⟩ (iT σ xs):=by
 simp only [bW,rE,dL,aJ,bQ]
attribute [go_sem] avT OE avC Kl
@[go_sem] theorem Zy {sz:Nat} {rows:List (List FV)}:Ue [.one (.own sz rows)] = some (sz,rows):=rfl
@[go_sem ↓] theorem ab9 {gv:Bool} {f:FuncId} {xs:List dF}:W k u (bW Γ q σ d (.call gv f xs)) ↔ W (fun l=>W k ⟨⟩ (kr Γ gv q σ d f l)) ⟨⟩ (iT σ xs):=by
 simp only [bW,dL,aJ]
def fn? : CV → Option (FuncId × List (List FV))
 | .one (.fn f caps)=>some (f,caps)
 | _=>none
@[go_sem] theorem aeH {f:FuncId} {caps:List (List FV)}:fn? (.one (.fn f caps)) = some (f,caps):=rfl
@[go_sem ↓] theorem agE {xs:List dF}:W k u (bW Γ q σ d (.dyn x xs)) ↔ W (fun v=>W (fun p=>W (fun l=>W k ⟨⟩ (kr Γ false q σ d p.1 (l ++ p.2.map fun c=>.one (.fp c)))) ⟨⟩ (iT σ xs)) ⟨⟩ (fn? v)) ⟨⟩ (val σ x):=by
 simp only [bW,dL,aJ]
 refine bZ fun v=>?_
 cases v with
 | agg l=>exact bT
 | one b =>
  cases b with
  | fn f caps=>simp only [fn?,aZ,aJ]
  | _=>exact bT
def Fx (gv:Bool) (args:List CV) (p:List AV × St) (r:List AV × List AV):Option St:=if (!gv && ((r.1.any vM || !p.1.all fC) && args.any (fun x=>(cells x).any fP))) = true then rD p.2 args else some p.2
def Fy (d:Nat) (σ:St) (args:List CV) (p:List AV × St) (r:List AV × List AV) (s:St):Option St:=if p.1.all fC = true then some s else y5 σ (args.flatMap cells) (dw d + 10000) s args r.2
@[go_sem ↓] theorem Zz {gv:Bool} {f:FuncId} {args:List CV}:W k u (kr Γ gv q σ d f args) ↔ W (fun p=>W (fun r0=>W (fun r=>((q && !(p.1.all fC && r.1.all fC)) = false ∧ (q && ((r.1.any vM || !p.1.all fC) && args.any (fun x=>(cells x).any fP))) = false) ∧
  W (fun s=>W (fun s=>W (fun v=>k (IQ v.1,v.2)) ⟨⟩ (wN (dw d) 0 [] s r.1)) ⟨⟩ (Fy d σ args p r s)) ⟨⟩ (Fx gv args p r)) ⟨⟩ (some (Ud q r0))) ⟨⟩ (Γ f p.1)) ⟨⟩ (rA gv σ args):=by
 simp only [kr,dL,aJ,cZ,bQ,aZ,Fx,Fy,aiY,and_assoc]
@[go_sem] theorem aeI {r:List AV × List AV}:Ud false r = r:=rfl
@[go_sem] theorem acd {r:List AV × List AV}:Ud true r = (r.1.map OD,r.2):=rfl
@[go_sem] theorem ace {sz:Nat} {rows:List (List FV)}:OD (.one (.own sz rows)) = .one (.f (.sl rows)):=rfl
@[go_sem] theorem agF {x:FV}:OD (.one (.f x)) = .one (.f x):=rfl
@[go_sem] theorem acf {xs:List TV}:OD (.agg xs) = .agg xs:=rfl
@[go_sem] theorem acg {xs:List CL}:OD (.one (.ptr xs)) = .one (.ptr xs):=rfl
end
section
variable {Γ : Env} {F:Nat} {k:List AV × List AV → Prop} {u:Tok k} {cf:CF} {dV:List AV}
@[go_sem ↓] theorem agG : W k u (IU Γ F cf dV) ↔ dV.length = cf.np ∧ W (fun e=>W (fun p=>(∀ id,p.1 ≠ .ext id) ∧ W (fun b=>W (fun l=>W (fun r=>k (r.1,b.1)) ⟨⟩ (lV cf.ro b.2 l)) ⟨⟩ (slots b.2 cf.res)) ⟨⟩ (jF p.2 e.1 dV)) ⟨⟩ (ev Γ F cf.body e.2)) ⟨⟩ (enter cf.bo 0 [] ⟨[],[]⟩ dV):=by
 simp only [IU,dL,cZ,aJ,ne_eq,aiJ]
 refine ajg ah6 (bZ fun e=>bZ fun p=>?_)
 obtain ⟨o,s⟩:=p
 cases o with
 | ext id=>simp [jc]
 | _=>simp [aJ,bQ]
@[go_sem] theorem ach : (∀ id,Out.iK ≠ .ext id) ↔ True:=by simp
@[go_sem] theorem aci : (∀ id,Out.ret ≠ .ext id) ↔ True:=by simp
@[go_sem] theorem acj {i:Nat}:(∀ id,Out.ext i ≠ .ext id) ↔ False:=by simp
end
end
section
open Go
attribute [go_sem] dw dR uT qF lT nI ES OB IJ sub iY oK fP jL plain fC R5 Kk vM OC IQ Kn Uf Ug Uh Km Uc rowsOf KV.ks SV.sk
attribute [go_sem] List.any_cons List.any_nil List.all_cons List.all_nil List.map_cons List.map_nil List.length_cons List.length_nil List.append_nil List.nil_append List.cons_append List.flatMap_cons List.flatMap_nil List.take_succ_cons List.take_zero List.take_nil List.drop_succ_cons List.drop_zero List.drop_nil Option.getD_some Option.getD_none List.filter_nil List.filter_cons List.headD_nil List.headD_cons List.tail_cons List.tail_nil
section
variable {σ : St} {α:Type}
section
variable {k : St → Prop} {u:Tok k} {key:Nat} {o:Ob} {pend:List PL}
@[go_sem ↓] theorem agH : W k u (new σ key o) ↔ (rem σ.ob key).any (fun p=>lT key p.2) = false ∧ k ⟨σ.tm.filter (fun p=>!qF key p.2),(key,o) :: rem σ.ob key⟩:=by
 simp only [new,Xa,dL,bQ,cZ,aZ,aiY]
@[go_sem ↓] theorem aeJ : W k u (newP pend σ key o) ↔ pend.any (dR key) = false ∧ W k ⟨⟩ (new σ key o):=by
 simp only [newP,dL,cZ,aiY]
@[go_sem ↓] theorem agI : W k u (yT σ key) ↔ W (fun p=>k (sub ⟨σ.tm,rem σ.ob key⟩ key (.f (.sl p.2)))) ⟨⟩ (gX σ key):=by
 simp only [yT,gX,dL]
 cases get σ.ob key with
 | none=>exact bT
 | some o=>cases o <;> first | exact bT | exact kS ah6
@[go_sem ↓] theorem Vg : W k u (wO σ []) ↔ k σ:=gu
@[go_sem ↓] theorem Sn : W k u (rD σ []) ↔ k σ:=gu
@[go_sem ↓] theorem Py {x:CV} {xs:List CV}:W k u (rD σ (x :: xs)) ↔ W (fun s=>W k ⟨⟩ (rD s xs)) ⟨⟩ (wO σ (cells x)):=by
 simp only [rD,dL,aJ]
def pq (σ:St):PL → Option St
 | .own key _=>yT σ key
 | _=>some σ
@[go_sem ↓] theorem Sq {x:PL} {xs:List PL}:W k u (wO σ (x :: xs)) ↔ W (fun s=>W k ⟨⟩ (wO s xs)) ⟨⟩ (pq σ x):=by
 simp only [dL]
 cases x <;> simp only [wO,pq,aJ,aZ]
@[go_sem ↓] theorem Sw {n:Nat}:W k u (pq σ (.own key n)) ↔ W k ⟨⟩ (yT σ key):=ah6
@[go_sem] theorem acn {x:FV}:pq σ (.f x) = some σ:=rfl
@[go_sem] theorem Xx : pq σ .bK = some σ:=rfl
@[go_sem] theorem Xy {n:Nat}:pq σ (.ptr key n) = some σ:=rfl
@[go_sem] theorem ZA : pq σ (.mp key) = some σ:=rfl
@[go_sem] theorem Xz : pq σ .iw = some σ:=rfl
@[go_sem] theorem Vh : pq σ .eH = some σ:=rfl
@[go_sem] theorem ZB {f:FuncId} {c:List (List FV)}:pq σ (.fn f c) = some σ:=rfl
@[go_sem] theorem ZC {c:List FV}:pq σ (.fp c) = some σ:=rfl
end
section
variable {k : FV × St → Prop} {u:Tok k} {key n:Nat}
@[go_sem] theorem agJ {x:FV}:uU σ (.f x) = some (x,σ):=rfl
@[go_sem] theorem aco : uU σ .bK = some (.sl [],σ):=rfl
@[go_sem ↓] theorem XA : W k u (uU σ (.own key n)) ↔ W (fun p=>k (.sl p.2,sub ⟨σ.tm,rem σ.ob key⟩ key (.f (.sl p.2)))) ⟨⟩ (gX σ key):=by
 simp only [uU,yT,gX,dL]
 cases get σ.ob key with
 | none=>exact bT
 | some o=>cases o <;> first | exact bT | (simp only [Option.map_some];exact kS ah6)
end
section
variable {k : List FV × St → Prop} {u:Tok k}
@[go_sem ↓] theorem Vi : W k u (jR σ []) ↔ k ([],σ):=gu
@[go_sem ↓] theorem Sy {x:PL} {xs:List PL}:W k u (jR σ (x :: xs)) ↔ W (fun p=>W (fun r=>k (p.1 :: r.1,r.2)) ⟨⟩ (jR p.2 xs)) ⟨⟩ (uU σ x):=by
 simp only [jR,dL,aJ,bQ]
@[go_sem ↓] theorem agK {key:Nat}:W k u (Xc σ key) ↔ W (fun xs=>W (fun p=>W (fun _=>k (p.1,Uh (Km key p.1) ⟨p.2.tm,rem p.2.ob key⟩)) ⟨⟩ (get p.2.ob key)) ⟨⟩ (jR σ xs)) ⟨⟩ (oC σ key):=by
 simp only [Xc,oC,dL]
 cases get σ.ob key with
 | none=>exact bT
 | some o =>
  cases o with
  | dM xs =>
   simp only [oc,aZ,aJ]
   refine bZ fun p=>?_
   cases get p.2.ob key with
   | none=>exact bT
   | some o=>exact kS ah6
  | _=>exact bT
end
section
variable {k : FC × St → Prop} {u:Tok k}
@[go_sem ↓] theorem XB {x:PL}:W k u (Xb σ (.one x)) ↔ W (fun p=>k (.one p.1,p.2)) ⟨⟩ (uU σ x):=by simp only [Xb,dL,bQ]
@[go_sem ↓] theorem XC {xs:List PL}:W k u (Xb σ (.agg xs)) ↔ W (fun p=>k (.agg p.1,p.2)) ⟨⟩ (jR σ xs):=by simp only [Xb,dL,bQ]
end
section
variable {k : List (List FV) × St → Prop} {u:Tok k} {q:Bool}
@[go_sem ↓] theorem Vj : W k u (lg q σ []) ↔ k ([],σ):=by simp only [lg,dL,aZ]
@[go_sem ↓] theorem XD {cs:List FV} {l:List CV}:W k u (lg q σ (.one (.fp cs) :: l)) ↔ W (fun r=>k (cs :: r.1,r.2)) ⟨⟩ (lg q σ l):=by simp only [lg,dL,bQ]
@[go_sem ↓] theorem Vk {key:Nat} {l:List CV}:W k u (lg q σ (.one (.ptr key 0) :: l)) ↔ q = false ∧ W (fun p=>W (fun r=>k (p.1 :: r.1,r.2)) ⟨⟩ (lg q p.2 l)) ⟨⟩ (Xc σ key):=by
 simp only [lg,dL,cZ,aJ,bQ,aiY]
end
section
variable {k : List (Nat × Nat × CV) → Prop} {u:Tok k}
@[go_sem ↓] theorem Vl : W k u (vals σ []) ↔ k []:=gu
@[go_sem ↓] theorem Sz {o n:Nat} {x:dF} {ps:List (Nat × Nat × dF)}:W k u (vals σ ((o,n,x) :: ps)) ↔ W (fun v=>W (fun l=>k ((o,n,v) :: l)) ⟨⟩ (vals σ ps)) ⟨⟩ (val σ x):=by
 simp only [vals,dL,aJ,bQ]
end
section
variable {k : List CV → Prop} {u:Tok k}
@[go_sem ↓] theorem SA : W k u (iT σ []) ↔ k []:=gu
@[go_sem ↓] theorem Pz {x:dF} {xs:List dF}:W k u (iT σ (x :: xs)) ↔ W (fun v=>W (fun l=>k (v :: l)) ⟨⟩ (iT σ xs)) ⟨⟩ (val σ x):=by
 simp only [iT,dL,aJ,bQ]
@[go_sem ↓] theorem SB : W k u (slots σ []) ↔ k []:=gu
@[go_sem ↓] theorem PD {x:Rs} {xs:List Rs}:W k u (slots σ (x :: xs)) ↔ W (fun v=>W (fun l=>k (v :: l)) ⟨⟩ (slots σ xs)) ⟨⟩ (slot σ x):=by
 simp only [slots,dL,aJ,bQ]
end
section
variable {k : CV → Prop} {u:Tok k} {i n:Nat} {agg:Bool}
@[go_sem ↓] theorem ZE : W k u (slot σ (.t i)) ↔ W k ⟨⟩ (vl (get σ.tm i)):=by rw [← Y9];exact ah6
@[go_sem ↓] theorem SC : W k u (slot σ (.cell i n agg)) ↔ W (fun v=>W (fun p=>W (fun xs=>W (fun l=>W k ⟨⟩ (mk agg l)) ⟨⟩ (seg n p.2 xs)) ⟨⟩ (oC σ p.1)) ⟨⟩ (I9 v)) ⟨⟩ (vl (get σ.tm i)):=by
 simp only [slot,dL]
 cases get σ.tm i with
 | none=>exact bT
 | some v =>
  cases v with
  | tZ l=>exact bT
  | c x =>
   simp only [vl,aZ]
   cases x with
   | agg l=>exact bT
   | one p =>
    cases p with
    | ptr key off =>
     simp only [I9,aZ,oC]
     cases get σ.ob key with
     | none=>exact bT
     | some o=>cases o <;> first | exact bT | (simp only [oc,aZ,aJ])
    | _=>exact bT
end
section
variable {k : List PL → Prop} {u:Tok k} {z:List PL}
@[go_sem ↓] theorem Vm : W k u (fill z []) ↔ k z:=by simp only [fill,dL,aZ]
@[go_sem ↓] theorem SE {off n:Nat} {v:CV} {ps:List (Nat × Nat × CV)}:W k u (fill z ((off,n,v) :: ps)) ↔ ((cells v).length = n ∧ (cells v).any oK = false) ∧ W (fun z=>W k ⟨⟩ (fill z ps)) ⟨⟩ (lay off (cells v) z):=by
 simp only [fill,dL,bF,aJ]
end
@[go_sem] theorem ZF {kk:IntKind} {n:Int}:uf (.int kk n) = some (.int kk n):=rfl
@[go_sem] theorem XE {b:Bool}:uf (.bool b) = some (.bool b):=rfl
@[go_sem] theorem ZG {s:ByteArray}:uf (.str s) = some (.str s):=rfl
section
variable {k : KV → Prop} {u:Tok k}
@[go_sem ↓] theorem XF {x:FV}:W k u (keyOf (.one (.f x))) ↔ W (fun s=>k (.one s)) ⟨⟩ (uf x):=by simp only [keyOf,Gu,Option.bind_some,dL,bQ]
@[go_sem ↓] theorem XG {xs:List PL}:W k u (keyOf (.agg xs)) ↔ W (fun l=>W (fun s=>k (.agg s)) ⟨⟩ (ru l)) ⟨⟩ (nJ xs):=by simp only [keyOf,dL,aJ,bQ]
end
section
variable {k : List SV → Prop} {u:Tok k}
@[go_sem ↓] theorem SF : W k u (ru []) ↔ k []:=gu
@[go_sem ↓] theorem PE {x:FV} {xs:List FV}:W k u (ru (x :: xs)) ↔ W (fun s=>W (fun l=>k (s :: l)) ⟨⟩ (ru xs)) ⟨⟩ (uf x):=by simp only [ru,dL,aJ,bQ]
end
section
variable {k : List FV → Prop} {u:Tok k}
@[go_sem ↓] theorem PG : W k u (nJ []) ↔ k []:=gu
@[go_sem ↓] theorem Ot {x:FV} {xs:List PL}:W k u (nJ (.f x :: xs)) ↔ W (fun l=>k (x :: l)) ⟨⟩ (nJ xs):=by simp only [nJ,Gu,Option.bind_some,dL,bQ]
end
section
variable {k : CL × St → Prop} {u:Tok k} {key n:Nat}
@[go_sem] theorem agL {x:FV}:IK σ (.f x) = some (.f x,σ):=rfl
@[go_sem] theorem acp : IK σ .bK = some (.f (.sl []),σ):=rfl
@[go_sem] theorem acr : IK σ .iw = some (.iw,σ):=rfl
@[go_sem] theorem ZH : IK σ .eH = some (.eH,σ):=rfl
@[go_sem ↓] theorem XH : W k u (IK σ (.own key n)) ↔ W (fun o=>k (.own o.1 o.2,⟨σ.tm,rem σ.ob key⟩)) ⟨⟩ (gX σ key):=by
 simp only [IK,gX,dL]
 cases get σ.ob key with
 | none=>exact bT
 | some o=>cases o <;> first | exact bT | exact kS ah6
@[go_sem ↓] theorem ZI : W k u (IK σ (.mp key)) ↔ W (fun o=>k (.mp o.1 o.2,⟨σ.tm,rem σ.ob key⟩)) ⟨⟩ (nN σ key):=by
 simp only [IK,nN,dL]
 cases get σ.ob key with
 | none=>exact bT
 | some o=>cases o <;> first | exact bT | exact kS ah6
end
section
variable {k : List CL × St → Prop} {u:Tok k}
@[go_sem ↓] theorem Vn : W k u (yZ σ []) ↔ k ([],σ):=gu
@[go_sem ↓] theorem SG {x:PL} {xs:List PL}:W k u (yZ σ (x :: xs)) ↔ W (fun p=>W (fun r=>k (p.1 :: r.1,r.2)) ⟨⟩ (yZ p.2 xs)) ⟨⟩ (IK σ x):=by
 simp only [yZ,dL,aJ,bQ]
end
section
variable {k : TV × St → Prop} {u:Tok k} {key n:Nat} {gv:Bool}
@[go_sem] theorem agM {x:FV}:qP gv σ (.f x) = some (.f x,σ):=rfl
@[go_sem] theorem acs : qP gv σ .bK = some (.f (.sl []),σ):=rfl
@[go_sem] theorem acu : qP gv σ .iw = some (.iw,σ):=rfl
@[go_sem] theorem ZJ : qP gv σ .eH = some (.eH,σ):=rfl
@[go_sem] theorem aeK {cs:List FV}:qP gv σ (.fp cs) = some (.fp cs,σ):=rfl
@[go_sem] theorem aeL {f:FuncId} {cs:List (List FV)}:qP gv σ (.fn f cs) = some (.fn f cs,σ):=rfl
@[go_sem ↓] theorem XI : W k u (qP false σ (.own key n)) ↔ W (fun o=>k (.f (.sl o.2),σ)) ⟨⟩ (gX σ key):=by
 simp only [qP,gX,dL]
 cases get σ.ob key with
 | none=>exact bT
 | some o=>cases o <;> first | exact bT | exact kS ah6
@[go_sem ↓] theorem Vo : W k u (qP true σ (.own key n)) ↔ W (fun o=>k (.own o.1 o.2,⟨σ.tm,rem σ.ob key⟩)) ⟨⟩ (gX σ key):=by
 simp only [qP,gX,dL]
 cases get σ.ob key with
 | none=>exact bT
 | some o=>cases o <;> first | exact bT | exact kS ah6
@[go_sem ↓] theorem ZK : W k u (qP gv σ (.mp key)) ↔ W (fun o=>k (.mp o.1 o.2,⟨σ.tm,rem σ.ob key⟩)) ⟨⟩ (nN σ key):=by
 simp only [qP,nN,dL]
 cases get σ.ob key with
 | none=>exact bT
 | some o=>cases o <;> first | exact bT | exact kS ah6
@[go_sem ↓] theorem XJ : W k u (qP gv σ (.ptr key 0)) ↔ W (fun xs=>W (fun p=>k (.ptr p.1,p.2)) ⟨⟩ (yZ ⟨σ.tm,rem σ.ob key⟩ xs)) ⟨⟩ (oC σ key):=by
 simp only [qP,oC,dL]
 cases get σ.ob key with
 | none=>exact bT
 | some o=>cases o <;> first | exact bT | (simp only [oc,aZ,bQ])
end
section
variable {k : List TV × St → Prop} {u:Tok k} {gv:Bool}
@[go_sem ↓] theorem Vp : W k u (qQ gv σ []) ↔ k ([],σ):=gu
@[go_sem ↓] theorem SH {x:PL} {xs:List PL}:W k u (qQ gv σ (x :: xs)) ↔ W (fun p=>W (fun r=>k (p.1 :: r.1,r.2)) ⟨⟩ (qQ gv p.2 xs)) ⟨⟩ (qP gv σ x):=by
 simp only [qQ,dL,aJ,bQ]
end
section
variable {k : AV × St → Prop} {u:Tok k} {gv:Bool}
@[go_sem ↓] theorem XK {x:PL}:W k u (J7 gv σ (.one x)) ↔ W (fun p=>k (.one p.1,p.2)) ⟨⟩ (qP gv σ x):=by simp only [J7,dL,bQ]
@[go_sem ↓] theorem XL {xs:List PL}:W k u (J7 gv σ (.agg xs)) ↔ W (fun p=>k (.agg p.1,p.2)) ⟨⟩ (qQ gv σ xs):=by simp only [J7,dL,bQ]
end
section
variable {k : List AV × St → Prop} {u:Tok k} {gv:Bool}
@[go_sem ↓] theorem Vq : W k u (rA gv σ []) ↔ k ([],σ):=gu
@[go_sem ↓] theorem SI {x:CV} {xs:List CV}:W k u (rA gv σ (x :: xs)) ↔ W (fun p=>W (fun r=>k (p.1 :: r.1,r.2)) ⟨⟩ (rA gv p.2 xs)) ⟨⟩ (J7 gv σ x):=by
 simp only [rA,dL,aJ,bQ]
end
section
variable {k : List PL × St → Prop} {u:Tok k} {kf:Nat → Nat} {c base j:Nat} {pend:List PL}
@[go_sem ↓] theorem Vr : W k u (qz kf c pend σ []) ↔ k ([],σ):=by simp only [qz,dL,aZ]
def PI (kf:Nat → Nat) (c:Nat) (pend:List PL) (σ:St):CL → Option (PL × St)
 | .f x=>some (.f x,σ)
 | .iw=>some (.iw,σ)
 | .eH=>some (.eH,σ)
 | .mp sh ents=>(newP pend σ (kf c) (.map sh ents)).map fun s=>(.mp (kf c),s)
 | .own sz rows=>(newP pend σ (kf c + kf c % 2) (.row sz rows)).map fun s=>(.own (kf c + kf c % 2) rows.length,s)
@[go_sem ↓] theorem SL {x:CL} {xs:List CL}:W k u (qz kf c pend σ (x :: xs)) ↔ W (fun p=>W (fun r=>k (p.1 :: r.1,r.2)) ⟨⟩ (qz kf (c + 1) (p.1 :: pend) p.2 xs)) ⟨⟩ (PI kf c pend σ x):=by
 simp only [dL]
 cases x <;> simp only [qz,PI,aZ,aJ,bQ]
@[go_sem ↓] theorem Vs : W k u (wM base j pend σ []) ↔ k ([],σ):=by simp only [wM,dL,aZ]
@[go_sem ↓] theorem SN {x:TV} {xs:List TV}:W k u (wM base j pend σ (x :: xs)) ↔ W (fun p=>W (fun r=>k (p.1 :: r.1,r.2)) ⟨⟩ (wM base (j + 1) (p.1 :: pend) p.2 xs)) ⟨⟩ (CP (base + 200 * (j + 1)) pend σ x):=by
 simp only [wM,dL,aJ,bQ]
end
section
variable {k : PL × St → Prop} {u:Tok k} {kf:Nat → Nat} {c key:Nat} {pend:List PL}
@[go_sem] theorem agN {x:FV}:PI kf c pend σ (.f x) = some (.f x,σ):=rfl
@[go_sem] theorem acv : PI kf c pend σ .iw = some (.iw,σ):=rfl
@[go_sem] theorem ZL : PI kf c pend σ .eH = some (.eH,σ):=rfl
@[go_sem ↓] theorem ZM {sh:KS} {ents:List (KV × FC)}:W k u (PI kf c pend σ (.mp sh ents)) ↔ W (fun s=>k (.mp (kf c),s)) ⟨⟩ (newP pend σ (kf c) (.map sh ents)):=by simp only [PI,dL,bQ]
@[go_sem ↓] theorem XM {sz:Nat} {rows:List (List FV)}:W k u (PI kf c pend σ (.own sz rows)) ↔ W (fun s=>k (.own (kf c + kf c % 2) rows.length,s)) ⟨⟩ (newP pend σ (kf c + kf c % 2) (.row sz rows)):=by simp only [PI,dL,bQ]
@[go_sem] theorem agO {x:FV}:CP key pend σ (.f x) = some (.f x,σ):=rfl
@[go_sem] theorem acw : CP key pend σ .iw = some (.iw,σ):=rfl
@[go_sem] theorem ZN : CP key pend σ .eH = some (.eH,σ):=rfl
@[go_sem] theorem aeM {cs:List FV}:CP key pend σ (.fp cs) = some (.fp cs,σ):=rfl
@[go_sem] theorem aeN {f:FuncId} {cs:List (List FV)}:CP key pend σ (.fn f cs) = some (.fn f cs,σ):=rfl
@[go_sem] theorem acy : CP key pend σ .any = some (.any,σ):=rfl
@[go_sem ↓] theorem ZO {sh:KS} {ents:List (KV × FC)}:W k u (CP key pend σ (.mp sh ents)) ↔ W (fun s=>k (.mp key,s)) ⟨⟩ (newP pend σ key (.map sh ents)):=by simp only [CP,dL,bQ]
@[go_sem ↓] theorem XO {sz:Nat} {rows:List (List FV)}:W k u (CP key pend σ (.own sz rows)) ↔ W (fun s=>k (.own (ow key) rows.length,s)) ⟨⟩ (newP pend σ (ow key) (.row sz rows)):=by simp only [CP,dL,bQ]
@[go_sem ↓] theorem XP {cs:List CL}:W k u (CP key pend σ (.ptr cs)) ↔ W (fun p=>p.1.any (dR key) = false ∧ W (fun s=>k (.ptr key 0,s)) ⟨⟩ (newP pend p.2 key (.dM p.1))) ⟨⟩ (qz (OC key) 0 pend σ cs):=by
 simp only [CP,dL,aJ,cZ,bQ,aiY]
end
section
variable {k : CV × St → Prop} {u:Tok k} {base:Nat} {pend:List PL}
@[go_sem ↓] theorem XQ {x:TV}:W k u (J8 base pend σ (.one x)) ↔ W (fun p=>k (.one p.1,p.2)) ⟨⟩ (CP (base + 200) pend σ x):=by simp only [J8,dL,bQ]
@[go_sem ↓] theorem XR {xs:List TV}:W k u (J8 base pend σ (.agg xs)) ↔ W (fun p=>k (.agg p.1,p.2)) ⟨⟩ (wM base 0 pend σ xs):=by simp only [J8,dL,bQ]
end
section
variable {k : List CV × St → Prop} {u:Tok k} {base i:Nat} {pend:List PL} {bo:List Nat}
@[go_sem] theorem agP : ab bo i = if bo.contains i then dw i + 10001 else dw i + 1:=rfl
@[go_sem] theorem agQ {key:Nat}:ow key = if key / 10000 % 2 = 0 then key + key % 2 else key:=rfl
@[go_sem ↓] theorem Vt : W k u (wN base i pend σ []) ↔ k ([],σ):=by simp only [wN,dL,aZ]
@[go_sem ↓] theorem SQ {x:AV} {xs:List AV}:W k u (wN base i pend σ (x :: xs)) ↔ W (fun p=>W (fun r=>k (p.1 :: r.1,r.2)) ⟨⟩ (wN base (i + 1) (cells p.1 ++ pend) p.2 xs)) ⟨⟩ (J8 (base + 2000 * i) pend σ x):=by
 simp only [wN,dL,aJ,bQ]
@[go_sem ↓] theorem SS : W k u (enter bo i pend σ []) ↔ k ([],σ):=by simp only [enter,dL,aZ]
@[go_sem ↓] theorem PK {x:AV} {xs:List AV}:W k u (enter bo i pend σ (x :: xs)) ↔ W (fun p=>W (fun s=>W (fun r=>k (p.1 :: r.1,r.2)) ⟨⟩ (enter bo (i + 1) (cells p.1 ++ pend) s xs)) ⟨⟩ (some ⟨put p.2.tm i (.c p.1),p.2.ob⟩)) ⟨⟩ (J8 (ab bo i) pend σ x):=by
 simp only [enter,dL,aJ,bQ,aZ]
end
section
variable {k : St → Prop} {u:Tok k} {fB:St} {base:Nat} {pend:List PL}
@[go_sem ↓] theorem Vu : W k u (y5 fB pend base σ [] []) ↔ k σ:=by simp only [y5,dL,aZ]
@[go_sem ↓] theorem SX {x:CV} {xs:List CV} {y:AV} {ys:List AV}:W k u (y5 fB pend base σ (x :: xs) (y :: ys)) ↔ W (fun s=>W k ⟨⟩ (y5 fB pend (base + 1000) s xs ys)) ⟨⟩ (Yg fB pend base σ x y):=by
 simp only [y5,dL,aJ]
@[go_sem ↓] theorem XT {x:PL} {y:TV}:W k u (Yg fB pend base σ (.one x) (.one y)) ↔ W k ⟨⟩ (CQ fB pend base σ x y):=ah6
@[go_sem ↓] theorem XU {x:List PL} {y:List TV}:W k u (Yg fB pend base σ (.agg x) (.agg y)) ↔ W k ⟨⟩ (AZ fB pend base σ x y):=ah6
@[go_sem ↓] theorem Vv : W k u (AZ fB pend base σ [] []) ↔ k σ:=by simp only [AZ,dL,aZ]
@[go_sem ↓] theorem SY {x:PL} {xs:List PL} {y:TV} {ys:List TV}:W k u (AZ fB pend base σ (x :: xs) (y :: ys)) ↔ W (fun s=>W k ⟨⟩ (AZ fB pend (base + 200) s xs ys)) ⟨⟩ (CQ fB pend base σ x y):=by
 simp only [AZ,dL,aJ]
@[go_sem ↓] theorem XV {key off:Nat} {cs:List CL}:W k u (CQ fB pend base σ (.ptr key off) (.ptr cs)) ↔ W (fun xs=>W (fun p=>k (iY p.2 key (.dM p.1))) ⟨⟩ (qz (IL base xs) 0 pend σ cs)) ⟨⟩ (oC fB key):=by
 simp only [CQ,oC,dL]
 cases get fB.ob key with
 | none=>exact bT
 | some o=>cases o <;> first | exact bT | (simp only [oc,aZ,bQ])
@[go_sem] theorem aeO {key:Nat} {sh:KS} {ents:List (KV × FC)}:CQ fB pend base σ (.mp key) (.mp sh ents) = some (iY σ key (.map sh ents)):=rfl
@[go_sem] theorem ZP {key n sz:Nat} {rows:List (List FV)}:CQ fB pend base σ (.own key n) (.own sz rows) = some (iY σ key (.row sz rows)):=rfl
@[go_sem] theorem agR {x y:FV}:CQ fB pend base σ (.f x) (.f y) = some σ:=rfl
@[go_sem] theorem acz {y:FV}:CQ fB pend base σ .bK (.f y) = some σ:=rfl
@[go_sem] theorem acA : CQ fB pend base σ .iw .iw = some σ:=rfl
@[go_sem] theorem ZR : CQ fB pend base σ .eH .eH = some σ:=rfl
@[go_sem] theorem acB {key n:Nat} {y:FV}:CQ fB pend base σ (.own key n) (.f y) = some σ:=rfl
@[go_sem] theorem acC {key n:Nat}:CQ fB pend base σ (.own key n) .any = some σ:=rfl
@[go_sem] theorem aeP {a b:List FV}:CQ fB pend base σ (.fp a) (.fp b) = some σ:=rfl
@[go_sem] theorem aeQ {f g:FuncId} {a b:List (List FV)}:CQ fB pend base σ (.fn f a) (.fn g b) = some σ:=rfl
end
def XW (base c:Nat):Option PL → Nat
 | some (.mp k)=>if k % 2 = 0 then k else base + 2 * (c + 1)
 | some (.own k _)=>if k % 2 = 0 then k else base + 2 * (c + 1)
 | _=>base + 2 * (c + 1)
@[go_sem] theorem acD {base c:Nat} {xs:List PL}:IL base xs c = XW base c (xs[c]?):=by
 unfold IL
 cases xs[c]? with
 | none=>rfl
 | some x=>cases x <;> rfl
@[go_sem] theorem aeR {base c k:Nat}:XW base c (some (.mp k)) = if k % 2 = 0 then k else base + 2 * (c + 1):=rfl
@[go_sem] theorem acE {base c k n:Nat}:XW base c (some (.own k n)) = if k % 2 = 0 then k else base + 2 * (c + 1):=rfl
@[go_sem] theorem agS {base c:Nat} {x:FV}:XW base c (some (.f x)) = base + 2 * (c + 1):=rfl
@[go_sem] theorem acF {base c:Nat}:XW base c (some .bK) = base + 2 * (c + 1):=rfl
@[go_sem] theorem ZT {base c:Nat}:XW base c (some .eH) = base + 2 * (c + 1):=rfl
section
variable {k : TV × St → Prop} {u:Tok k} {key n:Nat}
@[go_sem] theorem aeS {x:FV}:outT σ (.f x) = some (.f x,σ):=rfl
@[go_sem] theorem ZU : outT σ .bK = some (.f (.sl []),σ):=rfl
@[go_sem] theorem ZV : outT σ .iw = some (.iw,σ):=rfl
@[go_sem] theorem XY : outT σ .eH = some (.eH,σ):=rfl
@[go_sem] theorem acG {cs:List FV}:outT σ (.fp cs) = some (.fp cs,σ):=rfl
@[go_sem] theorem acH {f:FuncId} {cs:List (List FV)}:outT σ (.fn f cs) = some (.fn f cs,σ):=rfl
@[go_sem ↓] theorem Vw : W k u (outT σ (.own key n)) ↔ W (fun p=>k (.f p.1,p.2)) ⟨⟩ (uU σ (.own key n)):=by simp only [outT,dL,bQ]
@[go_sem ↓] theorem XZ : W k u (outT σ (.mp key)) ↔ W (fun o=>k (.mp o.1 o.2,⟨σ.tm,rem σ.ob key⟩)) ⟨⟩ (nN σ key):=by
 simp only [outT,nN,dL]
 cases get σ.ob key with
 | none=>exact bT
 | some o=>cases o <;> first | exact bT | exact kS ah6
@[go_sem ↓] theorem Vx : W k u (outT σ (.ptr key 0)) ↔ W (fun xs=>W (fun p=>k (.ptr p.1,p.2)) ⟨⟩ (yZ ⟨σ.tm,rem σ.ob key⟩ xs)) ⟨⟩ (oC σ key):=by
 simp only [outT,oC,dL]
 cases get σ.ob key with
 | none=>exact bT
 | some o=>cases o <;> first | exact bT | (simp only [oc,aZ,bQ])
@[go_sem ↓] theorem Vy {sz:Nat}:W k u (A8 sz σ (.own key n)) ↔ W (fun o=>o.1 = sz ∧ k (.own sz o.2,⟨σ.tm,rem σ.ob key⟩)) ⟨⟩ (gX σ key):=by
 simp only [A8,gX,dL]
 cases get σ.ob key with
 | none=>exact bT
 | some o=>cases o <;> first | exact bT | (simp only [Ls,aZ,bF])
@[go_sem ↓] theorem Vz {sz:Nat}:W k u (A8 sz σ .bK) ↔ ¬ sz = 0 ∧ k (.own sz [],σ):=by simp only [A8,dL,cZ,aZ]
@[go_sem] theorem acI {x:PL} {y:FV}:jB σ x (.f y) = some (.f y,σ):=by cases x <;> first | rfl | (rename_i a b;cases b <;> rfl)
@[go_sem] theorem X0 {x:PL}:jB σ x .iw = some (.iw,σ):=by cases x <;> first | rfl | (rename_i a b;cases b <;> rfl)
@[go_sem] theorem VA {x:PL}:jB σ x .eH = some (.eH,σ):=by cases x <;> first | rfl | (rename_i a b;cases b <;> rfl)
def bko (σ:St) (key:Nat):Nat → Option (TV × St)
 | 1=>(Ls (get σ.ob key)).map fun p=>(.own p.1 p.2,⟨σ.tm,rem σ.ob key⟩)
 | _=>some (.any,σ)
@[go_sem] theorem agT : bko σ key 0 = some (.any,σ):=rfl
@[go_sem] theorem ZW : bko σ key 1 = (Ls (get σ.ob key)).map fun p=>(.own p.1 p.2,⟨σ.tm,rem σ.ob key⟩):=rfl
@[go_sem] theorem X3 {n sz:Nat} {rows:List (List FV)}:jB σ (.own key n) (.own sz rows) = bko σ key (key % 2):=by
 simp only [jB]
 rcases Nat.mod_two_eq_zero_or_one key with h | h
 ·rw [h,ahY (by decide)];rfl
 ·rw [h,ahX rfl,ZW]
  cases get σ.ob key with
  | none=>rfl
  | some o=>cases o <;> rfl
@[go_sem] theorem X4 {sz:Nat} {rows:List (List FV)}:jB σ .bK (.own sz rows) = some (.any,σ):=rfl
@[go_sem] theorem X5 {x:PL}:jB σ x .any = some (.any,σ):=by cases x <;> first | rfl | (rename_i a b;cases b <;> rfl)
@[go_sem] theorem ZX {x:PL} {cs:List FV}:jB σ x (.fp cs) = some (.fp cs,σ):=by cases x <;> first | rfl | (rename_i a b;cases b <;> rfl)
@[go_sem] theorem ZY {x:PL} {f:FuncId} {cs:List (List FV)}:jB σ x (.fn f cs) = some (.fn f cs,σ):=by cases x <;> first | rfl | (rename_i a b;cases b <;> rfl)
@[go_sem ↓] theorem S9 {cs:List CL}:W k u (jB σ (.ptr key 0) (.ptr cs)) ↔ key % 2 = 1 ∧ W k ⟨⟩ (outT σ (.ptr key 0)):=by simp only [jB,dL,bF]
@[go_sem ↓] theorem VB {sh:KS} {ents:List (KV × FC)}:W k u (jB σ (.mp key) (.mp sh ents)) ↔ key % 2 = 1 ∧ W k ⟨⟩ (outT σ (.mp key)):=by simp only [jB,dL,bF]
end
section
variable {k : List TV × St → Prop} {u:Tok k}
@[go_sem ↓] theorem Ta : W k u (uV σ []) ↔ k ([],σ):=gu
@[go_sem ↓] theorem PN {x:PL} {xs:List PL}:W k u (uV σ (x :: xs)) ↔ W (fun p=>W (fun r=>k (p.1 :: r.1,r.2)) ⟨⟩ (uV p.2 xs)) ⟨⟩ (outT σ x):=by
 simp only [uV,dL,aJ,bQ]
@[go_sem ↓] theorem PO : W k u (nK σ [] []) ↔ k ([],σ):=by simp only [nK,dL,aZ]
@[go_sem ↓] theorem Ou {l:PL} {ls:List PL} {x:TV} {xs:List TV}:W k u (nK σ (l :: ls) (x :: xs)) ↔ W (fun p=>W (fun r=>k (p.1 :: r.1,r.2)) ⟨⟩ (nK p.2 ls xs)) ⟨⟩ (jB σ l x):=by
 simp only [nK,dL,aJ,bQ]
end
section
variable {k : AV × St → Prop} {u:Tok k}
@[go_sem ↓] theorem Ka {x:PL}:W k u (A9 none σ (.one x)) ↔ W (fun p=>k (.one p.1,p.2)) ⟨⟩ (outT σ x):=by simp only [A9,OH,dL,bQ]
@[go_sem ↓] theorem Ke {xs:List PL}:W k u (A9 none σ (.agg xs)) ↔ W (fun p=>k (.agg p.1,p.2)) ⟨⟩ (uV σ xs):=by simp only [A9,OH,dL,bQ]
@[go_sem ↓] theorem Tc {sz:Nat} {x:PL}:W k u (A9 (some sz) σ (.one x)) ↔ W (fun p=>k (.one p.1,p.2)) ⟨⟩ (A8 sz σ x):=by simp only [A9,dL,bQ]
@[go_sem ↓] theorem Td {l:PL} {x:TV}:W k u (wP σ (.one l) (.one x)) ↔ W (fun p=>k (.one p.1,p.2)) ⟨⟩ (jB σ l x):=by simp only [wP,dL,bQ]
@[go_sem ↓] theorem Te {l:List PL} {x:List TV}:W k u (wP σ (.agg l) (.agg x)) ↔ W (fun p=>k (.agg p.1,p.2)) ⟨⟩ (nK σ l x):=by simp only [wP,dL,bQ]
end
section
variable {k : List AV × St → Prop} {u:Tok k}
@[go_sem ↓] theorem Tf {fl:List (Option Nat)}:W k u (lV fl σ []) ↔ k ([],σ):=by simp only [lV,dL,aZ]
@[go_sem ↓] theorem PS {fl:List (Option Nat)} {x:CV} {xs:List CV}:W k u (lV fl σ (x :: xs)) ↔ W (fun p=>W (fun r=>k (p.1 :: r.1,r.2)) ⟨⟩ (lV fl.tail p.2 xs)) ⟨⟩ (A9 (fl.headD none) σ x):=by
 simp only [lV,dL,aJ,bQ]
@[go_sem ↓] theorem PU : W k u (jF σ [] []) ↔ k ([],σ):=by simp only [jF,dL,aZ]
@[go_sem ↓] theorem Ov {l:CV} {ls:List CV} {x:AV} {xs:List AV}:W k u (jF σ (l :: ls) (x :: xs)) ↔ W (fun p=>W (fun r=>k (p.1 :: r.1,r.2)) ⟨⟩ (jF p.2 ls xs)) ⟨⟩ (wP σ l x):=by
 simp only [jF,dL,aJ,bQ]
end
section
variable {k : St → Prop} {u:Tok k} {gv:Bool} {d:Nat} {args:List CV} {p:List AV × St} {r:List AV × List AV} {s:St}
@[go_sem ↓] theorem aeT : W k u (Fx gv args p r) ↔ (if (!gv && ((r.1.any vM || !p.1.all fC) && args.any (fun x=>(cells x).any fP))) = true then W k ⟨⟩ (rD p.2 args) else k p.2):=by
 simp only [Fx,dL]
 split
 ·exact ah6
 ·exact aZ
@[go_sem ↓] theorem aeU : W k u (Fy d σ args p r s) ↔ (if p.1.all fC = true then k s else W k ⟨⟩ (y5 σ (args.flatMap cells) (dw d + 10000) s args r.2)):=by
 simp only [Fy,dL]
 split
 ·exact aZ
 ·exact ah6
end
end
section
variable {σ : St} {ks AX:List Nat} {rws:List (Nat × Nat)}
@[go_sem] theorem aeV : res ks AX rws σ = ⟨pick ks (iK σ rws).tm,pick AX (iK σ rws).ob⟩:=rfl
@[go_sem] theorem acJ : iK σ [] = σ:=rfl
end
attribute [go_sem] if_true if_false true_and and_true Bool.not_false Bool.not_true Bool.and_false Bool.false_and Bool.and_true Bool.true_and Bool.or_false Bool.false_or Bool.or_true Bool.true_or Bool.false_eq_true not_true_eq_false not_false_eq_true ne_eq forall_const and_self implies_true KV.one.injEq KV.agg.injEq SV.str.injEq SV.int.injEq SV.bool.injEq List.cons.injEq List.getElem?_cons_zero List.getElem?_cons_succ List.getD_cons_zero List.getD_cons_succ List.contains_cons List.contains_nil decide_true decide_false fresh
end
end Go.Proofs.YtfokaoeinpnagaaGreat.Ev
namespace Go.Proofs.YtfokaoeinpnagaaGreat.Kc
section
open Go Ev
def ak (d:Nat) (i:I):G:=⟨some d,none,i⟩
def bU (i:I):G:=⟨none,none,i⟩
def aR (d s:Nat) (b:Bool) (i:I):G:=⟨some d,some (some s,b),i⟩
def bD (n:Int):dF:=.k (.one (.f (.int .i64 n)))
def aD : PL:=.f (.int .i64 0)
def bq : PL:=.f (.str ⟨#[]⟩)
def dB (a b s:Nat):Nat × Nat × dF:=⟨a,b,.t s⟩
def dU : dF:=.k (.one (.f (.bool true)))
def cB : dF:=.k (.one (.f (.bool false)))
def aC (d s:Nat):G:=⟨some d,none,.mv (.t s)⟩
def bP (d s:Nat):G:=⟨some d,none,.load 1 false (.t s)⟩
def bV (d n s:Nat):G:=⟨some d,none,.load n true (.t s)⟩
def bI (d f s:Nat):G:=⟨some d,none,.fa f (.t s)⟩
def aN (a:List G) (b:List Nat) (c:CC):CC:=.seq (.reg a b) c
def c48 : CF:=⟨1,[(.t 2)],[],[],(aN [ak 2 (.mv (.k (.one .iw)))] [0] (.seq (aN [aC 3 0,ak 4 (.cmp .lt (.t 3) (bD 1)),aC 5 4,aR 6 5 false (.mv (.t 0)),aR 7 5 false (.cmp .gt (.t 6) (bD 1000)),ak 8 (.pick (.t 5) dU (.t 7))] [0,8] (.cond (.t 8) (aN [ak 2 (.mv (.k (.one .iw)))] [2] .ret) .skip)) (aN [aC 9 0,ak 10 (.oJ (.agg [.str,(.int .i64),(.int .i64)])),ak 11 (.build [aD,.eH,.bK,aD] [dB 0 1 9,dB 1 1 10]),ak 12 (.box 162 (.t 11)),aC 2 12] [2] .ret)))⟩
def Z0 : CF:=⟨3,[(.cell 6 7 true),(.t 7)],[],[],(aN [ak 5 (.box 24 (.t 2)),ak 6 (.alloc 106 [bq,aD,aD,.bK,aD,aD,aD]),ak 7 (.mv cB)] [0,1,5,6] (.seq (aN [aC 10 0,ak 11 (.wF false (.t 10))] [0,1,5,6,11] (.cond (.t 11) (aN [ak 12 (.build [bq,aD,aD,.bK,aD,aD,aD] []),bU (.store 7 (.t 6) (.t 12)),ak 7 (.mv cB)] [6,7] .ret) .skip)) (.seq (.oH [⟨aC 14 0,[180000]⟩,⟨ak 15 (.gH (.t 14)),[180000]⟩,⟨bI 16 1 15,[180000]⟩,⟨bP 17 16,[180000]⟩,⟨bV 18 3 5,[180000]⟩,⟨⟨(some 19),none,(.look (.agg [.str,(.int .i64),(.int .i64)]) (.agg [(.str ⟨#[]⟩),(.int .i64 0),(.int .i64 0),(.sl []),(.int .i64 0),(.int .i64 0),(.int .i64 0)]) true (.t 17) (.t 18))⟩,[180000]⟩,⟨aC 13 19,[180000]⟩,⟨ak 20 (.ext (.t 13) 0),[180000]⟩,⟨ak 21 (.ext (.t 13) 1),[180000]⟩,⟨ak 8 (.alloc 106 [bq,aD,aD,.bK,aD,aD,aD]),[]⟩] [8] [bU (.store 7 (.t 8) (.t 20))] [aC 9 21] [1,6,8,9]) (.seq (aN [aC 22 9,ak 23 (.no (.t 22)),aC 24 23,aR 25 24 false (.mv (.t 1)),aR 26 24 false (.fa 5 (.t 8)),aR 27 24 false (.load 1 false (.t 26)),aR 28 24 false (.call false 78 [(.t 25),(.t 27)]),aR 29 24 false (.no (.t 28)),ak 30 (.pick (.t 24) dU (.t 29))] [6,8,30] (.cond (.t 30) (aN [ak 31 (.build [bq,aD,aD,.bK,aD,aD,aD] []),bU (.store 7 (.t 6) (.t 31)),ak 7 (.mv cB)] [6,7] .ret) .skip)) (aN [bV 32 7 8,ak 33 (.call false 79 [(.t 32)]),bU (.store 7 (.t 6) (.t 33)),ak 7 (.mv dU)] [6,7] .ret)))))⟩
def c107 : CF:=⟨2,[(.t 4)],[],[],(aN [ak 2 (.box 42 (.t 0)),ak 3 (.box 42 (.t 1)),ak 4 (.mv cB)] [2,3] (aN [bI 5 0 2,bV 6 3 5,bI 7 0 3,bV 8 3 7,ak 9 (.oG (.agg [.str,(.int .i64),(.int .i64)]) false (.t 6) (.t 8)),aC 10 9,aR 11 10 true (.fa 4 (.t 2)),aR 12 10 true (.load 1 false (.t 11)),aR 13 10 true (.fa 4 (.t 3)),aR 14 10 true (.load 1 false (.t 13)),aR 15 10 true (.cmp .eq (.t 12) (.t 14)),ak 16 (.pick (.t 10) (.t 15) cB),aC 17 16,aR 18 17 true (.fa 3 (.t 2)),aR 19 17 true (.load 1 false (.t 18)),aR 20 17 true (.fa 3 (.t 3)),aR 21 17 true (.load 1 false (.t 20)),aR 22 17 true (.call false 38 [(.t 19),(.t 21)]),ak 23 (.pick (.t 17) (.t 22) cB),aC 4 23] [4] .ret))⟩
def c45 : CF:=⟨1,[(.t 2)],[],[],(aN [ak 1 (.box 42 (.t 0)),ak 2 (.mv cB)] [1] (.seq (aN [ak 3 (.mv (bD 0))] [1,3] (.block 0 (.loop [1,3] [20802,40000] [] (.seq (aN [aC 4 3,bI 5 3 1,bP 6 5,ak 7 (.fV (.t 6)),ak 8 (.cmp .lt (.t 4) (.t 7))] [1,3,8] (.cond (.t 8) .skip (.exit 0))) (.seq (.block 1 (aN [bI 11 3 1,bP 12 11,aC 13 3,ak 14 (.ia 1 (.t 12) (.t 13)),bP 15 14,ak 16 (.wH (.t 15)),ak 17 (.cmp .gt (.t 16) (bD 2000)),aC 18 17,aR 19 18 false (.fa 3 (.t 1)),aR 20 18 false (.load 1 false (.t 19)),aR 21 18 false (.fV (.t 20)),aR 22 18 false (.cmp .gt (.t 21) (bD 60)),ak 23 (.pick (.t 18) dU (.t 22))] [1,3,23] (.cond (.t 23) (aN [ak 2 (.mv cB)] [2] .ret) .skip))) (.reg [aC 9 3,ak 10 (.ar .add (.t 9) (bD 1)),aC 3 10] [1,3])))))) (aN [bI 24 0 1,bI 25 0 24,bP 26 25,ak 27 (.wH (.t 26)),ak 28 (.cmp .le (.t 27) (bD 300)),aC 2 28] [2] .ret)))⟩
def c82 : CF:=⟨2,[(.t 4)],[],[],(aN [ak 4 (.mv (bD 0))] [0,1] (.seq (aN [aC 5 0,ak 6 (.call false 111 [(.t 5),(bD 1099511627776)]),ak 7 (.no (.t 6)),aC 8 7,aR 9 8 false (.mv (.t 1)),aR 10 8 false (.cmp .lt (.t 9) (bD 0)),ak 11 (.pick (.t 8) dU (.t 10))] [0,1,11] (.cond (.t 11) (aN [ak 4 (.mv (bD (-1)))] [4] .ret) .skip)) (aN [aC 12 0,aC 13 1,ak 14 (.mn (.t 13) (bD 604800)),ak 15 (.ar .add (.t 12) (.t 14)),aC 4 15] [4] .ret)))⟩
def VD : CF:=⟨3,[(.t 6)],[],[],(aN [ak 5 (.box 106 (.t 2)),ak 6 (.mv (bD 0))] [0,1,5] (.seq (aN [aC 9 0,ak 10 (.wF false (.t 9)),aC 11 10,aR 12 11 false (.fa 5 (.t 5)),aR 13 11 false (.load 1 false (.t 12)),aR 14 11 false (.cmp .lt (.t 13) (bD 0)),ak 15 (.pick (.t 11) dU (.t 14)),aC 16 15,aR 17 16 false (.fa 0 (.t 5)),aR 18 16 false (.load 5 true (.t 17)),aR 19 16 false (.call false 113 [(.t 18)]),aR 20 16 false (.no (.t 19)),ak 21 (.pick (.t 16) dU (.t 20)),aC 22 21,aR 23 22 false (.fa 6 (.t 5)),aR 24 22 false (.load 1 false (.t 23)),aR 25 22 false (.cmp .lt (.t 24) (bD 1)),ak 26 (.pick (.t 22) dU (.t 25)),aC 27 26,aR 28 27 false (.fa 6 (.t 5)),aR 29 27 false (.load 1 false (.t 28)),aR 30 27 false (.cmp .gt (.t 29) (bD 5)),ak 31 (.pick (.t 27) dU (.t 30))] [0,1,5,31] (.cond (.t 31) (aN [ak 6 (.mv (bD 1))] [6] .ret) .skip)) (.seq (aN [aC 32 1,bI 33 5 5,bP 34 33,ak 35 (.call false 78 [(.t 32),(.t 34)]),ak 36 (.no (.t 35))] [0,1,5,36] (.cond (.t 36) (aN [ak 6 (.mv (bD 14))] [6] .ret) .skip)) (.seq (.oH [⟨aC 38 0,[160000]⟩,⟨ak 39 (.gH (.t 38)),[160000]⟩,⟨bI 40 1 39,[160000]⟩,⟨bP 41 40,[160000]⟩,⟨bI 42 0 5,[160000]⟩,⟨bI 43 0 42,[160000]⟩,⟨bV 44 3 43,[160000]⟩,⟨⟨(some 45),none,(.look (.agg [.str,(.int .i64),(.int .i64)]) (.agg [(.str ⟨#[]⟩),(.int .i64 0),(.int .i64 0),(.sl []),(.int .i64 0),(.int .i64 0),(.int .i64 0)]) true (.t 41) (.t 44))⟩,[160000]⟩,⟨aC 37 45,[160000]⟩,⟨ak 46 (.ext (.t 37) 0),[160000]⟩,⟨ak 47 (.ext (.t 37) 1),[160000]⟩,⟨ak 7 (.alloc 106 [bq,aD,aD,.bK,aD,aD,aD]),[]⟩] [10] [bU (.store 7 (.t 7) (.t 46))] [aC 8 47] [1,5,7,8]) (.seq (.seq (.oH [⟨aC 48 8,[]⟩,⟨aC 49 48,[]⟩,⟨aR 50 49 true (.fa 6 (.t 7)),[]⟩,⟨aR 51 49 true (.load 1 false (.t 50)),[]⟩,⟨aR 52 49 true (.mv (.t 1)),[]⟩,⟨aR 53 49 true (.fa 5 (.t 7)),[]⟩,⟨aR 54 49 true (.load 1 false (.t 53)),[]⟩,⟨aR 55 49 true (.call false 78 [(.t 52),(.t 54)]),[]⟩,⟨aR 56 49 true (.fa 6 (.t 5)),[]⟩,⟨aR 57 49 true (.load 1 false (.t 56)),[]⟩] [] [] [aR 58 49 true (.call false 114 [(.t 51),(.t 55),(.t 57)]),aR 59 49 true (.no (.t 58)),ak 60 (.pick (.t 49) (.t 59) cB)] [60]) (.cond (.t 60) (aN [ak 6 (.mv (bD 10))] [6] .ret) .skip)) (aN [ak 6 (.mv (bD 0))] [6] .ret))))))⟩
def c79 : CF:=⟨1,[(.cell 2 7 true)],[],[],(aN [ak 1 (.box 106 (.t 0)),ak 2 (.alloc 106 [bq,aD,aD,.bK,aD,aD,aD])] [1,2] (aN [bI 3 0 1,bI 4 3 3,bP 5 4,ak 6 (.call false 72 [(.t 5)]),bI 7 0 1,bI 8 3 7,bU (.store 1 (.t 8) (.t 6))] [1,2] (aN [bV 9 7 1,bU (.store 7 (.t 2) (.t 9))] [2] .ret)))⟩
def c85 : CF:=⟨2,[(.t 4),(.t 5)],[],[],(aN [ak 4 (.mv (.k (.one .bK))),ak 5 (.mv (.k (.one .bK)))] [0,1] (aN [aC 7 0,ak 8 (.fV (.t 7)),aC 9 1,aC 10 0,ak 11 (.fV (.t 10)),ak 12 (.mn (.t 9) (.t 11)),ak 13 (.mx (.t 12) (bD 0)),ak 14 (.ar .sub (.t 8) (.t 13)),aC 6 14] [0,6] (.seq (.oH [⟨aC 15 0,[]⟩,⟨aC 16 6,[]⟩,⟨ak 17 (.cut 3 (.t 15) (some (.t 16)) none),[]⟩,⟨ak 18 (.call false 115 [(.t 17)]),[]⟩,⟨aC 19 0,[]⟩,⟨aC 20 6,[]⟩,⟨ak 21 (.cut 3 (.t 19) none (some (.t 20))),[]⟩] [] [] [ak 22 (.call false 115 [(.t 21)]),aC 4 18,aC 5 22] [4,5]) .ret)))⟩
def c86 : CF:=⟨2,[(.t 4)],[],[],(aN [ak 3 (.box 24 (.t 1)),ak 4 (.mv (.k (.one .bK)))] [0,3] (.seq (.oH [⟨aC 5 0,[160000,200000]⟩,⟨bV 6 3 3,[160000,200000]⟩,⟨ak 7 (.yX 116 [(.t 5),(.t 6)]),[200000]⟩,⟨bV 8 3 3,[160000,200000]⟩,⟨ak 9 (.wh 24 3 1 [bq,aD,aD] [dB 0 3 8]),[160000]⟩] [] [] [ak 10 (.app 24 3 32 (.t 7) (.t 9)),aC 4 10] [4]) .ret))⟩
def c78 : CF:=⟨2,[(.t 4)],[],[],(aN [ak 4 (.mv cB)] [0,1] (aN [aC 5 0,ak 6 (.call false 111 [(.t 5),(bD 1099511627776)]),aC 7 6,aR 8 7 true (.mv (.t 0)),aR 9 7 true (.mv (.t 1)),aR 10 7 true (.cmp .lt (.t 8) (.t 9)),ak 11 (.pick (.t 7) (.t 10) cB),aC 4 11] [4] .ret))⟩
def c116 : CF:=⟨2,[(.t 4)],[some 3],[],(aN [ak 3 (.box 24 (.t 1)),ak 4 (.mv (.k (.one .bK)))] [0,3] (aN [aC 5 0,ak 6 (.call false 115 [(.t 5)]),ak 7 (.OA 135 [(.t 3)]),ak 8 (.call true 134 [(.t 6),(.t 7)]),aC 4 8] [4] .ret))⟩
def Ow : CF:=⟨2,[(.t 4)],[],[],(aN [ak 4 (.mv cB)] [0,1] (.seq (aN [aC 6 0,ak 7 (.fV (.t 6)),aC 8 1,ak 9 (.fV (.t 8)),ak 10 (.cmp .ne (.t 7) (.t 9))] [0,1,10] (.cond (.t 10) (aN [ak 4 (.mv cB)] [4] .ret) .skip)) (.seq (aN [ak 5 (.mv (bD 0))] [0,1,5] (.block 0 (.loop [0,1,5] [20202,40202] [] (.seq (aN [aC 11 5,aC 12 0,ak 13 (.fV (.t 12)),ak 14 (.cmp .lt (.t 11) (.t 13))] [0,1,5,14] (.cond (.t 14) .skip (.exit 0))) (.seq (.block 1 (.seq (.oH [⟨aC 17 0,[]⟩,⟨aC 18 5,[]⟩,⟨ak 19 (.ia 1 (.t 17) (.t 18)),[]⟩,⟨bP 20 19,[]⟩,⟨aC 21 1,[]⟩,⟨aC 22 5,[]⟩,⟨ak 23 (.ia 1 (.t 21) (.t 22)),[]⟩,⟨bP 24 23,[]⟩] [] [] [ak 25 (.oG (.one .str) true (.t 20) (.t 24))] [0,1,5,25]) (.cond (.t 25) (aN [ak 4 (.mv cB)] [4] .ret) .skip))) (.reg [aC 15 5,ak 16 (.ar .add (.t 15) (bD 1)),aC 5 16] [0,1,5])))))) (aN [ak 4 (.mv dU)] [4] .ret))))⟩
def PW : CF:=⟨1,[(.t 2)],[],[],(aN [ak 1 (.box 42 (.t 0)),ak 2 (.mv cB)] [1] (aN [bI 6 0 1,bV 7 3 6,ak 3 (.alloc 24 [bq,aD,aD]),bU (.store 3 (.t 3) (.t 7))] [1,3] (.seq (.seq (.oH [⟨bI 8 0 3,[]⟩,⟨bP 9 8,[]⟩,⟨ak 10 (.call false 109 [(.t 9)]),[]⟩,⟨ak 11 (.no (.t 10)),[]⟩,⟨aC 12 11,[]⟩,⟨aR 13 12 false (.fa 0 (.t 3)),[]⟩,⟨aR 14 12 false (.load 1 false (.t 13)),[]⟩,⟨aR 15 12 false (.call false 68 [(.t 14)]),[]⟩,⟨aR 16 12 false (.fa 0 (.t 3)),[]⟩,⟨aR 17 12 false (.load 1 false (.t 16)),[]⟩] [] [] [aR 18 12 false (.oG (.one .str) true (.t 15) (.t 17)),ak 19 (.pick (.t 12) dU (.t 18)),aC 20 19,aR 21 20 false (.fa 1 (.t 3)),aR 22 20 false (.load 1 false (.t 21)),aR 23 20 false (.call false 131 [(.t 22),(bD 65535)]),aR 24 20 false (.no (.t 23)),ak 25 (.pick (.t 20) dU (.t 24)),aC 26 25,aR 27 26 false (.fa 2 (.t 3)),aR 28 26 false (.load 1 false (.t 27)),aR 29 26 false (.call false 131 [(.t 28),(bD 65535)]),aR 30 26 false (.no (.t 29)),ak 31 (.pick (.t 26) dU (.t 30)),aC 32 31,aR 33 32 false (.fa 4 (.t 1)),aR 34 32 false (.load 1 false (.t 33)),aR 35 32 false (.call false 131 [(.t 34),(bD 2147483647)]),aR 36 32 false (.no (.t 35)),ak 37 (.pick (.t 32) dU (.t 36))] [1,3,37]) (.cond (.t 37) (aN [ak 2 (.mv cB)] [2] .ret) .skip)) (.seq (aN [bI 38 3 1,bP 39 38,ak 40 (.fV (.t 39)),ak 41 (.mv (bD 0))] [1,3,39,40,41] (.block 0 (.loop [1,3,39,40,41] [20802,40000,80000] [] (aN [ak 42 (.cmp .lt (.t 41) (.t 40))] [1,3,39,40,41,42] (.seq (.cond (.t 42) .skip (.exit 0)) (.seq (.block 1 (aN [aC 43 41,ak 44 (.ia 1 (.t 39) (.t 41)),bP 45 44,aC 4 43,aC 5 45] [1,3,4,5,39,40,41] (aN [bI 46 1 3,bP 47 46,aC 48 5,ak 49 (.call false 128 [(.t 47),(.t 48)]),ak 50 (.no (.t 49)),aC 51 50,aR 52 51 false (.fa 1 (.t 3)),aR 53 51 false (.load 1 false (.t 52)),aR 54 51 false (.mv (.t 5)),aR 55 51 false (.call false 132 [(.t 53),(.t 54)]),aR 56 51 false (.mv (.t 5)),aR 57 51 false (.oG (.one .str) true (.t 55) (.t 56)),ak 58 (.pick (.t 51) dU (.t 57)),aC 59 58,aR 60 59 false (.fa 3 (.t 1)),aR 61 59 false (.load 1 false (.t 60)),aR 62 59 false (.mv (.t 4)),aR 63 59 false (.cut 1 (.t 61) none (some (.t 62))),aR 64 59 false (.mv (.t 5)),aR 65 59 false (.call false 133 [(.t 63),(.t 64)]),ak 66 (.pick (.t 59) dU (.t 65))] [1,3,39,40,41,66] (.cond (.t 66) (aN [ak 2 (.mv cB)] [2] .ret) .skip)))) (.reg [ak 67 (.ar .add (.t 41) (bD 1)),aC 41 67] [1,3,39,40,41]))))))) (aN [bI 68 3 1,bP 69 68,ak 70 (.fV (.t 69)),ak 71 (.cmp .gt (.t 70) (bD 0)),aC 2 71] [2] .ret)))))⟩
def PX : CF:=⟨2,[(.t 4)],[],[],(aN [ak 4 (.mv cB)] [0,1] (aN [aC 5 0,ak 6 (.cmp .ge (.t 5) (bD 0)),aC 7 6,aR 8 7 true (.mv (.t 0)),aR 9 7 true (.mv (.t 1)),aR 10 7 true (.cmp .le (.t 8) (.t 9)),ak 11 (.pick (.t 7) (.t 10) cB),aC 4 11] [4] .ret))⟩
def PY : CF:=⟨3,[(.t 6)],[],[],(aN [ak 6 (.mv cB)] [0,1,2] (aN [aC 7 2,ak 8 (.call false 122 [(.t 7),(bD 1)]),aC 9 8,aR 10 9 true (.mv (.t 1)),aR 11 9 true (.no (.t 10)),aR 12 9 true (.mv (.t 11)),aR 13 12 false (.mv (.t 2)),aR 14 12 false (.mv (.t 0)),aR 15 12 false (.cmp .ge (.t 13) (.t 14)),aR 16 9 true (.pick (.t 12) dU (.t 15)),ak 17 (.pick (.t 9) (.t 16) cB),aC 6 17] [6] .ret))⟩
def PZ : CF:=⟨2,[(.t 4)],[some 3],[],(aN [ak 4 (.mv (.k (.one .bK)))] [0,1] (aN [aC 8 0,aC 9 1,ak 10 (.call false 149 [(.t 8),(.t 9)]),aC 5 10] [0,1,5] (.seq (aN [aC 11 5,ak 12 (.cmp .eq (.t 11) (bD (-1)))] [0,1,5,12] (.cond (.t 12) (aN [aC 13 0,aC 4 13] [4] .ret) .skip)) (.seq (aN [aC 14 5,ak 15 (.ar .add (.t 14) (bD 1)),aC 6 15] [0,1,5,6] (.block 0 (.loop [0,1,5,6] [20202] [] (.seq (aN [aC 16 6,aC 17 0,ak 18 (.fV (.t 17)),ak 19 (.cmp .lt (.t 16) (.t 18))] [0,1,5,6,19] (.cond (.t 19) .skip (.exit 0))) (.seq (.block 1 (aN [aC 22 0,aC 23 6,ak 24 (.ia 3 (.t 22) (.t 23)),bV 25 3 24,ak 7 (.alloc 24 [bq,aD,aD]),bU (.store 3 (.t 7) (.t 25))] [0,1,5,6,7] (aN [aC 26 1,bV 27 3 7,ak 28 (.dyn (.t 26) [(.t 27)]),ak 29 (.no (.t 28))] [0,1,5,6,7,29] (.cond (.t 29) (aN [aC 30 0,aC 31 5,bV 32 3 7,ak 33 (.ia 3 (.t 30) (.t 31)),bU (.store 3 (.t 33) (.t 32))] [0,1,5,6] (.reg [aC 34 5,ak 35 (.ar .add (.t 34) (bD 1)),aC 5 35] [0,1,5,6])) .skip)))) (.reg [aC 20 6,ak 21 (.ar .add (.t 20) (bD 1)),aC 6 21] [0,1,5,6])))))) (aN [aC 36 0,aC 37 5,ak 38 (.cutV 3 (.t 36) (.t 37)),⟨none,none,(.R4 3 [(.str ⟨#[]⟩),(.int .i64 0),(.int .i64 0)] (.t 38))⟩] [0,5] (aN [aC 39 0,aC 40 5,ak 41 (.CY 3 (.t 39) (.t 40)),aC 4 41] [4] .ret))))))⟩
def P5 : CF:=⟨2,[(.t 3)],[none],[],(aN [ak 2 (.box 24 (.t 0)),ak 3 (.mv cB)] [1,2] (aN [bV 4 3 2,bV 5 3 1,ak 6 (.oG (.agg [.str,(.int .i64),(.int .i64)]) false (.t 4) (.t 5)),aC 3 6] [3] .ret))⟩
def c131 : CF:=⟨2,[(.t 4)],[],[],(aN [ak 4 (.mv cB)] [0,1] (aN [aC 5 0,ak 6 (.cmp .ge (.t 5) (bD 0)),aC 7 6,aR 8 7 true (.mv (.t 0)),aR 9 7 true (.mv (.t 1)),aR 10 7 true (.cmp .le (.t 8) (.t 9)),ak 11 (.pick (.t 7) (.t 10) cB),aC 4 11] [4] .ret))⟩
def P6 : CF:=⟨2,[(.t 4)],[],[],(aN [ak 4 (.mv cB)] [0,1] (aN [aC 5 0,aC 6 1,ak 7 (.call false 148 [(.t 5),(.t 6)]),ak 8 (.cmp .ge (.t 7) (bD 0)),aC 4 8] [4] .ret))⟩
def P7 : CF:=⟨2,[(.t 4)],[],[],(aN [ak 4 (.mv cB)] [0,1] (aN [aC 5 0,aC 6 1,ak 7 (.cmp .ge (.t 5) (.t 6)),aC 8 7,aR 9 8 true (.mv (.t 0)),aR 10 8 true (.cmp .le (.t 9) (bD 5)),ak 11 (.pick (.t 8) (.t 10) cB),aC 4 11] [4] .ret))⟩
def P8 : CF:=⟨2,[(.t 4)],[],[],(aN [ak 4 (.mv (bD 0))] [0,1] (.seq (aN [aC 6 0,ak 7 (.fV (.t 6)),ak 8 (.mv (bD 0))] [0,1,7,8] (.block 0 (.loop [0,1,7,8] [20202] [] (aN [ak 9 (.cmp .lt (.t 8) (.t 7))] [0,1,7,8,9] (.seq (.cond (.t 9) .skip (.exit 0)) (.seq (.block 1 (aN [aC 10 8,aC 5 10] [0,1,5,7,8] (aN [aC 11 1,aC 12 0,aC 13 5,ak 14 (.ia 3 (.t 12) (.t 13)),bV 15 3 14,ak 16 (.dyn (.t 11) [(.t 15)])] [0,1,5,7,8,16] (.cond (.t 16) (aN [aC 17 5,aC 4 17] [4] .ret) .skip)))) (.reg [ak 18 (.ar .add (.t 8) (bD 1)),aC 8 18] [0,1,7,8]))))))) (aN [ak 4 (.mv (bD (-1)))] [4] .ret)))⟩
def c148 : CF:=⟨2,[(.t 4)],[],[],(aN [ak 4 (.mv (bD 0))] [0,1] (.seq (aN [aC 6 0,ak 7 (.fV (.t 6)),ak 8 (.mv (bD 0))] [0,1,7,8] (.block 0 (.loop [0,1,7,8] [20202] [] (aN [ak 9 (.cmp .lt (.t 8) (.t 7))] [0,1,7,8,9] (.seq (.cond (.t 9) .skip (.exit 0)) (.seq (.block 1 (aN [aC 10 8,aC 5 10] [0,1,5,7,8] (aN [aC 11 1,aC 12 0,aC 13 5,ak 14 (.ia 1 (.t 12) (.t 13)),bP 15 14,ak 16 (.oG (.one .str) false (.t 11) (.t 15))] [0,1,5,7,8,16] (.cond (.t 16) (aN [aC 17 5,aC 4 17] [4] .ret) .skip)))) (.reg [ak 18 (.ar .add (.t 8) (bD 1)),aC 8 18] [0,1,7,8]))))))) (aN [ak 4 (.mv (bD (-1)))] [4] .ret)))⟩
def c49 : CF:=⟨1,[(.t 2)],[],[],(aN [ak 2 (.mv (.k (.one .iw)))] [0] (.seq (aN [aC 3 0,ak 4 (.cmp .lt (.t 3) (bD 1)),aC 5 4,aR 6 5 false (.mv (.t 0)),aR 7 5 false (.cmp .gt (.t 6) (bD 1000)),ak 8 (.pick (.t 5) dU (.t 7))] [0,8] (.cond (.t 8) (aN [ak 2 (.mv (.k (.one .iw)))] [2] .ret) .skip)) (aN [aC 9 0,ak 10 (.oJ (.agg [.str,(.int .i64),(.int .i64)])),ak 11 (.build [aD,.eH,.bK,aD] [dB 0 1 9,dB 1 1 10]),ak 12 (.box 169 (.t 11)),aC 2 12] [2] .ret)))⟩
def c87 : CF:=⟨1,[(.t 2),(.t 3)],[],[],(aN [ak 1 (.box 42 (.t 0)),ak 2 (.mv (bD 0)),ak 3 (.mv cB)] [1] (.seq (aN [bI 7 0 1,bI 8 1 7,bP 9 8,ak 10 (.cmp .ne (.t 9) (bD 6)),aC 11 10,aR 12 11 false (.load 5 true (.t 1)),aR 13 11 false (.call false 113 [(.t 12)]),aR 14 11 false (.no (.t 13)),ak 15 (.pick (.t 11) dU (.t 14))] [1,15] (.cond (.t 15) (aN [ak 2 (.mv (bD 0)),ak 3 (.mv cB)] [2,3] .ret) .skip)) (aN [bI 16 3 1,bP 17 16,ak 18 (.ia 1 (.t 17) (bD 0)),bP 19 18,aC 4 19] [1,4] (aN [aC 21 4,aC 22 4,ak 23 (.wH (.t 22)),ak 24 (.ar .sub (.t 23) (bD 4)),ak 25 (.call false 117 [(.t 21),(.t 24),(bD 4)]),aC 20 25,ak 26 (.ext (.t 20) 0),ak 27 (.ext (.t 20) 1),aC 5 26,aC 6 27] [1,5] (aN [aC 28 5,bI 29 4 1,bP 30 29,ak 31 (.mn (.t 28) (.t 30)),aC 2 31,ak 3 (.mv dU)] [2,3] .ret)))))⟩
def c51 : CF:=⟨5,[(.t 10)],[],[],(aN [ak 7 (.box 24 (.t 2)),ak 9 (.box 42 (.t 4)),ak 10 (.mv (bD 0))] [0,1,3,7,9] (aN [bV 19 5 9,ak 20 (.call false 87 [(.t 19)]),aC 18 20,ak 21 (.ext (.t 18) 0),ak 22 (.ext (.t 18) 1),aC 11 21,aC 12 22] [0,1,3,7,9,11,12] (aN [aC 23 1,aC 24 11,ak 25 (.call false 82 [(.t 23),(.t 24)]),aC 13 25] [0,1,3,7,9,12,13] (.seq (.block 0 (aN [aC 27 0,ak 28 (.wF false (.t 27)),aC 29 28,aR 30 29 false (.mv (.t 12)),aR 31 29 false (.no (.t 30)),ak 32 (.pick (.t 29) dU (.t 31)),aC 33 32,aR 34 33 false (.mv (.t 13)),aR 35 33 false (.cmp .eq (.t 34) (bD (-1))),ak 36 (.pick (.t 33) dU (.t 35)),aC 37 36,aR 38 37 false (.load 3 true (.t 7)),aR 39 37 false (.call false 88 [(.t 38)]),aR 40 37 false (.no (.t 39)),ak 41 (.pick (.t 37) dU (.t 40)),aC 26 41] [0,1,3,7,9,13,26] (.cond (.t 26) (aN [ak 10 (.mv (bD 1))] [10] .ret) (aN [aC 43 1,aC 44 13,ak 45 (.call false 78 [(.t 43),(.t 44)]),ak 46 (.no (.t 45)),aC 42 46] [0,3,7,9,13,42] (.cond (.t 42) (aN [ak 10 (.mv (bD 14))] [10] .ret) .skip))))) (.seq (aN [aC 47 3] [0,3,7,9,13,47] (.cond (.t 47) (.reg [bV 48 3 7,ak 49 (.call false 89 [(.t 48)]),bU (.store 3 (.t 7) (.t 49))] [0,3,7,9,13]) .skip)) (.seq (.oH [⟨aC 50 0,[]⟩,⟨ak 51 (.gH (.t 50)),[]⟩,⟨bI 52 1 51,[]⟩,⟨bP 53 52,[]⟩,⟨bV 54 3 7,[]⟩,⟨bV 55 3 7,[]⟩,⟨aC 56 3,[]⟩,⟨bV 57 5 9,[]⟩,⟨aC 58 13,[]⟩,⟨ak 59 (.build [bq,aD,aD,(.f (.bool false)),bq,aD,aD,.bK,aD,aD] [dB 0 3 55,dB 3 1 56,dB 4 5 57,dB 9 1 58]),[]⟩,⟨ak 60 (.call false 90 [(.t 59)]),[]⟩] [] [] [bU (.wG (.agg [.str,(.int .i64),(.int .i64)]) (.t 53) (.t 54) (.t 60))] [0,7]) (.seq (.oH [⟨aC 62 0,[]⟩,⟨ak 63 (.gH (.t 62)),[]⟩,⟨bI 64 2 63,[]⟩,⟨bP 65 64,[]⟩,⟨bV 66 3 7,[]⟩,⟨ak 67 (.call false 86 [(.t 65),(.t 66)]),[]⟩,⟨aC 68 0,[]⟩,⟨ak 69 (.gH (.t 68)),[]⟩,⟨bI 70 0 69,[]⟩,⟨bP 71 70,[]⟩,⟨ak 72 (.call false 85 [(.t 67),(.t 71)]),[]⟩,⟨aC 61 72,[]⟩,⟨ak 73 (.ext (.t 61) 0),[]⟩,⟨ak 74 (.ext (.t 61) 1),[]⟩,⟨aC 14 73,[]⟩] [] [] [aC 15 74] [0,14,15]) (.seq (aN [aC 75 15,ak 76 (.fV (.t 75)),ak 77 (.mv (bD 0))] [0,14,75,76,77] (.block 1 (.loop [0,14,75,76,77] [20201,20205,20208,1460200,1462200] [] (aN [ak 78 (.cmp .lt (.t 77) (.t 76))] [0,14,75,76,77,78] (.seq (.cond (.t 78) .skip (.exit 1)) (.seq (.block 2 (aN [ak 79 (.ia 3 (.t 75) (.t 77)),bV 80 3 79,ak 17 (.alloc 24 [bq,aD,aD]),bU (.store 3 (.t 17) (.t 80))] [0,14,17,75,76,77] (.oH [⟨aC 81 0,[]⟩,⟨ak 82 (.gH (.t 81)),[]⟩,⟨bI 83 1 82,[]⟩,⟨bP 84 83,[]⟩,⟨bV 85 3 17,[]⟩] [] [] [bU (.del (.agg [.str,(.int .i64),(.int .i64)]) (.t 84) (.t 85))] [0,14,75,76,77]))) (.reg [ak 86 (.ar .add (.t 77) (bD 1)),aC 77 86] [0,14,75,76,77]))))))) (aN [aC 87 0,aC 88 14,ak 89 (.gH (.t 87)),bI 90 2 89,bU (.store 1 (.t 90) (.t 88))] [0] (aN [aC 91 0,ak 92 (.gH (.t 91)),bI 93 3 92,bP 94 93,ak 95 (.ar .add (.t 94) (bD 1)),ak 96 (.gH (.t 91)),bI 97 3 96,bU (.store 1 (.t 97) (.t 95))] [] (aN [ak 10 (.mv (bD 0))] [10] .ret)))))))))))⟩
def P9 : CF:=⟨3,[(.cell 6 10 true),(.t 7)],[],[],(aN [ak 5 (.box 24 (.t 2)),ak 6 (.alloc 178 [bq,aD,aD,(.f (.bool false)),bq,aD,aD,.bK,aD,aD]),ak 7 (.mv cB)] [0,1,5,6] (.seq (aN [aC 12 0,ak 13 (.wF false (.t 12))] [0,1,5,6,13] (.cond (.t 13) (aN [ak 14 (.build [bq,aD,aD,(.f (.bool false)),bq,aD,aD,.bK,aD,aD] []),bU (.store 10 (.t 6) (.t 14)),ak 7 (.mv cB)] [6,7] .ret) .skip)) (.seq (.seq (.oH [⟨bV 15 3 5,[380000]⟩,⟨ak 16 (.call false 89 [(.t 15)]),[380000]⟩,⟨bV 17 3 5,[380000]⟩,⟨ak 18 (.wh 24 3 2 [bq,aD,aD,bq,aD,aD] [dB 0 3 16,dB 3 3 17]),[]⟩,⟨ak 19 (.fV (.t 18)),[]⟩,⟨ak 20 (.mv (bD 0)),[380000]⟩] [] [] [] [0,1,6,18,19,20]) (.block 0 (.loop [0,1,6,18,19,20] [20201,20205,20208,140000,380000,841600] [] (aN [ak 21 (.cmp .lt (.t 20) (.t 19))] [0,1,6,18,19,20,21] (.seq (.cond (.t 21) .skip (.exit 0)) (.seq (.block 1 (aN [ak 22 (.ia 3 (.t 18) (.t 20)),bV 23 3 22,ak 9 (.alloc 24 [bq,aD,aD]),bU (.store 3 (.t 9) (.t 23))] [0,1,6,9,18,19,20] (.seq (.oH [⟨aC 25 0,[220000]⟩,⟨ak 26 (.gH (.t 25)),[220000]⟩,⟨bI 27 1 26,[220000]⟩,⟨bP 28 27,[220000]⟩,⟨bV 29 3 9,[220000]⟩,⟨⟨(some 30),none,(.look (.agg [.str,(.int .i64),(.int .i64)]) (.agg [(.str ⟨#[]⟩),(.int .i64 0),(.int .i64 0),(.bool false),(.str ⟨#[]⟩),(.int .i64 0),(.int .i64 0),(.sl []),(.int .i64 0),(.int .i64 0)]) true (.t 28) (.t 29))⟩,[220000]⟩,⟨aC 24 30,[220000]⟩,⟨ak 31 (.ext (.t 24) 0),[220000]⟩,⟨ak 32 (.ext (.t 24) 1),[220000]⟩,⟨ak 10 (.alloc 178 [bq,aD,aD,(.f (.bool false)),bq,aD,aD,.bK,aD,aD]),[]⟩] [8] [bU (.store 10 (.t 10) (.t 31))] [aC 11 32] [0,1,6,10,11,18,19,20]) (aN [aC 33 11,aC 34 33,aR 35 34 true (.mv (.t 1)),aR 36 34 true (.fa 9 (.t 10)),aR 37 34 true (.load 1 false (.t 36)),aR 38 34 true (.call false 78 [(.t 35),(.t 37)]),ak 39 (.pick (.t 34) (.t 38) cB)] [0,1,6,10,18,19,20,39] (.cond (.t 39) (aN [bV 40 10 10,ak 41 (.call false 90 [(.t 40)]),bU (.store 10 (.t 6) (.t 41)),ak 7 (.mv dU)] [6,7] .ret) .skip))))) (.reg [ak 42 (.ar .add (.t 20) (bD 1)),aC 20 42] [0,1,6,18,19,20]))))))) (aN [ak 43 (.build [bq,aD,aD,(.f (.bool false)),bq,aD,aD,.bK,aD,aD] []),bU (.store 10 (.t 6) (.t 43)),ak 7 (.mv cB)] [6,7] .ret))))⟩
def c88 : CF:=⟨1,[(.t 2)],[],[],(aN [ak 1 (.box 24 (.t 0)),ak 2 (.mv cB)] [1] (.seq (.oH [⟨bI 3 1 1,[]⟩,⟨bP 4 3,[]⟩,⟨ak 5 (.cmp .gt (.t 4) (bD 0)),[]⟩,⟨aC 6 5,[]⟩,⟨aR 7 6 true (.fa 1 (.t 1)),[]⟩,⟨aR 8 6 true (.load 1 false (.t 7)),[]⟩,⟨aR 9 6 true (.cmp .le (.t 8) (bD 65535)),[]⟩,⟨ak 10 (.pick (.t 6) (.t 9) cB),[]⟩,⟨aC 11 10,[]⟩,⟨aR 12 11 true (.fa 2 (.t 1)),[]⟩,⟨aR 13 11 true (.load 1 false (.t 12)),[]⟩,⟨aR 14 11 true (.cmp .ge (.t 13) (bD 0)),[]⟩,⟨ak 15 (.pick (.t 11) (.t 14) cB),[]⟩,⟨aC 16 15,[]⟩,⟨aR 17 16 true (.fa 2 (.t 1)),[]⟩,⟨aR 18 16 true (.load 1 false (.t 17)),[]⟩,⟨aR 19 16 true (.cmp .le (.t 18) (bD 65535)),[]⟩,⟨ak 20 (.pick (.t 16) (.t 19) cB),[]⟩,⟨aC 21 20,[]⟩,⟨aR 22 21 true (.fa 0 (.t 1)),[]⟩,⟨aR 23 21 true (.load 1 false (.t 22)),[]⟩,⟨aR 24 21 true (.call false 109 [(.t 23)]),[]⟩,⟨ak 25 (.pick (.t 21) (.t 24) cB),[]⟩,⟨aC 26 25,[]⟩,⟨aR 27 26 true (.fa 0 (.t 1)),[]⟩,⟨aR 28 26 true (.load 1 false (.t 27)),[]⟩,⟨aR 29 26 true (.call false 68 [(.t 28)]),[]⟩,⟨aR 30 26 true (.fa 0 (.t 1)),[]⟩,⟨aR 31 26 true (.load 1 false (.t 30)),[]⟩] [] [] [aR 32 26 true (.oG (.one .str) false (.t 29) (.t 31)),ak 33 (.pick (.t 26) (.t 32) cB),aC 2 33] [2]) .ret))⟩
def c89 : CF:=⟨1,[(.cell 2 3 true)],[],[],(aN [ak 1 (.box 24 (.t 0)),ak 2 (.alloc 24 [bq,aD,aD])] [1,2] (aN [bI 3 1 1,bU (.store 1 (.t 3) (bD 0))] [1,2] (aN [bV 4 3 1,bU (.store 3 (.t 2) (.t 4))] [2] .ret)))⟩
def c90 : CF:=⟨1,[(.cell 2 10 true)],[],[],(aN [ak 1 (.box 178 (.t 0)),ak 2 (.alloc 178 [bq,aD,aD,(.f (.bool false)),bq,aD,aD,.bK,aD,aD])] [1,2] (aN [bI 3 4 1,bI 4 3 3,bP 5 4,ak 6 (.call false 72 [(.t 5)]),bI 7 4 1,bI 8 3 7,bU (.store 1 (.t 8) (.t 6))] [1,2] (aN [bV 9 10 1,bU (.store 10 (.t 2) (.t 9))] [2] .ret)))⟩
def c10 : CF:=⟨2,[(.t 4)],[],[],(aN [ak 4 (.mv (bD 0))] [0,1] (.seq (aN [ak 5 (.mv (bD 0))] [0,1,5] (.block 0 (.loop [0,1,5] [20202] [] (.seq (aN [aC 6 5,aC 7 0,ak 8 (.fV (.t 7)),ak 9 (.cmp .lt (.t 6) (.t 8))] [0,1,5,9] (.cond (.t 9) .skip (.exit 0))) (.seq (.block 1 (aN [aC 12 0,aC 13 5,ak 14 (.ia 10 (.t 12) (.t 13)),bI 15 1 14,bV 16 5 15,ak 17 (.call false 45 [(.t 16)]),ak 18 (.no (.t 17)),aC 19 18,aR 20 19 false (.mv (.t 0)),aR 21 19 false (.mv (.t 5)),aR 22 19 false (.ia 10 (.t 20) (.t 21)),aR 23 19 false (.fa 7 (.t 22)),aR 24 19 false (.fa 0 (.t 23)),aR 25 19 false (.load 1 false (.t 24)),aR 26 19 false (.wH (.t 25)),aR 27 19 false (.cmp .gt (.t 26) (bD 300)),ak 28 (.pick (.t 19) dU (.t 27))] [0,1,5,28] (.cond (.t 28) (aN [ak 4 (.mv (bD 0))] [4] .ret) .skip))) (.reg [aC 10 5,ak 11 (.ar .add (.t 10) (bD 1)),aC 5 11] [0,1,5])))))) (.seq (aN [aC 29 0,ak 30 (.fV (.t 29)),aC 31 1,ak 32 (.cmp .gt (.t 30) (.t 31))] [32] (.cond (.t 32) (aN [ak 4 (.mv (bD 0))] [4] .ret) .skip)) (aN [ak 4 (.mv (bD 1))] [4] .ret))))⟩
def c12 : CF:=⟨1,[(.t 2),(.t 3)],[],[0],(aN [ak 2 (.mv (.k (.one .iw))),ak 3 (.mv (.k (.one .iw)))] [0] (aN [ak 7 (.call false 48 [(bD 50)]),aC 4 7] [0,4] (aN [ak 8 (.call false 49 [(bD 50)]),aC 5 8] [0,4,5] (.seq (aN [ak 6 (.mv (bD 0))] [0,4,5,6] (.block 0 (.loop [0,4,5,6] [30201,160200,160204,160206,180200,180204,180206] [] (.seq (aN [aC 9 6,aC 10 0,ak 11 (.fV (.t 10)),ak 12 (.cmp .lt (.t 9) (.t 11))] [0,4,5,6,12] (.cond (.t 12) .skip (.exit 0))) (.seq (.block 1 (aN [aC 15 0,aC 16 6,ak 17 (.ia 10 (.t 15) (.t 16)),bI 18 6 17,bP 19 18,ak 20 (.cmp .gt (.t 19) (bD 0))] [0,4,5,6,20] (.cond (.t 20) (.oH [⟨aC 21 4,[]⟩,⟨aC 22 0,[]⟩,⟨aC 23 6,[]⟩,⟨ak 24 (.ia 10 (.t 22) (.t 23)),[]⟩,⟨bI 25 0 24,[]⟩,⟨bP 26 25,[]⟩,⟨aC 27 0,[]⟩,⟨aC 28 6,[]⟩,⟨ak 29 (.ia 10 (.t 27) (.t 28)),[]⟩,⟨bI 30 1 29,[]⟩,⟨bV 31 5 30,[]⟩,⟨aC 32 0,[]⟩,⟨aC 33 6,[]⟩,⟨ak 34 (.ia 10 (.t 32) (.t 33)),[]⟩,⟨bI 35 6 34,[]⟩,⟨bP 36 35,[]⟩] [] [] [ak 37 (.call false 50 [(.t 21),(.t 26),(.t 31),(.t 36)])] [0,4,5,6]) (.oH [⟨aC 38 5,[]⟩,⟨aC 39 0,[]⟩,⟨aC 40 6,[]⟩,⟨ak 41 (.ia 10 (.t 39) (.t 40)),[]⟩,⟨bI 42 0 41,[]⟩,⟨bP 43 42,[]⟩,⟨aC 44 0,[]⟩,⟨aC 45 6,[]⟩,⟨ak 46 (.ia 10 (.t 44) (.t 45)),[]⟩,⟨bI 47 7 46,[]⟩,⟨bV 48 3 47,[]⟩,⟨aC 49 0,[]⟩,⟨aC 50 6,[]⟩,⟨ak 51 (.ia 10 (.t 49) (.t 50)),[]⟩,⟨bI 52 6 51,[]⟩,⟨bP 53 52,[]⟩,⟨ak 54 (.cmp .lt (.t 53) (bD 0)),[]⟩,⟨aC 55 0,[]⟩,⟨aC 56 6,[]⟩,⟨ak 57 (.ia 10 (.t 55) (.t 56)),[]⟩,⟨bI 58 1 57,[]⟩,⟨bV 59 5 58,[]⟩] [] [] [ak 60 (.call false 51 [(.t 38),(.t 43),(.t 48),(.t 54),(.t 59)])] [0,4,5,6])))) (.reg [aC 13 6,ak 14 (.ar .add (.t 13) (bD 1)),aC 6 14] [0,4,5,6])))))) (aN [aC 61 4,aC 62 5,aC 2 61,aC 3 62] [2,3] .ret)))))⟩
def c17 : CF:=⟨1,[(.cell 2 9 true)],[],[],(aN [ak 1 (.box 46 (.t 0)),ak 2 (.alloc 51 [.bK,aD,bq,bq,aD,aD,.bK,aD,aD])] [1,2] (aN [bI 5 1 1,bP 6 5,bI 7 2 1,bP 8 7,bI 9 3 1,bV 10 6 9,ak 11 (.build [.bK,aD,bq,bq,aD,aD,.bK,aD,aD] [dB 1 1 6,dB 2 1 8,dB 3 6 10]),ak 3 (.alloc 51 [.bK,aD,bq,bq,aD,aD,.bK,aD,aD]),bU (.store 9 (.t 3) (.t 11))] [1,2,3] (.seq (aN [ak 4 (.mv (bD 0))] [1,2,3,4] (.block 0 (.loop [1,2,3,4] [20202,21402,40000,60000,80000,560000] [] (.seq (aN [aC 12 4,bI 13 0 1,bP 14 13,ak 15 (.fV (.t 14)),ak 16 (.cmp .lt (.t 12) (.t 15))] [1,2,3,4,16] (.cond (.t 16) .skip (.exit 0))) (.seq (.block 1 (.oH [⟨bI 19 0 3,[540000]⟩,⟨bP 20 19,[540000]⟩,⟨bI 21 0 1,[540000]⟩,⟨bP 22 21,[540000]⟩,⟨aC 23 4,[540000]⟩,⟨ak 24 (.ia 6 (.t 22) (.t 23)),[540000]⟩,⟨bV 25 6 24,[540000]⟩,⟨ak 26 (.wh 49 6 1 [bq,aD,aD,.bK,aD,aD] [dB 0 6 25]),[]⟩] [] [] [ak 27 (.app 49 6 72 (.t 20) (.t 26)),bI 28 0 3,bU (.store 1 (.t 28) (.t 27))] [1,2,3,4])) (.reg [aC 17 4,ak 18 (.ar .add (.t 17) (bD 1)),aC 4 18] [1,2,3,4])))))) (aN [bV 29 9 3,bU (.store 9 (.t 2) (.t 29))] [2] .ret))))⟩
def VE : CF:=⟨1,[(.t 2),(.t 3)],[],[],(aN [ak 1 (.box 42 (.t 0)),ak 2 (.mv (.k (.one bq))),ak 3 (.mv cB)] [1] (.seq (aN [bI 5 0 1,bI 6 1 5,bP 7 6,ak 8 (.cmp .ne (.t 7) (bD 5)),aC 9 8,aR 10 9 false (.fa 3 (.t 1)),aR 11 9 false (.load 1 false (.t 10)),aR 12 9 false (.fV (.t 11)),aR 13 9 false (.cmp .eq (.t 12) (bD 0)),ak 14 (.pick (.t 9) dU (.t 13))] [1,14] (.cond (.t 14) (aN [ak 2 (.mv (.k (.one bq))),ak 3 (.mv cB)] [2,3] .ret) .skip)) (aN [bI 15 3 1,bP 16 15,ak 17 (.ia 1 (.t 16) (bD 0)),bP 18 17,ak 19 (.call false 81 [(bD 5),(.t 18)]),aC 4 19] [4] (.seq (aN [aC 20 4,ak 21 (.fV (.t 20)),ak 22 (.cmp .eq (.t 21) (bD 0))] [4,22] (.cond (.t 22) (aN [ak 2 (.mv (.k (.one bq))),ak 3 (.mv cB)] [2,3] .ret) .skip)) (aN [aC 23 4,ak 24 (.ia 1 (.t 23) (bD 0)),bP 25 24,aC 2 25,ak 3 (.mv dU)] [2,3] .ret)))))⟩
def X6 : CF:=⟨2,[(.cell 4 6 true),(.t 5)],[],[],(aN [ak 2 (.box 128 (.t 0)),ak 3 (.box 24 (.t 1)),ak 4 (.alloc 44 [bq,aD,aD,.bK,aD,aD]),ak 5 (.mv cB)] [2,3,4] (aN [bI 9 0 2,bP 10 9,bI 11 2 2,bP 12 11,bV 13 3 3,ak 14 (.call false 43 [(.t 10),(.t 12),(.t 13)]),aC 8 14,ak 15 (.ext (.t 8) 0),ak 16 (.ext (.t 8) 1),ak 6 (.alloc 106 [bq,aD,aD,.bK,aD,aD,aD]),bU (.store 7 (.t 6) (.t 15)),aC 7 16] [2,4,6,7] (.seq (aN [aC 17 7,ak 18 (.no (.t 17)),aC 19 18,aR 20 19 false (.fa 6 (.t 6)),aR 21 19 false (.load 1 false (.t 20)),aR 22 19 false (.call false 101 [(.t 21)]),aR 23 19 false (.no (.t 22)),ak 24 (.pick (.t 19) dU (.t 23))] [2,4,6,24] (.cond (.t 24) (aN [ak 25 (.build [bq,aD,aD,.bK,aD,aD] []),bU (.store 6 (.t 4) (.t 25)),ak 5 (.mv cB)] [4,5] .ret) .skip)) (.seq (.oH [⟨bI 26 0 6,[]⟩,⟨bV 27 5 26,[]⟩,⟨bI 28 2 2,[]⟩,⟨bP 29 28,[]⟩,⟨bI 30 5 6,[]⟩,⟨bP 31 30,[]⟩,⟨ak 32 (.call false 102 [(.t 29),(.t 31)]),[]⟩] [] [] [ak 33 (.build [bq,aD,aD,.bK,aD,aD] [dB 0 5 27,dB 5 1 32]),bU (.store 6 (.t 4) (.t 33)),ak 5 (.mv dU)] [4,5]) .ret))))⟩
def Z4 : CF:=⟨2,[(.cell 4 6 true),(.t 5),(.t 6)],[],[],(aN [ak 2 (.box 128 (.t 0)),ak 3 (.box 24 (.t 1)),ak 4 (.alloc 44 [bq,aD,aD,.bK,aD,aD]),ak 5 (.mv (.k (.one bq))),ak 6 (.mv cB)] [2,3,4] (.seq (aN [bI 11 1 3,bP 12 11,ak 13 (.cmp .eq (.t 12) (bD 5))] [2,3,4,13] (.cond (.t 13) (aN [ak 14 (.build [bq,aD,aD,.bK,aD,aD] []),bU (.store 6 (.t 4) (.t 14)),ak 5 (.mv (.k (.one bq))),ak 6 (.mv cB)] [4,5,6] .ret) .skip)) (aN [bI 15 1 3,bU (.store 1 (.t 15) (bD 5))] [2,3,4] (aN [bV 17 3 2,bV 18 3 3,ak 19 (.call false 56 [(.t 17),(.t 18)]),aC 16 19,ak 20 (.ext (.t 16) 0),ak 21 (.ext (.t 16) 1),ak 7 (.alloc 44 [bq,aD,aD,.bK,aD,aD]),bU (.store 6 (.t 7) (.t 20)),aC 8 21] [4,7] (aN [bI 23 0 7,bV 24 5 23,ak 25 (.call false 47 [(.t 24)]),aC 22 25,ak 26 (.ext (.t 22) 0),ak 27 (.ext (.t 22) 1),aC 9 26,aC 10 27] [4,7,9,10] (aN [bV 28 6 7,aC 29 9,aC 30 10,bU (.store 6 (.t 4) (.t 28)),aC 5 29,aC 6 30] [4,5,6] .ret))))))⟩
def Z5 : CF:=⟨3,[(.cell 6 9 true)],[],[],(aN [ak 3 (.box 128 (.t 0)),ak 4 (.box 46 (.t 1)),ak 5 (.box 24 (.t 2)),ak 6 (.alloc 46 [.bK,aD,bq,bq,aD,aD,.bK,aD,aD])] [3,4,5,6] (aN [bI 10 1 3,bP 11 10,bI 12 2 3,bP 13 12,bV 14 3 5,ak 15 (.call false 103 [(.t 11),(.t 13),(.t 14)]),aC 9 15,ak 16 (.ext (.t 9) 0),ak 17 (.ext (.t 9) 1),ak 7 (.alloc 178 [bq,aD,aD,(.f (.bool false)),bq,aD,aD,.bK,aD,aD]),bU (.store 10 (.t 7) (.t 16)),aC 8 17] [3,4,6,7,8] (.seq (.block 0 (aN [aC 20 8,ak 21 (.no (.t 20)),aC 19 21] [3,4,6,7,19] (.cond (.t 19) (aN [bI 22 1 4,bU (.store 1 (.t 22) (bD 3))] [4,6] (aN [bV 23 9 4,bU (.store 9 (.t 6) (.t 23))] [6] .ret)) (aN [bI 25 3 7,bP 26 25,aC 24 26] [3,4,6,7,24] (.cond (.t 24) (.reg [bI 27 1 4,bU (.store 1 (.t 27) (bD 2))] [3,4,6,7]) (.reg [bI 18 1 4,bU (.store 1 (.t 18) (bD 1))] [3,4,6,7])))))) (.seq (.oH [⟨bI 28 4 7,[]⟩,⟨bV 29 5 28,[]⟩,⟨bI 30 2 3,[]⟩,⟨bP 31 30,[]⟩,⟨bI 32 9 7,[]⟩,⟨bP 33 32,[]⟩,⟨ak 34 (.call false 102 [(.t 31),(.t 33)]),[]⟩] [] [] [ak 35 (.build [bq,aD,aD,.bK,aD,aD] [dB 0 5 29,dB 5 1 34]),bI 36 3 4,bU (.store 6 (.t 36) (.t 35))] [4,6]) (aN [bV 37 9 4,bU (.store 9 (.t 6) (.t 37))] [6] .ret)))))⟩
def c14 : CF:=⟨4,[(.cell 8 9 true)],[],[],(aN [ak 7 (.box 24 (.t 3)),ak 8 (.alloc 46 [.bK,aD,bq,bq,aD,aD,.bK,aD,aD])] [0,1,2,7,8] (aN [aC 17 0,aC 18 1,aC 19 2,ak 20 (.build [.iw,.iw,aD] [dB 0 1 17,dB 1 1 18,dB 2 1 19]),ak 9 (.alloc 128 [.iw,.iw,aD]),bU (.store 3 (.t 9) (.t 20))] [7,8,9] (aN [ak 10 (.alloc 46 [.bK,aD,bq,bq,aD,aD,.bK,aD,aD])] [7,8,9,10] (aN [ak 21 (.oJ (.one .str)),aC 11 21] [7,8,9,10,11] (.block 0 (.loop [7,8,9,10,11] [20201,20205,20208,40201,40205,40208,160000,180000,200000,220000,440000,690002,690004,690006,690008,690010,690012,690014,690016,690202,690204,690206,690208,690210,690212,690214,690216,690402,690404,690406,690408,690410,690412,690414,690416,690602,690604,690606,690608,690610,690612,690614,690616,690802,690804,690806,690808,690810,690812,690814,690816,691002,691004,691006,691008,691010,691012,691014,691016,840000,960800,970002,970004,970006,970008,970010,970012,970014,970016,970202,970204,970206,970208,970210,970212,970214,970216,970402,970404,970406,970408,970410,970412,970414,970416,970602,970604,970606,970608,970610,970612,970614,970616,970802,970804,970806,970808,970810,970812,970814,970816,971002,971004,971006,971008,971010,971012,971014,971016,1140200,1141400,1150002,1150004,1150006,1150008,1150010,1150012,1150014,1150016,1150202,1150204,1150206,1150208,1150210,1150212,1150214,1150216,1150402,1150404,1150406,1150408,1150410,1150412,1150414,1150416,1150602,1150604,1150606,1150608,1150610,1150612,1150614,1150616,1150802,1150804,1150806,1150808,1150810,1150812,1150814,1150816,1151002,1151004,1151006,1151008,1151010,1151012,1151014,1151016,1240000] [] (.block 1 (aN [bI 22 0 7,bP 23 22,bI 24 2 10,bU (.store 1 (.t 24) (.t 23))] [7,8,9,10,11] (aN [aC 25 11,bI 26 0 7,bP 27 26,ak 28 (.look (.one .str) (.one (.int .i64 0)) false (.t 25) (.t 27)),ak 29 (.ar .add (.t 28) (bD 1)),bU (.wG (.one .str) (.t 25) (.t 27) (.t 29))] [7,8,9,10,11] (.seq (aN [bV 31 3 9,bV 32 3 7,ak 33 (.call false 56 [(.t 31),(.t 32)]),aC 30 33,ak 34 (.ext (.t 30) 0),ak 35 (.ext (.t 30) 1),ak 12 (.alloc 44 [bq,aD,aD,.bK,aD,aD]),bU (.store 6 (.t 12) (.t 34)),aC 13 35] [7,8,9,10,11,12,13] (aN [aC 36 13] [7,8,9,10,11,12,36] (.cond (.t 36) (aN [bI 37 0 10,bP 38 37,bV 39 6 12,ak 40 (.wh 44 6 1 [bq,aD,aD,.bK,aD,aD] [dB 0 6 39]),ak 41 (.app 44 6 72 (.t 38) (.t 40)),bI 42 0 10,bU (.store 1 (.t 42) (.t 41))] [8,10] (aN [bV 43 9 10,bU (.store 9 (.t 8) (.t 43))] [8] .ret)) .skip))) (aN [bV 45 3 9,bV 46 3 7,ak 47 (.call false 57 [(.t 45),(.t 46)]),aC 44 47,ak 48 (.ext (.t 44) 0),ak 49 (.ext (.t 44) 1),ak 50 (.ext (.t 44) 2),ak 14 (.alloc 44 [bq,aD,aD,.bK,aD,aD]),bU (.store 6 (.t 14) (.t 48)),aC 15 49,aC 16 50] [7,8,9,10,11,14,15,16] (.seq (aN [aC 51 16,ak 52 (.no (.t 51))] [7,8,9,10,11,14,15,52] (.cond (.t 52) (aN [bV 53 3 9,bV 54 9 10,bV 55 3 7,ak 56 (.call false 58 [(.t 53),(.t 54),(.t 55)]),bU (.store 9 (.t 8) (.t 56))] [8] .ret) .skip)) (aN [bI 57 0 10,bP 58 57,bV 59 6 14,ak 60 (.wh 44 6 1 [bq,aD,aD,.bK,aD,aD] [dB 0 6 59]),ak 61 (.app 44 6 72 (.t 58) (.t 60)),bI 62 0 10,bU (.store 1 (.t 62) (.t 61))] [7,8,9,10,11,15] (.seq (aN [bI 63 0 10,bP 64 63,ak 65 (.fV (.t 64)),ak 66 (.cmp .gt (.t 65) (bD 8)),aC 67 66,aR 68 67 false (.mv (.t 11)),aR 69 67 false (.mv (.t 15)),aR 70 67 false (.look (.one .str) (.one (.int .i64 0)) false (.t 68) (.t 69)),aR 71 67 false (.cmp .gt (.t 70) (bD 0)),ak 72 (.pick (.t 67) dU (.t 71))] [7,8,9,10,11,15,72] (.cond (.t 72) (aN [bI 73 1 10,bU (.store 1 (.t 73) (bD 4))] [8,10] (aN [bV 74 9 10,bU (.store 9 (.t 8) (.t 74))] [8] .ret)) .skip)) (.reg [aC 75 15,bI 76 0 7,bU (.store 1 (.t 76) (.t 75))] [7,8,9,10,11])))))))))))))))⟩
def c63 : CF:=⟨2,[(.t 4)],[],[],(aN [ak 2 (.box 49 (.t 0)),ak 3 (.box 49 (.t 1)),ak 4 (.mv cB)] [2,3] (aN [bI 5 0 2,bV 6 5 5,bI 7 0 3,bV 8 5 7,ak 9 (.call false 107 [(.t 6),(.t 8)]),aC 10 9,aR 11 10 true (.fa 5 (.t 2)),aR 12 10 true (.load 1 false (.t 11)),aR 13 10 true (.fa 5 (.t 3)),aR 14 10 true (.load 1 false (.t 13)),aR 15 10 true (.cmp .eq (.t 12) (.t 14)),ak 16 (.pick (.t 10) (.t 15) cB),aC 4 16] [4] .ret))⟩
def c16 : CF:=⟨2,[(.t 4)],[],[],(aN [ak 2 (.box 51 (.t 0)),ak 3 (.box 51 (.t 1)),ak 4 (.mv cB)] [2,3] (.seq (aN [bI 6 0 2,bP 7 6,ak 8 (.fV (.t 7)),bI 9 0 3,bP 10 9,ak 11 (.fV (.t 10)),ak 12 (.cmp .ne (.t 8) (.t 11)),aC 13 12,aR 14 13 false (.fa 1 (.t 2)),aR 15 13 false (.load 1 false (.t 14)),aR 16 13 false (.fa 1 (.t 3)),aR 17 13 false (.load 1 false (.t 16)),aR 18 13 false (.cmp .ne (.t 15) (.t 17)),ak 19 (.pick (.t 13) dU (.t 18)),aC 20 19,aR 21 20 false (.fa 2 (.t 2)),aR 22 20 false (.load 1 false (.t 21)),aR 23 20 false (.fa 2 (.t 3)),aR 24 20 false (.load 1 false (.t 23)),aR 25 20 false (.oG (.one .str) true (.t 22) (.t 24)),ak 26 (.pick (.t 20) dU (.t 25)),aC 27 26,aR 28 27 false (.fa 3 (.t 2)),aR 29 27 false (.load 6 true (.t 28)),aR 30 27 false (.fa 3 (.t 3)),aR 31 27 false (.load 6 true (.t 30)),aR 32 27 false (.call false 63 [(.t 29),(.t 31)]),aR 33 27 false (.no (.t 32)),ak 34 (.pick (.t 27) dU (.t 33))] [2,3,34] (.cond (.t 34) (aN [ak 4 (.mv cB)] [4] .ret) .skip)) (.seq (aN [ak 5 (.mv (bD 0))] [2,3,5] (.block 0 (.loop [2,3,5] [20202,21402,40202,41402,60000,80000] [] (.seq (aN [aC 35 5,bI 36 0 2,bP 37 36,ak 38 (.fV (.t 37)),ak 39 (.cmp .lt (.t 35) (.t 38))] [2,3,5,39] (.cond (.t 39) .skip (.exit 0))) (.seq (.block 1 (.seq (.oH [⟨bI 42 0 2,[]⟩,⟨bP 43 42,[]⟩,⟨aC 44 5,[]⟩,⟨ak 45 (.ia 6 (.t 43) (.t 44)),[]⟩,⟨bV 46 6 45,[]⟩,⟨bI 47 0 3,[]⟩,⟨bP 48 47,[]⟩,⟨aC 49 5,[]⟩,⟨ak 50 (.ia 6 (.t 48) (.t 49)),[]⟩,⟨bV 51 6 50,[]⟩] [] [] [ak 52 (.call false 63 [(.t 46),(.t 51)]),ak 53 (.no (.t 52))] [2,3,5,53]) (.cond (.t 53) (aN [ak 4 (.mv cB)] [4] .ret) .skip))) (.reg [aC 40 5,ak 41 (.ar .add (.t 40) (bD 1)),aC 5 41] [2,3,5])))))) (aN [ak 4 (.mv dU)] [4] .ret))))⟩
def Lv : CF:=⟨2,[(.t 4)],[],[],(aN [ak 4 (.mv (bD 0))] [0,1] (.seq (aN [aC 5 0,aC 6 1,ak 7 (.call false 78 [(.t 5),(.t 6)]),ak 8 (.no (.t 7))] [0,1,8] (.cond (.t 8) (aN [ak 4 (.mv (bD 0))] [4] .ret) .skip)) (aN [aC 9 1,aC 10 0,ak 11 (.ar .sub (.t 9) (.t 10)),ak 12 (.mn (.t 11) (bD 604800)),aC 4 12] [4] .ret)))⟩
def Qa : CF:=⟨1,[(.t 2)],[],[],(aN [ak 2 (.mv cB)] [0] (aN [aC 3 0,ak 4 (.call false 122 [(.t 3),(bD 3)]),aC 2 4] [2] .ret))⟩
def oz : List (FuncId × CF):=[(48,c48),(43,Z0),(107,c107),(45,c45),(82,c82),(84,VD),(79,c79),(85,c85),(86,c86),(78,c78),(116,c116),(38,Ow),(113,PW),(111,PX),(114,PY),(134,PZ),(135,P5),(131,c131),(133,P6),(122,P7),(149,P8),(148,c148),(49,c49),(87,c87),(51,c51),(103,P9),(88,c88),(89,c89),(90,c90),(10,c10),(12,c12),(17,c17),(47,VE),(56,X6),(57,Z4),(58,Z5),(14,c14),(63,c63),(16,c16),(102,Lv),(101,Qa)]
end
section
attribute [local go_sem_proc] Nat.reduceAdd Nat.reduceMul Nat.reduceEqDiff Nat.reduceBEq Nat.reduceMod Nat.reduceDiv reduceCtorEq
attribute [local go_sem_proc ↓] reduceIte
open Go Ev
variable {ext : Env} {F n:Nat}
noncomputable abbrev G (ext:Env) (F n:Nat):Env:=Gm oz ext F n
theorem oD {x:Int} (h1:-9223372036854775808 ≤ x) (h2:x ≤ 9223372036854775807):IntKind.i64.wrap x = x:=by
 rw [IntKind.wrap_i64];omega
abbrev vi (x:Int):AV:=.one (.f (.int .i64 x))
abbrev vb (b:Bool):AV:=.one (.f (.bool b))
abbrev vs (s:ByteArray):AV:=.one (.f (.str s))
abbrev vl (l:List (List FV)):AV:=.one (.f (.sl l))
def aY (s:ByteArray):List FV:=[.str s]
abbrev vq (q:ByteArray) (t c:Int):AV:=.agg [.f (.str q),.f (.int .i64 t),.f (.int .i64 c)]
abbrev oF (q:ByteArray) (t c:Int) (d:List ByteArray) (ttl:Int):AV:=.agg [.f (.str q),.f (.int .i64 t),.f (.int .i64 c),.f (.sl (d.map aY)),.f (.int .i64 ttl)]
theorem Tg (x m:Int):G ext F (n + 1) 131 [vi x,vi m] = some ([vb (decide (0 ≤ x ∧ x ≤ m))],[vi x,vi m]):=by
 refine cK (cf:=c131) rfl ?_
 dsimp only [c131,ak,bU,aR,bD,aD,bq,dB,dU,cB,aC,bP,bV,bI,aN];simp only [go_sem]
 repeat' (refine dI (fun h=>?_) (fun h=>?_) <;> simp only [h,go_sem])
 all_goals (simp only [aii,aiT] at *;simp;try omega)
theorem pX (x m:Int):G ext F (n + 1) 111 [vi x,vi m] = some ([vb (decide (0 ≤ x ∧ x ≤ m))],[vi x,vi m]):=by
 refine cK (cf:=PX) rfl ?_
 dsimp only [PX,ak,bU,aR,bD,aD,bq,dB,dU,cB,aC,bP,bV,bI,aN];simp only [go_sem]
 repeat' (refine dI (fun h=>?_) (fun h=>?_) <;> simp only [h,go_sem])
 all_goals (simp only [aii,aiT] at *;simp;try omega)
theorem FB (x m:Int):G ext F (n + 1) 122 [vi x,vi m] = some ([vb (decide (m ≤ x ∧ x ≤ 5))],[vi x,vi m]):=by
 refine cK (cf:=P7) rfl ?_
 dsimp only [P7,ak,bU,aR,bD,aD,bq,dB,dU,cB,aC,bP,bV,bI,aN];simp only [go_sem]
 repeat' (refine dI (fun h=>?_) (fun h=>?_) <;> simp only [h,go_sem])
 all_goals (simp only [aii,aiT] at *;simp;try omega)
def Qb (x:Int):Bool:=decide (0 ≤ x ∧ x ≤ 1099511627776)
def fD (now ttl:Int):Int:=if Qb now = true ∧ 0 ≤ ttl then now + (if ttl ≤ 604800 then ttl else 604800) else -1
def jr (now u:Int):Bool:=Qb now && decide (now < u)
def Lx (old:Int) (l:Bool) (now:Int):Bool:=decide (1 ≤ now ∧ now ≤ 5) && (!l || decide (old ≤ now))
theorem ji (x u:Int):G ext F (n + 2) 78 [vi x,vi u] = some ([vb (jr x u)],[vi x,vi u]):=by
 refine cK (cf:=c78) rfl ?_
 dsimp only [c78,ak,bU,aR,bD,aD,bq,dB,dU,cB,aC,bP,bV,bI,aN];simp only [pX,go_sem]
 repeat' (refine dI (fun h=>?_) (fun h=>?_) <;> simp only [h,pX,go_sem])
 all_goals (simp only [aii,aiT] at *;simp [Qb,jr];try omega)
theorem Qc {x t:Int} (h:0 ≤ x ∧ x ≤ 1099511627776) (ht:0 ≤ t):IntKind.i64.wrap (x + if 604800 < t then 604800 else t) = x + if t ≤ 604800 then t else 604800:=by
 have e:(if 604800 < t then (604800:Int) else t) = if t ≤ 604800 then t else 604800:=by split <;> split <;> omega
 rw [e]
 refine oD ?_ ?_ <;> split <;> omega
theorem Ja {x t:Int} (h:0 ≤ x ∧ x ≤ 1099511627776) (ht:¬ t < 0):fD x t = IntKind.i64.wrap (x + if 604800 < t then 604800 else t):=by
 rw [Qc h (by omega)]
 simp only [fD,Qb,aii]
 rw [ahX (show (0 ≤ x ∧ x ≤ 1099511627776) ∧ 0 ≤ t from ⟨h,by omega⟩)]
theorem LA {x t:Int} (h:¬ ((0 ≤ x ∧ x ≤ 1099511627776) ∧ 0 ≤ t)):fD x t = -1:=by
 simp only [fD,Qb,aii]
 rw [ahY h]
theorem xH (x t:Int):G ext F (n + 2) 82 [vi x,vi t] = some ([vi (fD x t)],[vi x,vi t]):=by
 refine cK (cf:=c82) rfl ?_
 dsimp only [c82,ak,bU,aR,bD,aD,bq,dB,dU,cB,aC,bP,bV,bI,aN];simp only [pX,go_sem]
 repeat' (refine dI (fun h=>?_) (fun h=>?_) <;> simp only [h,pX,go_sem])
 all_goals (simp only [Qb,aii,aiT] at *;first | rw [Ja (by assumption) (by omega)] | rw [LA (by omega)])
theorem He (o x:Int) (l:Bool):G ext F (n + 2) 114 [vi o,vb l,vi x] = some ([vb (Lx o l x)],[vi o,vb l,vi x]):=by
 refine cK (cf:=PY) rfl ?_
 dsimp only [PY,ak,bU,aR,bD,aD,bq,dB,dU,cB,aC,bP,bV,bI,aN];simp only [FB,go_sem]
 repeat' (refine dI (fun h=>?_) (fun h=>?_) <;> simp only [h,FB,go_sem])
 all_goals (simp only [aii,aiT] at *;simp_all [Lx];try omega)
end
section
attribute [local go_sem_proc] Nat.reduceAdd Nat.reduceMul Nat.reduceEqDiff Nat.reduceBEq Nat.reduceMod Nat.reduceDiv reduceCtorEq
attribute [local go_sem_proc ↓] reduceIte
open Go Go.RowKit Go.Proofs Ev
theorem eqs : ∀ t ∈ [3,9,24],kL Tryz.prog t:=by
 intro t ht
 simp only [aif,ajF,or_false] at ht
 rcases ht with rfl | rfl | rfl <;> exact Ux (by kernel_rfl)
theorem mixed : Tryz.prog.follows .mixedOrders = true:=by kernel_rfl
theorem Hg : gL Tryz.prog fun _ _=>none:=fun f dV rs oP h=>by cases h
theorem zZ : dG Tryz.prog fun _ _=>none:=fun f dV r h=>by cases h
def VF : CF:=⟨1,[(.t 2)],[],[],(.seq (.reg [⟨(some 2),none,(.mv (.k (.one .bK)))⟩] [0]) (.seq (.seq (.reg [⟨(some 3),none,(.mv (.t 0))⟩,⟨(some 4),none,(.yY false (.t 3))⟩] [0,4]) (.cond (.t 4) (.seq (.reg [⟨(some 2),none,(.mv (.k (.one .bK)))⟩] [2]) .ret) .skip)) (.seq (.reg [⟨(some 5),none,(.wh 9 1 0 [] [])⟩,⟨(some 6),none,(.mv (.t 0))⟩,⟨(some 7),none,(.app 9 1 16 (.t 5) (.t 6))⟩,⟨(some 2),none,(.mv (.t 7))⟩] [2]) .ret)))⟩
def VG : CF:=⟨1,[(.t 2)],[some 3],[],(.seq (.reg [⟨(some 2),none,(.mv (.k (.one .bK)))⟩] [0]) (.seq (.seq (.reg [⟨(some 3),none,(.mv (.t 0))⟩,⟨(some 4),none,(.yY false (.t 3))⟩] [0,4]) (.cond (.t 4) (.seq (.reg [⟨(some 2),none,(.mv (.k (.one .bK)))⟩] [2]) .ret) .skip)) (.seq (.reg [⟨(some 5),none,(.wh 24 3 0 [] [])⟩,⟨(some 6),none,(.mv (.t 0))⟩,⟨(some 7),none,(.app 24 3 32 (.t 5) (.t 6))⟩,⟨(some 2),none,(.mv (.t 7))⟩] [2]) .ret)))⟩
theorem Qd {f:FuncId} {cf:CF} {Γ:Env} (h:iX Tryz.prog f cf) (h1:gL Tryz.prog Γ) (h2:dG Tryz.prog Γ) (F:Nat):Sat Tryz.prog f (IU Γ F cf):=by
 obtain ⟨fn,c,X,hints,rest,e1,_,e2,e3,e4,e5,e6⟩:=h.ok
 exact zX mixed e3 h1 h2 e1 e2 e4 e5 e6 F
theorem Qe : iX Tryz.prog 72 VF:=⟨Tryz.f72,_,⟨[3,9,24],[],[],[125,134]⟩,[⟨[0],[],[]⟩,⟨[0,4],[],[]⟩,⟨[2],[],[]⟩,⟨[2],[],[]⟩],[],by kernel_rfl,by kernel_rfl,rfl,eqs,by kernel_rfl,by kernel_rfl,by decide⟩
theorem Qf : iX Tryz.prog 115 VG:=⟨Tryz.f115,_,⟨[3,9,24],[],[],[125,134]⟩,[⟨[0],[],[]⟩,⟨[0,4],[],[]⟩,⟨[2],[],[]⟩,⟨[2],[],[]⟩],[],by kernel_rfl,by kernel_rfl,rfl,eqs,by kernel_rfl,by kernel_rfl,by decide⟩
theorem Qg (r:List FV) (l:List (List FV)) (h:l.length < 1000000) (hl:(r :: l).all (fun r=>r.length == 1) = true):IU (fun _ _=>none) 10 VF [vl (r :: l)] = some ([vl (r :: l)],[vl (r :: l)]):=by
 refine I8 ?_
 rw [List.all_cons,ah5] at hl
 simp only [VF,hl.1,hl.2,List.all_cons,go_sem]
 omega
theorem Qh (r:List FV) (l:List (List FV)) (h:l.length < 1000000) (hl:(r :: l).all (fun r=>r.length == 3) = true):IU (fun _ _=>none) 10 VG [vl (r :: l)] = some ([.one (.own 3 (r :: l))],[vl (r :: l)]):=by
 refine I8 ?_
 rw [List.all_cons,ah5] at hl
 simp only [VG,hl.1,hl.2,List.all_cons,go_sem]
 omega
theorem pY {t e:TypeId} (hu:Tryz.prog.underlying t = some (.slice e)) (p:Option Addr) (c:Nat) (w:World):(binOp .eql t (.slice p 0 c) (.slice none 0 0)).run Tryz.prog w = .ok (.bool p.isNone) w:=by
 have:=run_equal_slice_nil w t e p 0 c hu
 simp only [binOp,Sem.run_bind,this,Result.andThen_ok,Sem.run_pure]
theorem xI {t ty e:TypeId} {i:TypeInfo} (hu:Tryz.prog.underlying t = some (.slice e)) (hi:Tryz.prog.info? e = some i) (a b:Addr) (c:Nat) (w:World):(Builtin.append_ #[t,t] ty #[.slice (some b) 0 0,.slice (some a) 0 c]).run Tryz.prog w = .ok (.slice (some b) 0 0) w:=by
 have h1:∀ w,(Builtin.lenOf (.slice (some a) 0 c)).run Tryz.prog w = .ok 0 w:=fun _=>rfl
 have h2:=fun w=>run_firstCells_some (P:=Tryz.prog) w i.size 0 a 0 c [] (by simp) (by simp)
 simp [Builtin.append_,run_underlying hu,sizeOf,typeInfo,hi,storeCells,h1,h2]
theorem LB (c:Nat) (w:World):Calls Tryz.prog 72 #[.slice none 0 c] w fun e w'=>e = .returned (.slice none 0 0) ∧ w' = w:=by
 have heq:=pY (t:=40) (e:=9) (by kernel_rfl) none c
 go_enter Tryz.func72,Tryz.ntmps72
 go_wp2
 go_ret
 exact ⟨rfl,rfl⟩
theorem LC (a:Addr) (c:Nat) (w:World):Calls Tryz.prog 72 #[.slice (some a) 0 c] w fun e w'=>e = .returned (.slice (some ⟨w.heap.size,0,none⟩) 0 0) ∧ w' = w.alloc (.cells #[] 9):=by
 have heq:=pY (t:=40) (e:=9) (by kernel_rfl) (some a) c
 obtain ⟨i,hi⟩:=ajl.mp (show (Tryz.prog.info? 9).isSome = true by kernel_rfl)
 have hap:=fun b w=>xI (t:=40) (ty:=40) (e:=9) (by kernel_rfl) hi a b c w
 go_enter Tryz.func72,Tryz.ntmps72
 go_wp2
 go_ret
 exact ⟨rfl,rfl⟩
theorem LD (c:Nat) (w:World):Calls Tryz.prog 115 #[.slice none 0 c] w fun e w'=>e = .returned (.slice none 0 0) ∧ w' = w:=by
 have heq:=pY (t:=56) (e:=24) (by kernel_rfl) none c
 go_enter Tryz.func115,Tryz.ntmps115
 go_wp2
 go_ret
 exact ⟨rfl,rfl⟩
theorem LG (a:Addr) (c:Nat) (w:World):Calls Tryz.prog 115 #[.slice (some a) 0 c] w fun e w'=>e = .returned (.slice (some ⟨w.heap.size,0,none⟩) 0 0) ∧ w' = w.alloc (.cells #[] 24):=by
 have heq:=pY (t:=56) (e:=24) (by kernel_rfl) (some a) c
 obtain ⟨i,hi⟩:=ajl.mp (show (Tryz.prog.info? 24).isSome = true by kernel_rfl)
 have hap:=fun b w=>xI (t:=56) (ty:=56) (e:=24) (by kernel_rfl) hi a b c w
 go_enter Tryz.func115,Tryz.ntmps115
 go_wp2
 go_ret
 exact ⟨rfl,rfl⟩
def LH (sz:Nat) (own:Bool) (dV:List AV):Option (List AV × List AV):=match dV with
 | [.one (.f (.sl rows))]=>if rows.length ≤ 1000000 ∧ rows.all (fun r=>r.length == sz) = true then some ([.one (if own then .own sz rows else .f (.sl rows))],dV) else none
 | _=>none
theorem FD (w:World) (o:Obj):w.heap.size ≤ (w.alloc o).heap.size ∧ (∀ b,b < w.heap.size → (w.alloc o).heap[b]? = w.heap[b]?) ∧ (w.alloc o).heap[w.heap.size]? = some o ∧ (w.alloc o).heap.size = w.heap.size + 1:=by
 obtain ⟨h1,h2,h3⟩:=lM w o
 exact ⟨by omega,h2,h1,h3⟩
theorem BQ {f:FuncId} {cf:CF} {sz e:Nat} {own:Bool} (h0:0 < sz) (he:iX Tryz.prog f cf) (hrun:∀ (r:List FV) (l:List (List FV)),l.length < 1000000 → (r :: l).all (fun r=>r.length == sz) = true → IU (fun _ _=>none) 10 cf [vl (r :: l)] = some ([.one (if own then .own sz (r :: l) else .f (.sl (r :: l)))],[vl (r :: l)]))
  (hn:∀ (c:Nat) (w:World),Calls Tryz.prog f #[.slice none 0 c] w fun e w'=>e = .returned (.slice none 0 0) ∧ w' = w)
  (hs:∀ (a:Addr) (c:Nat) (w:World),Calls Tryz.prog f #[.slice (some a) 0 c] w fun e' w'=>e' = .returned (.slice (some ⟨w.heap.size,0,none⟩) 0 0) ∧ w' = w.alloc (.cells #[] e)):Sat Tryz.prog f (LH sz own):=by
 intro dV rs oP hg
 unfold LH at hg
 split at hg
 ·rename_i rows
  split at hg
  ·rename_i hc
   cases hg
   cases rows with
   | cons r l =>
    exact Qd he Hg zZ 10 _ _ _ (hrun r l (by have:=hc.1;simp at this;omega) hc.2)
   | nil =>
    intro Fz w vals bs ha hnd hap hfz
    match vals,ha with
    | [v],⟨b1,b2,h1,h2,e0⟩ =>
    obtain ⟨hv,rfl⟩:=h1
    obtain rfl:b2 = []:=h2
    subst e0
    simp only [eO] at hv
    obtain ⟨A,c,rfl,hle,hbig,_⟩:=hv
    have hrep:∀ (w':World) (v:Value),(∃ A,v = .slice A 0 0) → eO Fz w' (.sl []) v:=fun w' v ⟨A,hA⟩=>by
     simp only [eO];exact ⟨A,0,by rw [hA];rfl,ah1 _,by simp,.inl trivial⟩
    have hbk:∀ (w':World),eZ Fz w' [vl []] [.slice A ([]:List (List FV)).length c] []:=fun w' =>
     ⟨[],[],⟨by simp only [eO];exact ⟨A,c,rfl,hle,hbig,.inl trivial⟩,rfl⟩,rfl,rfl⟩
    cases A with
    | none =>
     refine (hn c w).mono fun e' w' ⟨e1,e2⟩=>?_
     subst e2
     refine ⟨Fz,[.slice none 0 0],[],[],e1,fun _ h=>h,fun b hb=>⟨hfz b hb,.inl hb⟩,ah1 _,fun _ _ _=>rfl,⟨rfl,rfl⟩,hbk w',?_,by simp,fun b hb=>by simp at hb⟩
     cases own with
     | true=>exact ⟨[],[],⟨h0,0,[],none,0,rfl,World.ownsRow_nil w' _ _ _,rfl,rfl⟩,rfl,rfl⟩
     | false=>exact ⟨[],[],⟨hrep w' _ ⟨none,rfl⟩,rfl⟩,rfl,rfl⟩
    | some a =>
     refine (hs a c w).mono fun e' w' ⟨e1,e2⟩=>?_
     subst e2
     obtain ⟨k1,k2,k3,k4⟩:=FD w (.cells #[] e)
     cases own with
     | true =>
      refine ⟨Fz,[.slice (some ⟨w.heap.size,0,none⟩) 0 0],[],[w.heap.size],e1,fun _ h=>h,fun b hb=>⟨aiz (hfz b hb) k1,.inl hb⟩,k1,fun b hb _=>k2 b hb,⟨rfl,rfl⟩,hbk _,?_,by simp,fun b hb=>?_⟩
      ·refine ⟨[w.heap.size],[],⟨h0,e,[],_,0,rfl,⟨by simp,.inr ⟨w.heap.size,0,#[],rfl,aiy _,k3,ah1 _,by simp [maxLen],by simp,by simp⟩⟩,rfl,rfl⟩,rfl,rfl⟩
      ·simp at hb
       subst hb
       exact ⟨fun hf=>by have:=hfz _ hf;omega,by omega,.inr (ah1 _)⟩
     | false =>
      exact ⟨Fz,[.slice (some ⟨w.heap.size,0,none⟩) 0 0],[],[],e1,fun _ h=>h,fun b hb=>⟨aiz (hfz b hb) k1,.inl hb⟩,k1,fun b hb _=>k2 b hb,⟨rfl,rfl⟩,hbk _,⟨[],[],⟨hrep _ _ ⟨_,rfl⟩,rfl⟩,rfl,rfl⟩,by simp,fun b hb=>by simp at hb⟩
  ·cases hg
 ·cases hg
theorem Qi : Sat Tryz.prog 72 (LH 1 false):=BQ (by decide) Qe Qg LB LC
theorem Qj : Sat Tryz.prog 115 (LH 3 true):=BQ (by decide) Qf Qh LD LG
end
section
attribute [local go_sem_proc] Nat.reduceAdd Nat.reduceMul Nat.reduceEqDiff Nat.reduceBEq Nat.reduceMod Nat.reduceDiv reduceCtorEq
attribute [local go_sem_proc ↓] reduceIte
open Go Ev
variable {ext : Env} {F n:Nat}
theorem at_ {α:Type} {l:List α} {i:Nat} (h:i < l.length):∃ x,l[i]? = some x ∧ decide ((i:Int) < (l.length:Int)) = true ∧ ((i:Int).toNat = i) ∧ (0:Int) ≤ i:=⟨_,aic h,by simpa using h,by simp,by omega⟩
theorem end_ {α:Type} {l:List α}:decide ((l.length:Int) < (l.length:Int)) = false:=by simp
theorem nx {i N:Nat} (h:i < N) (hN:N ≤ 200000000000000):IntKind.i64.wrap ((i:Int) + 1) = ((i + 1:Nat):Int):=by rw [oD (by omega) (by omega)];omega
def xJ (l:List ByteArray) (s:ByteArray):Bool:=l.any fun x=>decide (x = s)
theorem LJ {l:List ByteArray} {s x:ByteArray} {i:Nat} (h:l[i]? = some x):xJ (l.take (i + 1)) s = (xJ (l.take i) s || decide (x = s)):=by
 unfold xJ
 have hi:=(aiO.mp h)
 rw [aiL,h,List.any_append]
 simp
theorem VH {l:List ByteArray} {s x:ByteArray} {i:Nat} (h:l[i]? = some x) (hx:x = s):xJ l s = true:=by
 unfold xJ
 exact ai0.mpr ⟨x,ai2 h,by simpa using hx⟩
theorem Qk {l:List ByteArray} {s:ByteArray} (h:xJ (l.take l.length) s = false):xJ l s = false:=by rwa [aiC] at h
theorem Ql (l:List ByteArray) (s:ByteArray) (hl:l.length ≤ 1000000000000) (hF:200000000000001 ≤ F):∃ z:Int,(decide (0 ≤ z) = xJ l s) ∧ G ext F (n + 1) 148 [vl (l.map aY),vs s] = some ([vi z],[vl (l.map aY),vs s]):=by
 suffices h:W (fun r=>∃ z:Int,(decide (0 ≤ z) = xJ l s) ∧ r = ([vi z],[vl (l.map aY),vs s])) ⟨⟩ (G ext F (n + 1) 148 [vl (l.map aY),vs s]) by
  obtain ⟨r,h1,z,h2,h3⟩:=h
  exact ⟨z,h2,by rw [h1,h3]⟩
 show W _ _ (IU _ F c148 _)
 dsimp only [c148,ak,bU,aR,bD,aD,bq,dB,dU,cB,aC,bP,bV,bI,aN];simp only [go_sem]
 refine Lm l.length (fun i=>⟨[(0,PV.c (CV.one (PL.f (FV.sl (l.map aY))))),(1,PV.c (CV.one (PL.f (FV.str s)))),(7,PV.c (CV.one (PL.f (FV.int .i64 (l.map aY).length)))),(8,PV.c (CV.one (PL.f (FV.int .i64 i))))],[]⟩) (fun i=>xJ (l.take i) s = false) (by omega) rfl (fun i hi hP=>?_) (fun hP=>?_)
 ·obtain ⟨x,hx,hd,ht,h0⟩:=at_ hi
  have hn:=nx hi (aij hl (by decide))
  have hs:=LJ (s:=s) hx
  simp only [ahZ,ah3,hd,hx,ht,h0,aY,go_sem]
  repeat' (refine dI (fun h=>?_) (fun h=>?_) <;> simp only [h,ahZ,ah3,hd,hx,ht,h0,hn,aY,go_sem])
  ·exact ⟨i,by rw [VH hx (by simp at h;first | exact h | exact h.symm)];simp,rfl⟩
  ·rw [hs,hP];simp at h ⊢;first | exact h | exact fun e=>h e.symm
 ·have hd:=@end_ _ l
  simp only [ahZ,hd,go_sem]
  repeat' (refine dI (fun h=>?_) (fun h=>?_) <;> simp only [h,ahZ,hd,go_sem])
  exact ⟨-1,by rw [Qk hP];rfl,rfl⟩
theorem DW (l:List ByteArray) (s:ByteArray) (hl:l.length ≤ 1000000000000) (hF:200000000000001 ≤ F):G ext F (n + 2) 133 [vl (l.map aY),vs s] = some ([vb (xJ l s)],[vl (l.map aY),vs s]):=by
 refine cK (cf:=P6) rfl ?_
 obtain ⟨z,hz,h⟩:=Ql (ext:=ext) (F:=F) (n:=n) l s hl hF
 dsimp only [P6,ak,bU,aR,bD,aD,bq,dB,dU,cB,aC,bP,bV,bI,aN];simp only [h,go_sem]
 repeat' (refine dI (fun h=>?_) (fun h=>?_) <;> simp only [h,h,go_sem])
 rw [← hz]
theorem LK (l m:List ByteArray) (hl:l.length ≤ 1000000000000) (hF:200000000000001 ≤ F):G ext F (n + 1) 38 [vl (l.map aY),vl (m.map aY)] = some ([vb (decide (l = m))],[vl (l.map aY),vl (m.map aY)]):=by
 refine cK (cf:=Ow) rfl ?_
 dsimp only [Ow,ak,bU,aR,bD,aD,bq,dB,dU,cB,aC,bP,bV,bI,aN];simp only [ahZ,go_sem]
 repeat' (refine dI (fun h=>?_) (fun h=>?_) <;> simp only [h,ahZ,go_sem])
 ·have hlen:l.length = m.length:=by simp at h;omega
  refine Lm l.length (fun i=>⟨[(0,PV.c (CV.one (PL.f (FV.sl (l.map aY))))),(1,PV.c (CV.one (PL.f (FV.sl (m.map aY))))),(5,PV.c (CV.one (PL.f (FV.int .i64 i))))],[]⟩) (fun i=>l.take i = m.take i) (by omega) rfl (fun i hi hP=>?_) (fun hP=>?_)
  ·obtain ⟨x,hx,hd,ht,h0⟩:=at_ hi
   obtain ⟨y,hy,_⟩:=at_ (l:=m) (i:=i) (by omega)
   have hn:=nx hi (aij hl (by decide))
   simp only [ahZ,ah3,hd,hx,hy,ht,h0,aY,go_sem]
   repeat' (refine dI (fun h=>?_) (fun h=>?_) <;> simp only [h,ahZ,ah3,hd,hx,hy,ht,h0,hn,aY,go_sem])
   ·rw [aiL,aiL,hP,hx,hy]
    simp at h
    rw [h]
   ·have:l ≠ m:=by rintro rfl;rw [hx] at hy;cases hy;simp at h
    simp [this]
  ·have hd:=@end_ _ l
   simp only [ahZ,hd,go_sem]
   repeat' (refine dI (fun h=>?_) (fun h=>?_) <;> simp only [h,ahZ,hd,go_sem])
   have:l = m:=by rw [← aiC (l:=l),hP,hlen,aiC]
   simp [this]
 ·have:l ≠ m:=by rintro rfl;simp at h
  simp [this]
end
section
attribute [local go_sem_proc] Nat.reduceAdd Nat.reduceMul Nat.reduceEqDiff Nat.reduceBEq Nat.reduceMod Nat.reduceDiv reduceCtorEq
attribute [local go_sem_proc ↓] reduceIte
open Go Ev
variable {ext : Env} {F n:Nat}
structure Qn where
 q:ByteArray
 t:Int
 c:Int
 deriving DecidableEq
structure It where
 q:ByteArray
 t:Int
 c:Int
 d:List ByteArray
 ttl:Int
 u:Int
 r:Int
 deriving DecidableEq
structure Op where
 o:Int
 now:Int
 q:ByteArray
 t:Int
 c:Int
 d:List ByteArray
 ttl:Int
 r:Int
def rQ (x:Qn):List FV:=[.str x.q,.int .i64 x.t,.int .i64 x.c]
def rI (x:It):List FV:=[.str x.q,.int .i64 x.t,.int .i64 x.c,.sl (x.d.map aY),.int .i64 x.ttl,.int .i64 x.u,.int .i64 x.r]
abbrev vit (q:ByteArray) (t c:Int) (d:List ByteArray) (ttl u r:Int):AV:=.agg [.f (.str q),.f (.int .i64 t),.f (.int .i64 c),.f (.sl (d.map aY)),.f (.int .i64 ttl),.f (.int .i64 u),.f (.int .i64 r)]
def DX (k:Nat) (l:List ByteArray):Bool:=l.all fun x=>decide (x.size ≤ 2000) && decide (k ≤ 60)
theorem Jb {k:Nat} {l:List ByteArray} {x:ByteArray} {i:Nat} (h:l[i]? = some x):DX k (l.take (i + 1)) = (DX k (l.take i) && (decide (x.size ≤ 2000) && decide (k ≤ 60))):=by
 unfold DX
 rw [aiL,h,List.all_append]
 simp
theorem Hl {k:Nat} {l:List ByteArray} {x:ByteArray} {i:Nat} (h:l[i]? = some x) (hx:¬ (x.size ≤ 2000 ∧ k ≤ 60)):DX k l = false:=by
 unfold DX
 refine aiX.mpr fun ha=>hx ?_
 have:=aib.mp ha x (ai2 h)
 simpa using this
def mX (q:ByteArray) (d:List ByteArray):Bool:=DX d.length d && decide (q.size ≤ 300)
theorem LM (q:ByteArray) (t c:Int) (d:List ByteArray) (ttl:Int) (hl:d.length ≤ 200000000000000) (hF:200000000000001 ≤ F):G ext F (n + 1) 45 [oF q t c d ttl] = some ([vb (mX q d)],[oF q t c d ttl]):=by
 refine cK (cf:=c45) rfl ?_
 dsimp only [c45,ak,bU,aR,bD,aD,bq,dB,dU,cB,aC,bP,bV,bI,aN];simp only [go_sem]
 refine Lm d.length (fun i=>⟨[(1,PV.c (CV.one (PL.ptr 40000 0))),(3,PV.c (CV.one (PL.f (FV.int .i64 i))))],[(40000,.dM [.f (.str q),.f (.int .i64 t),.f (.int .i64 c),.f (.sl (d.map aY)),.f (.int .i64 ttl)])]⟩) (fun i=>DX d.length (d.take i) = true) (by omega) rfl (fun i hi hP=>?_) (fun hP=>?_)
 ·obtain ⟨x,hx,hd,ht,h0⟩:=at_ hi
  have hn:=nx hi (aij hl (by decide))
  simp only [ahZ,ah3,hd,hx,ht,h0,aY,go_sem]
  repeat' (refine dI (fun h=>?_) (fun h=>?_) <;> simp only [h,ahZ,ah3,hd,hx,ht,h0,hn,aY,go_sem])
  all_goals simp only [aii,aiT] at *
  ·simp [mX,Hl hx (k:=d.length) (by omega)]
  ·simp [mX,Hl hx (k:=d.length) (by omega)]
  ·rw [Jb hx,hP];simp;omega
 ·have hd:=@end_ _ d
  rw [aiC] at hP
  simp only [ahZ,hd,go_sem]
  repeat' (refine dI (fun h=>?_) (fun h=>?_) <;> simp only [h,ahZ,hd,go_sem])
  simp [mX,hP]
  try omega
def LP (a:ByteArray) (t c:Int) (d:List ByteArray) (ttl:Int) (a':ByteArray) (t' c':Int) (d':List ByteArray) (LQ:Int):Bool:=decide (a = a' ∧ t = t' ∧ c = c' ∧ ttl = LQ ∧ d = d')
theorem Qm (a:ByteArray) (t c:Int) (d:List ByteArray) (ttl:Int) (a':ByteArray) (t' c':Int) (d':List ByteArray) (LQ:Int) (hl:d.length ≤ 1000000000000) (hF:200000000000001 ≤ F):G ext F (n + 2) 107 [oF a t c d ttl,oF a' t' c' d' LQ] = some ([vb (LP a t c d ttl a' t' c' d' LQ)],[oF a t c d ttl,oF a' t' c' d' LQ]):=by
 refine cK (cf:=c107) rfl ?_
 have ht:=fun n=>LK (ext:=ext) (F:=F) (n:=n) d d' hl hF
 dsimp only [c107,ak,bU,aR,bD,aD,bq,dB,dU,cB,aC,bP,bV,bI,aN];simp only [ht,go_sem]
 repeat' (refine dI (fun h=>?_) (fun h=>?_) <;> simp only [h,ht,go_sem])
 all_goals (simp [LP] at *)
 all_goals (try simp_all)
end
section
open Go Ev
variable {ext : Env} {F n:Nat}
theorem jH {body:St → Option (Out × St)} {rs:St → St} {k:Out × St → Prop} {u:Tok k} {F:Nat} {σ:St} (N:Nat) (T:Nat → St) (P:Nat → Prop) (hF:N < F) (hs:rs σ = T 0) (h0:P 0)
  (step:∀ i,i < N → P i → W (fun p=>match p.1 with
   | .iK=>rs p.2 = T (i + 1) ∧ P (i + 1)
   | o=>k (o,p.2)) ⟨⟩ (body (T i)))
  (last:P N → W (fun p=>match p.1 with
   | .iK=>False
   | o=>k (o,p.2)) ⟨⟩ (body (T N))):W k u (iter body rs F σ):=by
 refine BO (fun m σ=>∃ i,i ≤ N ∧ m = N - i ∧ rs σ = T i ∧ P i) ?_ F N σ hF ⟨0,aiy _,rfl,hs,h0⟩
 rintro m σ ⟨i,hi,rfl,hr,hP⟩
 rw [hr]
 by_cases hlt:i < N
 ·refine uE (step i hlt hP) fun p hp=>?_
  obtain ⟨o,s⟩:=p
  cases o with
  | iK=>exact ⟨N - (i + 1),by omega,i + 1,by omega,rfl,hp.1,hp.2⟩
  | ext j=>exact hp
  | ret=>exact hp
 ·have:i = N:=by omega
  subst this
  refine uE (last hP) fun p hp=>?_
  obtain ⟨o,s⟩:=p
  cases o with
  | iK=>exact hp.elim
  | ext j=>exact hp
  | ret=>exact hp
def nr2 (s:Nat) (l:List (Nat × Nat)) (σ:St):Option St → St
 | some t=>iK ⟨put t.tm s (.c (.one (.own (dw s) 0))),t.ob⟩ l
 | none=>iK σ l
def Z6 (σ:St) (s sz:Nat) (l:List (Nat × Nat)):Option PV → St
 | some (.c (.one .bK))=>if sz = 0 then iK σ l else nr2 s l σ (new σ (dw s) (.row sz []))
 | _=>iK σ l
@[go_sem] theorem Z7 {σ:St} {s sz:Nat} {l:List (Nat × Nat)}:iK σ ((s,sz) :: l) = Z6 σ s sz l (get σ.tm s):=by
 unfold Z6 nr2
 rw [iK]
 split <;> first | rfl | (split <;> first | rfl | (split <;> simp_all))
@[go_sem] theorem acK {σ:St} {s sz key n:Nat} {l:List (Nat × Nat)}:Z6 σ s sz l (some (.c (.one (.own key n)))) = iK σ l:=rfl
@[go_sem] theorem agU {σ:St} {s sz:Nat} {l:List (Nat × Nat)} {x:FV}:Z6 σ s sz l (some (.c (.one (.f x)))) = iK σ l:=rfl
@[go_sem] theorem acL {σ:St} {s sz:Nat} {l:List (Nat × Nat)}:Z6 σ s sz l (some (.c (.one .bK))) = if sz = 0 then iK σ l else nr2 s l σ (new σ (dw s) (.row sz [])):=rfl
@[go_sem] theorem Z8 {σ τ:St} {s:Nat} {l:List (Nat × Nat)}:nr2 s l σ (some τ) = iK ⟨put τ.tm s (.c (.one (.own (dw s) 0))),τ.ob⟩ l:=rfl
abbrev It.k (x:It):Qn:=⟨x.q,x.t,x.c⟩
abbrev vst (room:Int) (l:List It) (ch:Int):AV:=.agg [.f (.int .i64 room),.f (.sl (l.map rI)),.f (.int .i64 ch)]
theorem all_succ {α:Type} {P:α → Prop} {l:List α} {i:Nat} {x:α} (h:∀ y ∈ l.take i,P y) (hx:l[i]? = some x) (hp:P x):∀ y ∈ l.take (i + 1),P y:=by
 intro y hy
 rw [aiL,hx] at hy
 rcases air.mp hy with hy | hy
 ·exact h y hy
 ·simp at hy;subst hy;exact hp
structure Se where
 q:ByteArray
 t:Int
 c:Int
 d:List ByteArray
 ttl:Int
 deriving DecidableEq
abbrev Se.k (x:Se):Qn:=⟨x.q,x.t,x.c⟩
abbrev Se.v (x:Se):AV:=oF x.q x.t x.c x.d x.ttl
def rS (x:Se):List FV:=[.str x.q,.int .i64 x.t,.int .i64 x.c,.sl (x.d.map aY),.int .i64 x.ttl]
end
end Go.Proofs.YtfokaoeinpnagaaGreat.Kc

/- A part of the proof of SeekRoots: cut, joined and given short names by a program of this session (wip/tools/pack.py); Lean checks it. No condition. -/
import Derived.Test.YtfokaoeinpnagaaPSRtsf
import Derived.Below
import Derived.Deep.Draws
import Derived.Deep.AppendLies
import Derived.Maps.AppendAt
import Derived.OwnWalk
import Derived.Laws.BytesArg
import Derived.Laws.MakeOwn
import Derived.Laws.OwnMore
import Derived.Deep.OwnRows
import Derived.Tactics
import Derived.Lib.ConvBytes
import Derived.Laws.Slices
import Derived.WalkKit
import Derived.KernelRfl
import Derived.RowKit3
import Derived.Deep.LoopGhost
import Derived.Deep.QuietTactic
import Derived.BigQuiet
import Derived.WideLaws
import Derived.Deep.DeepCutAuto
import Derived.Deep.CutBlock
import Derived.Deep.RegionHeld3
import Derived.Laws.Rows
import Derived.Lib.AppendStr
import Derived.ArgAppend
import Derived.Laws.IdiomCopy
import Derived.RowKit
import Derived.OrdersHeld
import Derived.Laws.BitsLemmas
import Derived.ChangeKeysEq
import Derived.Lib.Strings
import Derived.Laws.World
import Derived.Laws.Entries
import Derived.Test.YtfokaoeinpnagaaProg
import Derived.Laws.StructEq
import Derived.WalkSpells
import Derived.Test.YtfokaoeinpnagaaPSRtsd
set_option linter.unusedSectionVars false
set_option linter.unusedSimpArgs false
set_option linter.unusedVariables false
set_option maxHeartbeats 16000000
set_option maxRecDepth 100000
namespace Go.Proofs.Ytfokaoeinpnagaa.Ev
section
open Go
section
variable {P : Program} {Fz bn:Nat → Prop} {w:World}
def Qi : TV → TV
 | .own _ rows=>.f (.sl rows)
 | x=>x
def Qj : AV → AV
 | .one x=>.one (Qi x)
 | .agg xs=>.agg (xs.map Qi)
def Ea : TV → Bool
 | .f _=>true
 | .own _ _=>true
 | _=>false
def Hz : AV → Bool
 | .one x=>Ea x
 | .agg xs=>xs.all Ea
theorem Eb {x:TV} {v:Value} {bs:List Nat} (h:mP Fz w x v bs) (hx:Ea x = true) (hw:∀ b,Fz b → bn b) (hb:∀ b ∈ bs,bn b):mP bn w (Qi x) v []:=by
 cases x with
 | f y=>exact ⟨eO.mono hw (fun _ _=>rfl) y v h.1,rfl⟩
 | own sz rows=>exact ⟨iY.fz h hw hb,rfl⟩
 | iD=>cases hx
 | eX=>cases hx
 | ptr cs=>cases hx
 | mp sh ents=>cases hx
 | fp cs=>cases hx
 | fn f cs=>cases hx
 | any=>cases hx
theorem Aa : ∀ {xs:List TV} {vs:List Value} {bs:List Nat},kr Fz w xs vs bs → xs.all Ea = true → (∀ b,Fz b → bn b) → (∀ b ∈ bs,bn b) → kr bn w (xs.map Qi) vs []
 | [],[],_,h,_,_,_=>rfl
 | x :: xs,v :: vs,_,⟨b1,b2,h1,h2,e⟩,hx,hw,hb=>by
  subst e
  rw [List.all_cons,ahK] at hx
  exact ⟨[],[],Eb h1 hx.1 hw (fun b h=>hb b (by simp [h])),Aa h2 hx.2 hw (fun b h=>hb b (by simp [h])),rfl⟩
 | [],_ :: _,_,h,_,_,_=>h.elim
 | _ :: _,[],_,h,_,_,_=>h.elim
theorem Mx {x:AV} {v:Value} {bs:List Nat} (h:nV Fz w x v bs) (hx:Hz x = true) (hw:∀ b,Fz b → bn b) (hb:∀ b ∈ bs,bn b):nV bn w (Qj x) v []:=by
 cases x with
 | one y=>exact Eb h hx hw hb
 | agg xs =>
  obtain ⟨cs,e,h1⟩:=h
  exact ⟨cs,e,Aa h1 hx hw hb⟩
theorem Ab : ∀ {xs:List AV} {vs:List Value} {bs:List Nat},fu Fz w xs vs bs → (∀ x ∈ xs,Hz x = true) → (∀ b,Fz b → bn b) → (∀ b ∈ bs,bn b) → fu bn w (xs.map Qj) vs []
 | [],[],_,h,_,_,_=>rfl
 | x :: xs,v :: vs,_,⟨b1,b2,h1,h2,e⟩,hx,hw,hb=>by
  subst e
  exact ⟨[],[],Mx h1 (hx x (by simp)) hw (fun b h=>hb b (by simp [h])),Ab h2 (fun y hy=>hx y (by simp [hy])) hw (fun b h=>hb b (by simp [h])),rfl⟩
 | [],_ :: _,_,h,_,_,_=>h.elim
 | _ :: _,[],_,h,_,_,_=>h.elim
theorem Sat.lend {f:FuncId} {g g':List AV → Option (List AV × List AV)} (h:Sat P f g) (hg:∀ dW r,g' dW = some r → (∀ x ∈ dW,Hz x = true) ∧ r.2 = dW ∧ ∃ l:List SV,r.1 = zV l ∧ g (dW.map Qj) = some (r.1,dW.map Qj)):Sat P f g':=by
 intro dW rs oU he Fz w vals bs ha hnd hap hfz
 obtain ⟨h1,h2,l,h3,h4⟩:=hg _ _ he
 simp only at h2 h3 h4
 subst h2
 subst h3
 have hfr:=Ab (bn:=fun b=>Fz b ∨ b ∈ bs) ha h1 (fun _ h=>.inl h) (fun _ h=>.inr h)
 refine (h _ _ _ h4 (fun b=>Fz b ∨ b ∈ bs) w vals [] hfr aji (by simp) (fun b hb=>hb.elim (hfz b) (fun hm=>(hap b hm).2))).mono fun e w' ⟨Fz1,sw,b1,b2,he,hp⟩=>?_
 obtain ⟨e1,e2⟩:=sH hp.rs
 refine ⟨Fz,sw,bs,[],he,fun _ h=>h,fun b hb=>⟨aic (hfz b hb) hp.big,.inl hb⟩,hp.big,fun b hb _=>hp.ext b hb (by simp),hp.kp,fu.mono (fun _ h=>h) (fun b hb=>hp.ext b (hfz b hb) (by simp)) (fun b hb=>hp.ext b (hap b hb).2 (by simp)) ha,by rw [e1];exact pF,by simpa using hnd,fun b hb=>?_⟩
 have hb':b ∈ bs:=by simpa using hb
 exact ⟨(hap b hb').1,aic (hap b hb').2 hp.big,.inl hb'⟩
def uW (l:List (FuncId × (List AV → Option (List AV × List AV)))) (Γ:Env):Env:=fun f dW=>match jd l f dW with
 | some r=>some r
 | none=>Γ f dW
theorem MB {l:List (FuncId × (List AV → Option (List AV × List AV)))} {Γ:Env} (h:∀ p ∈ l,Sat P p.1 p.2) (ku:gQ P Γ):gQ P (uW l Γ):=by
 intro f dW rs oU he
 unfold uW at he
 split at he
 ·rename_i r hr
  cases he
  exact sI h f dW rs oU hr
 ·exact ku f dW rs oU he
theorem FQ {l:List (FuncId × (List AV → Option (List AV × List AV)))} {Γ:Env} (h:∀ p ∈ l,∃ fn,P.funcs[p.1]? = some fn ∧ (fn.name == "runtime.NumGoroutine") = false ∧ fn.body.isSome = true) (ku:dG P Γ):dG P (uW l Γ):=by
 intro f dW r he
 unfold uW at he
 split at he
 ·rename_i r' hr
  exact nZ h f dW r' hr
 ·exact ku f dW r he
end
end
section
open Go
def jN (f:Func):Code:=match f.body with
 | some c=>c
 | none=>.skip
def nK : Nat → Code → Code
 | 0,.seq a _=>a
 | n + 1,.seq _ b=>nK n b
 | _,c=>c
def tlS : Nat → Code → Code
 | 0,c=>c
 | n + 1,.seq _ b=>tlS n b
 | _,c=>c
def uD : Nat → CC → CC
 | 0,.seq a _=>a
 | n + 1,.seq _ b=>uD n b
 | _,c=>c
def tlC : Nat → CC → CC
 | 0,c=>c
 | n + 1,.seq _ b=>tlC n b
 | _,c=>c
def BN : Nat → Code → CC → Bool
 | 0,_,_=>true
 | n + 1,.seq _ b,.seq _ y=>BN n b y
 | _,_,_=>false
theorem xH {P:Program} {X:Hx} {N:Nat → Bool} (H:List Hi):∀ (n k:Nat) (c:Code) (x:CC) (r:List Hi),BN n c x = true → (∀ i,i < n → comp P X N (nK i c) (H.drop (k + i)) = some (uD i x,H.drop (k + i + 1))) → comp P X N (tlS n c) (H.drop (k + n)) = some (tlC n x,r) → comp P X N c (H.drop k) = some (x,r)
 | 0,k,c,x,r,_,_,h=>h
 | n + 1,k,c,x,r,hs,hi,ht=>by
  unfold BN at hs
  split at hs
  ·rename_i h;cases h
  ·rename_i m a b y z e
   cases e
   have h0:=hi 0 (by omega)
   have h1:=xH H n (k + 1) b z r hs (fun i hlt=>by
    have:=hi (i + 1) (by omega)
    rw [show k + 1 + i = k + (i + 1) from by omega,show k + (i + 1) + 1 = k + (i + 1) + 1 from rfl]
    exact this) (by rw [show k + 1 + n = k + (n + 1) from by omega];exact ht)
   have h0':comp P X N a (H.drop k) = some (y,H.drop (k + 1)):=h0
   unfold comp
   rw [h0']
   simp only [Option.bind_some]
   rw [h1]
   rfl
  ·cases hs
end
end Go.Proofs.Ytfokaoeinpnagaa.Ev
namespace Go.Proofs.YtfokaoeinpnagaaW.aR
open Go.RowKit
structure ah (p:Prop):Prop where mk :: (out:p)
structure bL (w w':World):Prop where mk :: (out:∃ n,w' = w.drewN n)
theorem bL.refl (w:World):bL w w:=⟨⟨0,rfl⟩⟩
theorem bL.step {w w':World} (h:bL w w') (n:Nat):bL w (w'.drewN n):=by
 obtain ⟨m,rfl⟩:=h
 exact ⟨⟨m + n,World.drewN_drewN ..⟩⟩
theorem bL.grown {w w':World} (h:bL w w'):Grown w w':=by
 obtain ⟨n,rfl⟩:=h
 induction n with
 | zero=>exact Grown.refl _
 | succ n ih=>rw [← World.drew_drewN];exact Grown.drew ih
theorem bL.below {w w':World} (h:bL w w'):Below w.heap.size w w':=by
 obtain ⟨n,rfl⟩:=h
 induction n with
 | zero=>exact Below.refl _ _
 | succ n ih=>rw [← World.drew_drewN];exact ih.drew
def rd (xs:List Int) (i:Int):Int:=xs.getD i.toNat 0
def bt (s:ByteArray) (i:Int):Int:=if h:i.toNat < s.size then ((s[i.toNat]'h).toNat:Int) else 0
theorem oH (s:ByteArray) (i:Int):∀ h:i.toNat < s.size,((s[i.toNat]'h).toNat:Int) = bt s i:=fun h=>by simp [bt,h]
theorem gB (s:ByteArray) (i:Int):0 ≤ bt s i ∧ bt s i ≤ 255:=by
 unfold bt
 split
 ·rename_i h
  have:=(s[i.toNat]'h).toNat_lt
  omega
 ·omega
theorem ak {w W:World} (h:Below w.heap.size w W) (o:Obj):Below w.heap.size w (W.alloc o):=h.alloc h.size o
theorem ji {B:Nat} {w W:World} (h:Below B w W):Below B w W.drew:=⟨h.os,h.tape,h.output,h.size,h.block⟩
theorem aj {B:Nat} {w W:World} (h:Below B w W) (n:Nat):Below B w (W.drewN n):=⟨h.os,h.tape,h.output,h.size,h.block⟩
theorem FR {B:Nat} {w w1 w2:World} (h:Below B w w1) (hB:B ≤ w1.heap.size) (k:Below w1.heap.size w1 w2):Below B w w2 :=
 h.trans ⟨k.os,k.tape,k.output,k.size,fun i hi=>k.block i (aic hi hB)⟩
theorem xI {w w1:World} (h:Below w.heap.size w w1) (row:Option Nat):w.grownBy w1 row:=⟨h.os,h.tape,h.output,h.size,fun i hi _=>h.block i hi⟩
theorem nE {w w1:World} (h:Below w.heap.size w w1) {a:Addr} {v:Value} (hc:w.cell? a = some v):w1.cell? a = some v:=(h.cell (World.block_lt_of_cell? w a hc)).trans hc
theorem add_plain (g j:Nat):(⟨g,0,none⟩:Addr).add j = ⟨g,j,none⟩:=by unfold Addr.add;split <;> simp_all
def gD (w:World) (k:IntKind) (A:Option Addr) (n:Nat) (xs:List Int):Prop :=
 xs.length = n ∧ n ≤ 9223372036854775807 ∧ (0 < n → ∃ ad,A = some ad ∧ ∀ j,j < n → w.cell? (ad.add j) = some (.int k (xs.getD j 0)))
theorem gD.at_ {w:World} {k:IntKind} {A:Option Addr} {n:Nat} {xs:List Int} (h:gD w k A n xs) (i:Int) (h0:0 ≤ i) (h1:i < n):∃ ad,A = some ad ∧ w.cell? (ad.add i.toNat) = some (.int k (rd xs i)):=by
 obtain ⟨ad,e,hc⟩:=h.2.2 (by omega)
 exact ⟨ad,e,hc _ (by omega)⟩
theorem gD.below {w w1:World} {k:IntKind} {A:Option Addr} {n:Nat} {xs:List Int} (h:gD w k A n xs) (hb:Below w.heap.size w w1):gD w1 k A n xs :=
 ⟨h.1,h.2.1,fun hn=>by
  obtain ⟨ad,e,hc⟩:=h.2.2 hn
  exact ⟨ad,e,fun j hj=>nE hb (hc j hj)⟩⟩
theorem Qr (W:World) (base:Nat) (e:TypeId) (size:Nat):W.ownsRow base e size (.slice none 0 0) 0 []:=⟨by simp,.inl ⟨rfl,rfl⟩⟩
theorem sN {w:World} {base:Nat} {e:TypeId} {size n:Nat} {v:Value} {xs:List Value} (h:w.ownsRow base e size v n xs) (k:Nat) (hk:v.ownBlock = some k):base ≤ k:=by
 rcases h.2 with ⟨rfl,_⟩ | ⟨g,cap,cur,rfl,hb,_⟩
 ·simp [Value.ownBlock] at hk
 ·have:g = k:=by simpa [Value.ownBlock] using hk
  omega
theorem MI {w:World} {base:Nat} {e:TypeId} {size n:Nat} {v:Value} {xs:List Value} (h:w.ownsRow base e size v n xs) (k:Nat) (hk:v.ownBlock = some k):k < w.heap.size:=by
 rcases h.2 with ⟨rfl,_⟩ | ⟨g,cap,cur,rfl,hb,hh,_⟩
 ·simp [Value.ownBlock] at hk
 ·have:g = k:=by simpa [Value.ownBlock] using hk
  subst this
  exact (aiJ.1 hh).1
theorem sO {w w1:World} {base:Nat} {e:TypeId} {size n:Nat} {v:Value} {xs:List Value} (h:w.ownsRow base e size v n xs) (hb:Below w.heap.size w w1):w1.ownsRow base e size v n xs :=
 h.kept (xI hb none) (by cases v.ownBlock <;> simp)
theorem Jk {w w1:World} {base:Nat} {e:TypeId} {size n:Nat} {v:Value} {xs:List Value} (h:w.ownsRow base e size v n xs) {row:Option Nat} (hg:w.grownBy w1 row) (hne:v.ownBlock = none ∨ v.ownBlock ≠ row):w1.ownsRow base e size v n xs:=h.kept hg hne
section
variable {P : Program} {ops:Array Oper} {rest:List Oper} {o:Oper} {a:Act} {Q:Exit → Act → World → Prop}
end
section
variable {P : Program}
end
section
variable {P : Program} {ops:Array Oper} {rest:List Oper} {o:Oper} {a:Act} {Q:Exit → Act → World → Prop}
end
def bytesOf (s:ByteArray):List Int:=s.data.toList.map fun b=>(b.toNat:Int)
theorem gD.Ec {w:World} {k:IntKind} {A:Option Addr} {n:Nat} {xs:List Int} (h:gD w k A n xs) (i:Nat) (hi:i ≤ n):gD w k A i (xs.take i):=by
 refine ⟨by rw [ahS,h.1];omega,by have:=h.2.1;omega,fun hp=>?_⟩
 obtain ⟨ad,e,hc⟩:=h.2.2 (by omega)
 refine ⟨ad,e,fun j hj=>?_⟩
 rw [hc j (by omega)]
 simp [ah5,hj]
def mQ {α:Type} (a b:Option α):Prop:=∀ r,a = some r → b = some r
theorem mQ.refl {α:Type} (a:Option α):mQ a a:=fun _ h=>h
theorem mQ.none {α:Type} (b:Option α):mQ Option.none b:=fun _ h=>by cases h
theorem mQ.trans {α:Type} {a b c:Option α} (h:mQ a b) (k:mQ b c):mQ a c:=fun r hr=>k r (h r hr)
theorem mQ.ite {α:Type} {c:Prop} [Decidable c] {a a' b b':Option α} (h:mQ a a') (k:mQ b b'):mQ (if c then a else b) (if c then a' else b'):=by
 split
 ·exact h
 ·exact k
theorem mQ.bind {α β:Type} {a a':Option α} {f f':α → Option β} (h:mQ a a') (k:∀ x,mQ (f x) (f' x)):mQ (a.bind f) (a'.bind f'):=by
 intro r hr
 obtain ⟨x,hx,hf⟩:=Option.bind_eq_some_iff.1 hr
 exact Option.bind_eq_some_iff.2 ⟨x,h x hx,k x r hf⟩
theorem mQ.map {α β:Type} {a a':Option α} (f:α → β) (h:mQ a a'):mQ (a.map f) (a'.map f):=by
 intro r hr
 obtain ⟨x,hx,hf⟩:=ajc.1 hr
 exact ajc.2 ⟨x,h x hx,hf⟩
theorem uY {α:Type} {g:Nat → Option α} (h:∀ k,mQ (g k) (g (k + 1))) (k:Nat):∀ j,mQ (g k) (g (k + j))
 | 0=>mQ.refl _
 | j + 1=>(uY h k j).trans (h (k + j))
theorem uE {α:Type} {g:Nat → Option α} (h:∀ k,mQ (g k) (g (k + 1))) {k k':Nat} (hk:k ≤ k') {r:α} (hr:g k = some r):g k' = some r:=by
 have:=uY h k (k' - k) r hr
 rwa [Nat.add_sub_cancel' hk] at this
def fH {α:Type} (R:α → List Value → Prop) (size:Nat) (ps:List α) (cs:List Value):Prop :=
 cs.length = ps.length * size ∧ ∀ j p,ps[j]? = some p → R p ((cs.drop (j * size)).take size)
theorem fH.none {α:Type} (R:α → List Value → Prop) (size:Nat):fH R size [] []:=⟨by simp,fun j p h=>by simp at h⟩
theorem fH.snoc {α:Type} {R:α → List Value → Prop} {size:Nat} {ps:List α} {cs c:List Value} {p:α} (h:fH R size ps cs) (hp:R p c) (hc:c.length = size):fH R size (ps ++ [p]) (cs ++ c):=by
 refine ⟨by rw [ahJ,h.1,hc,ahJ,List.length_singleton,Nat.add_mul,Nat.one_mul],fun j q hq=>?_⟩
 rcases aiT j ps.length with hj | hj
 ·rw [aju hj] at hq
  have h1:j * size + size ≤ cs.length:=by rw [h.1,← aiq];exact ai8 _ hj
  have h2:=h.2 j q hq
  rw [List.drop_append_of_le_length (by omega),ajq (by rw [ah4];omega)]
  exact h2
 ·have hj':j = ps.length:=by
   have:=(aiu.1 hq).1
   rw [ahJ,List.length_singleton] at this
   omega
  subst hj'
  have hq':p = q:=by simpa using hq
  subst hq'
  rw [← h.1,List.drop_left,← hc,aiv]
  exact hp
theorem fH.y9 {α:Type} {R R':α → List Value → Prop} {size:Nat} {ps:List α} {cs:List Value} (h:fH R size ps cs) (hR:∀ p c,R p c → R' p c):fH R' size ps cs:=⟨h.1,fun j p hj=>hR _ _ (h.2 j p hj)⟩
def l7 {α:Type} (R:α → List Value → Prop) (size:Nat) (w:World) (A:Option Addr) (n:Nat) (ps:List α):Prop :=
 ps.length = n ∧ n ≤ 9223372036854775807 ∧ (0 < n → ∃ ad,A = some ad ∧ ∀ j p,ps[j]? = some p → ∃ c,c.length = size ∧ R p c ∧ ∀ i u,c[i]? = some u → w.cell? (ad.add (j * size + i)) = some u)
theorem l7.y9 {α:Type} {R R':α → List Value → Prop} {size:Nat} {w w1:World} {A:Option Addr} {n:Nat} {ps:List α} (h:l7 R size w A n ps) (hb:Below w.heap.size w w1) (hR:∀ p c,R p c → R' p c):l7 R' size w1 A n ps :=
 ⟨h.1,h.2.1,fun hn=>by
  obtain ⟨ad,e,hc⟩:=h.2.2 hn
  refine ⟨ad,e,fun j p hj=>?_⟩
  obtain ⟨c,hs,hr,hcell⟩:=hc j p hj
  exact ⟨c,hs,hR _ _ hr,fun i u hu=>nE hb (hcell i u hu)⟩⟩
theorem ze {α:Type} {R:α → List Value → Prop} {w:World} {base n size:Nat} {e:TypeId} {v:Value} {ps:List α} {cs:List Value} (h:w.ownsRow base e size v n cs) (hR:fH R size ps cs) (hn:ps.length = n) :
  ∃ A c,v = .slice A n c ∧ l7 R size w A n ps:=by
 rcases Nat.eq_zero_or_pos n with h0 | h0
 ·rcases h.2 with ⟨rfl,rfl⟩ | ⟨g,cap,cur,rfl,_⟩
  ·exact ⟨none,0,rfl,hn,by omega,fun hp=>absurd hp (by omega)⟩
  ·exact ⟨_,cap,rfl,hn,by omega,fun hp=>absurd hp (by omega)⟩
 ·obtain ⟨g,cap,rfl,_,_⟩:=h.form h0
  have hm:n ≤ 9223372036854775807:=by
   rcases h.2 with ⟨_,h1⟩ | ⟨g',cap',cur,he,_,_,h1,h2,_⟩
   ·omega
   ·simp only [maxLen] at h2
    omega
  refine ⟨_,cap,rfl,hn,hm,fun _=>⟨_,rfl,fun j p hj=>⟨(cs.drop (j * size)).take size,?_,hR.2 j p hj,fun i u hu=>?_⟩⟩⟩
  ·have hjl:=(aiu.1 hj).1
   have h1:j * size + size ≤ cs.length:=by rw [hR.1,← aiq];exact ai8 _ hjl
   rw [ahS,ah4]
   omega
  ·refine h.cells (g:=g) rfl _ u ?_
   rw [aip] at hu
   split at hu
   ·rw [aiA] at hu
    exact hu
   ·cases hu
section
variable {P : Program} {ops:Array Oper} {rest:List Oper} {o:Oper} {a:Act} {Q:Exit → Act → World → Prop}
theorem l8 {w0 W:World} (base:Nat) (hgd:o.guard = none) (s x:Operand) (t e:TypeId) (z:Value) (size bytes:Nat)
  (ho:o.op = .call { callee:=.builtin .append,args:=#[s,x],argTypes:=#[t,t] })
  (ht:P.underlying t = some (.slice e)) (hinfo:(P.info? e).map (fun i=>(i.zero,i.size,i.bytes)) = some (some z,size,bytes)) (hz:z.cells.size = size) (hs0:0 < size) (hb0:0 < bytes)
  (v:Value) (n:Nat) (xs ys:List Value) (hs:a.eval s = v) (hx:a.eval x = .slice (some ⟨W.heap.size,0,none⟩) 1 1) (hys:ys.length = size) (h1:∀ u ∈ ys,u.oneCell' = true)
  (HO:W.ownsRow base e size v n xs) (HB:Below base w0 W) (hbase:base ≤ W.heap.size) (hl:(n + 1) * bytes ≤ 140737488355328)
  (h:∀ v1 w1,w1.ownsRow base e size v1 (n + 1) (xs ++ ys) → Below base w0 w1 → W.grownBy w1 v.ownBlock → (v1.ownBlock = v.ownBlock ∨ ∃ b,v1.ownBlock = some b ∧ W.heap.size ≤ b) → wpList P ops Q rest (a.put o.dst v1) w1) :
  wpList P ops Q (o :: rest) a (W.alloc (.cells ys.toArray e)):=by
 obtain ⟨i0,hi,hzz⟩:=ajc.1 hinfo
 simp only [ahU] at hzz
 obtain ⟨hz0,hz1,hz2⟩:=hzz
 have hlen:n + 1 ≤ 140737488355328:=ahX (Nat.le_mul_of_pos_right _ hb0) hl
 refine wpList_append_own_at (W.alloc (.cells ys.toArray e)) hgd s x t ho base e i0 z size bytes ht hi hz0 hz1 hz2 hz hs0 v n xs hs (HO.alloc _) ⟨W.heap.size,0,none⟩ 1 1 ys hx (by rw [hys];simp)
  (by simpa using World.news_of_block (cs:=ys.toArray) (t:=e) (fr:=(0,0)) (heap_alloc_new W (.cells ys.toArray e))) h1 (by simp only [maxLen];omega) hl (by simp;omega) ?_
 intro v1 w1 hown hg _ hat
 refine h v1 w1 hown ((HB.alloc hbase _).grown hg (by simp;omega) (sN HO)) (World.grownBy.trans (World.grownBy_alloc W _ _) hg) ?_
 rcases hat with hat | hat
 ·exact .inl hat
 ·exact .inr ⟨_,hat,by simp⟩
end
theorem own_ne {w:World} {base:Nat} {e t:TypeId} {size n g:Nat} {v:Value} {xs:List Value} {cs:Array Value} (h:w.ownsRow base e size v n xs) (hg:w.heap[g]? = some (.cells cs t (0,0))) (hne:e ≠ t):some g ≠ v.ownBlock:=by
 rcases h.2 with ⟨rfl,_⟩ | ⟨g',cap,cur,rfl,_,hh,_⟩
 ·simp [Value.ownBlock]
 ·intro he
  have:g = g':=by simpa [Value.ownBlock] using he
  subst this
  rw [hg] at hh
  injection hh with hh
  injection hh with _ ht
  exact hne ht.symm
theorem Qs {w:World} {g:Nat} {t:TypeId} {cs:Array Value} (h:w.heap[g]? = some (.cells cs t (0,0))) (i:Nat) (u:Value):(w.setCell ⟨g,i,none⟩ u).heap[g]? = some (.cells (cs.setIfInBounds i u) t (0,0)):=by
 simp [World.setCell,Array.getElem?_modify,h]
theorem oo {w:World} {g:Nat} {t:TypeId} {cs:Array Value} (h:w.heap[g]? = some (.cells cs t (0,0))) {p:Addr} (hp:g ≠ p.block) (u:Value):(w.setCell p u).heap[g]? = some (.cells cs t (0,0)):=(Below.heap_setCell w p u g hp).trans h
theorem jw {w:World} {g:Nat} {o:Obj} (h:w.heap[g]? = some o):g < w.heap.size:=(aiJ.1 h).1
theorem bJ {w:World} {g:Nat} {t:TypeId} {cs:Array Value} (h:w.heap[g]? = some (.cells cs t (0,0))) (i:Nat):w.cell? ⟨g,i,none⟩ = cs[i]?:=cell_of_row w g i cs t (0,0) h
theorem bE {w:World} {g:Nat} {t:TypeId} {cs:Array Value} (h:w.heap[g]? = some (.cells cs t (0,0))) (i:Nat):w.frozen? ⟨g,i,none⟩ = false:=by simp [World.frozen?,h]
theorem uF {w w1:World} {g:Nat} {o:Obj} {row:Option Nat} (h:w.heap[g]? = some o) (hg:w.grownBy w1 row) (hne:some g ≠ row):w1.heap[g]? = some o:=(hg.block g (jw h) hne).trans h
theorem VD {w:World} {g g':Nat} {t t':TypeId} {cs cs':Array Value} (h:w.heap[g]? = some (.cells cs t (0,0))) (h':w.heap[g']? = some (.cells cs' t' (0,0))) (hne:t ≠ t'):g ≠ g':=by
 rintro rfl
 rw [h] at h'
 injection h' with h'
 injection h' with _ ht
 exact hne ht
def gM (w w':World) (g:Nat) (row:Option Nat):Prop:=w.heap.size ≤ w'.heap.size ∧ ∀ i,i < w.heap.size → i ≠ g → some i ≠ row → w'.heap[i]? = w.heap[i]?
theorem gM.refl (w:World) (g:Nat) (row:Option Nat):gM w w g row:=⟨ahG _,fun _ _ _ _=>rfl⟩
theorem gM.of_below {w w1:World} (h:Below w.heap.size w w1) (g:Nat) (row:Option Nat):gM w w1 g row:=⟨h.size,fun i hi _ _=>h.block i hi⟩
theorem gM.trans {w w1 w2:World} {g:Nat} {row bB:Option Nat} (h:gM w w1 g row) (k:gM w1 w2 g bB) (hr:bB = row ∨ ∃ b,bB = some b ∧ w.heap.size ≤ b):gM w w2 g row :=
 ⟨ahX h.1 k.1,fun i hi hg hn=>by
  refine (k.2 i (aic hi h.1) hg ?_).trans (h.2 i hi hg hn)
  rcases hr with rfl | ⟨b,rfl,hb⟩
  ·exact hn
  ·intro e
   injection e with e
   omega⟩
theorem gM.blk {w w1:World} {g g':Nat} {row:Option Nat} {o:Obj} (h:gM w w1 g row) (hb:w.heap[g']? = some o) (hg:g' ≠ g) (hr:some g' ≠ row):w1.heap[g']? = some o:=(h.2 g' (jw hb) hg hr).trans hb
theorem gM.own {w w1:World} {g:Nat} {row:Option Nat} {base:Nat} {e:TypeId} {size n:Nat} {v:Value} {xs:List Value} (h:gM w w1 g row) (ho:w.ownsRow base e size v n xs) (hg:v.ownBlock ≠ some g) (hr:v.ownBlock = none ∨ v.ownBlock ≠ row):w1.ownsRow base e size v n xs:=by
 obtain ⟨h1,h2⟩:=ho
 refine ⟨h1,?_⟩
 rcases h2 with h2 | ⟨b,cap,cur,rfl,hb,hh,r⟩
 ·exact .inl h2
 ·refine .inr ⟨b,cap,cur,rfl,hb,h.blk hh ?_ ?_,r⟩
  ·intro e
   exact hg (by rw [← e];rfl)
  ·rcases hr with hr | hr
   ·simp [Value.ownBlock] at hr
   ·exact hr
def Ev {α:Type} (g:Nat → Option α) (r:α):Prop:=∃ K,∀ k,K ≤ k → g k = some r
theorem Ev.of {α:Type} {g:Nat → Option α} {r:α} (hg:∀ k,mQ (g k) (g (k + 1))) {k:Nat} (h:g k = some r):Ev g r:=⟨k,fun _ hk=>uE hg hk h⟩
theorem Ev.now {α:Type} (r:α):Ev (fun _=>some r) r:=⟨0,fun _ _=>rfl⟩
theorem Ev.rounds {α:Type} {g:Nat → Option α} {r:α} (h:Ev g r):∃ k,g k = some r:=by
 obtain ⟨K,h⟩:=h
 exact ⟨K,h K (ahG _)⟩
theorem Ev.bind {α β:Type} {g:Nat → Option α} {f:Nat → α → Option β} {a:α} {r:β} (h:Ev g a) (k:Ev (fun n=>f n a) r):Ev (fun n=>(g n).bind (f n)) r:=by
 obtain ⟨K,h⟩:=h
 obtain ⟨K',k⟩:=k
 refine ⟨max K K',fun n hn=>?_⟩
 have h1:=h n (by omega)
 have h2:=k n (by omega)
 simp only [h1,Option.bind_some]
 exact h2
theorem Ev.step {α:Type} {g f:Nat → Option α} {r:α} (h:∀ k,g (k + 1) = f k) (k:Ev f r):Ev g r:=by
 obtain ⟨K,k⟩:=k
 refine ⟨K + 1,fun n hn=>?_⟩
 obtain ⟨m,rfl⟩:∃ m,n = m + 1:=⟨n - 1,by omega⟩
 rw [h]
 exact k m (by omega)
theorem Ev.congr {α:Type} {g f:Nat → Option α} {r:α} (h:∀ k,g k = f k) (k:Ev f r):Ev g r:=by
 obtain ⟨K,k⟩:=k
 exact ⟨K,fun n hn=>(h n).trans (k n hn)⟩
section
variable {P : Program} {ops:Array Oper} {o:Oper} {a:Act} {Q:Exit → Act → World → Prop} {K:Act → World → Prop}
theorem sP {w0 W:World} (base:Nat) (hw:Region.wanted o (yielded ops a.tmps) = true) (s x:Operand) (t e:TypeId) (z:Value) (size bytes:Nat)
  (ho:o.op = .call { callee:=.builtin .append,args:=#[s,x],argTypes:=#[t,t] })
  (ht:P.underlying t = some (.slice e)) (hinfo:(P.info? e).map (fun i=>(i.zero,i.size,i.bytes)) = some (some z,size,bytes)) (hz:z.cells.size = size) (hs0:0 < size) (hb0:0 < bytes)
  (v:Value) (n:Nat) (xs ys:List Value) (hs:a.eval s = v) (hx:a.eval x = .slice (some ⟨W.heap.size,0,none⟩) 1 1) (hys:ys.length = size) (h1:∀ u ∈ ys,u.oneCell' = true)
  (HO:W.ownsRow base e size v n xs) (HB:Below base w0 W) (hbase:base ≤ W.heap.size) (hl:(n + 1) * bytes ≤ 140737488355328)
  (h:∀ v1 w1,w1.ownsRow base e size v1 (n + 1) (xs ++ ys) → Below base w0 w1 → W.grownBy w1 v.ownBlock → (v1.ownBlock = v.ownBlock ∨ ∃ b,v1.ownBlock = some b ∧ W.heap.size ≤ b) → K (a.put o.dst v1) w1) :
  if Region.wanted o (yielded ops a.tmps) = true then Oper.wp P o a (W.alloc (.cells ys.toArray e)) K Q else K (a.put o.dst undef) (W.alloc (.cells ys.toArray e)):=by
 obtain ⟨i0,hi,hzz⟩:=ajc.1 hinfo
 simp only [ahU] at hzz
 obtain ⟨hz0,hz1,hz2⟩:=hzz
 have hlen:n + 1 ≤ 140737488355328:=ahX (Nat.le_mul_of_pos_right _ hb0) hl
 rw [ahC hw]
 obtain ⟨v1,w1,hr,hown,hg,_,hat⟩:=run_append_own_at (P:=P) (W.alloc (.cells ys.toArray e)) base t o.type e i0 z size bytes ht hi hz0 hz1 hz2 hz hs0 v n xs (HO.alloc _) ⟨W.heap.size,0,none⟩ 1 1 ys (by rw [hys];simp)
  (by simpa using World.news_of_block (cs:=ys.toArray) (t:=e) (fr:=(0,0)) (heap_alloc_new W (.cells ys.toArray e))) h1 (by simp only [maxLen];omega) hl (by simp;omega)
 unfold Oper.wp execOp
 simp only [ho,resolve,invoke,builtin,Sem.run_bind,Sem.run_pure,Result.andThen_ok,aix,ahO,ahV,hs,hx,hr]
 refine h v1 w1 hown ((HB.alloc hbase _).grown hg (by simp;omega) (sN HO)) (World.grownBy.trans (World.grownBy_alloc W _ _) hg) ?_
 rcases hat with hat | hat
 ·exact .inl hat
 ·exact .inr ⟨_,hat,by simp⟩
end
theorem FT {w:World} {base base':Nat} {e:TypeId} {size n:Nat} {v:Value} {xs:List Value} (h:w.ownsRow base e size v n xs) (hb:base' ≤ base):w.ownsRow base' e size v n xs:=by
 obtain ⟨h1,h2⟩:=h
 refine ⟨h1,?_⟩
 rcases h2 with h2 | ⟨g,cap,cur,rfl,hg,r⟩
 ·exact .inl h2
 ·exact .inr ⟨g,cap,cur,rfl,ahX hb hg,r⟩
section
variable {α : Type} {enc:α → Value} {d:α}
def encs (enc:α → Value) (xs:List α):List Value:=xs.map enc
def FU (d:α) (xs:List α) (i:Int):α:=xs.getD i.toNat d
theorem uZ (xs:List α):(encs enc xs).length = xs.length:=by simp [encs]
theorem MJ (xs:List α) (j:Nat) (h:j < xs.length):(encs enc xs)[j]? = some (enc (xs.getD j d)):=by
 simp [encs,ahQ h,ah5]
def gH (enc:α → Value) (d:α) (w:World) (A:Option Addr) (n:Nat) (xs:List α):Prop :=
 xs.length = n ∧ n ≤ 9223372036854775807 ∧ (0 < n → ∃ ad,A = some ad ∧ ∀ j,j < n → w.cell? (ad.add j) = some (enc (xs.getD j d)))
theorem gH.at_ {w:World} {A:Option Addr} {n:Nat} {xs:List α} (h:gH enc d w A n xs) (i:Int) (h0:0 ≤ i) (h1:i < n):∃ ad,A = some ad ∧ w.cell? (ad.add i.toNat) = some (enc (FU d xs i)):=by
 obtain ⟨ad,e,hc⟩:=h.2.2 (by omega)
 exact ⟨ad,e,hc _ (by omega)⟩
theorem gH.below {w w1:World} {A:Option Addr} {n:Nat} {xs:List α} (h:gH enc d w A n xs) (hb:Below w.heap.size w w1):gH enc d w1 A n xs :=
 ⟨h.1,h.2.1,fun hn=>by
  obtain ⟨ad,e,hc⟩:=h.2.2 hn
  exact ⟨ad,e,fun j hj=>nE hb (hc j hj)⟩⟩
theorem gH.Ec {w:World} {A:Option Addr} {n:Nat} {xs:List α} (h:gH enc d w A n xs) (i:Nat) (hi:i ≤ n):gH enc d w A i (xs.take i):=by
 refine ⟨by rw [ahS,h.1];omega,by have:=h.2.1;omega,fun hp=>?_⟩
 obtain ⟨ad,e,hc⟩:=h.2.2 (by omega)
 refine ⟨ad,e,fun j hj=>?_⟩
 rw [hc j (by omega)]
 simp [ah5,hj]
theorem Jl {W:World} {base g n cap:Nat} {e:TypeId} {xs:List α} (h:W.ownsRow base e 1 (.slice (some ⟨g,0,none⟩) n cap) n (encs enc xs)) (i:Int) (h0:0 ≤ i) (h1:i < n) :
  W.cell? ⟨g,i.toNat,none⟩ = some (enc (FU d xs i)) ∧ W.frozen? ⟨g,i.toNat,none⟩ = false:=by
 have hl:xs.length = n:=by have:=h.1;simp [encs] at this;exact this
 constructor
 ·have hc:=h.cells (g:=g) rfl i.toNat _ (MJ (d:=d) xs i.toNat (by omega))
  rwa [add_plain] at hc
 ·rcases h.2 with ⟨h',_⟩ | ⟨g',cap',cur,h',_,hh,_⟩
  ·cases h'
  ·have:g = g':=by injection h' with h';injection h' with h';injection h' with h'
   subst this
   simp [World.frozen?,hh]
theorem BO {W:World} {base g n cap:Nat} {e:TypeId} {xs:List α} (h:W.ownsRow base e 1 (.slice (some ⟨g,0,none⟩) n cap) n (encs enc xs)) (i:Int) (x:α) :
  (W.setCell ⟨g,i.toNat,none⟩ (enc x)).ownsRow base e 1 (.slice (some ⟨g,0,none⟩) n cap) n (encs enc (xs.set i.toNat x)) ∧ W.grownBy (W.setCell ⟨g,i.toNat,none⟩ (enc x)) (some g):=by
 have hs:=h.stored i.toNat (enc x)
 have he:(encs enc xs).set i.toNat (enc x) = encs enc (xs.set i.toNat x):=by simp [encs,ai0]
 rwa [he] at hs
end
section
variable {α : Type} {P:Program} {ops:Array Oper} {rest:List Oper} {o:Oper} {a:Act} {Q:Exit → Act → World → Prop}
end
theorem aJ {w:World} {g:Nat} {o:Obj} (h:w.heap[g]? = some o) (o':Obj):(w.alloc o').heap[g]? = some o:=(Below.heap_alloc w o' g (jw h)).trans h
theorem aQ {w:World} {g:Nat} {o:Obj} (h:w.heap[g]? = some o):w.drew.heap[g]? = some o:=h
theorem aM {w:World} {g:Nat} {o:Obj} (h:w.heap[g]? = some o) (n:Nat):(w.drewN n).heap[g]? = some o:=h
theorem dR {w w1:World} {g:Nat} {o:Obj} (h:w.heap[g]? = some o) (hb:Below w.heap.size w w1):w1.heap[g]? = some o:=(hb.block g (jw h)).trans h
theorem sQ (w:World) (o:Obj):(w.alloc o).heap[w.heap.size]? = some o:=heap_alloc_new w o
section
variable {P : Program}
theorem jO {fn:Func} {p u:Tmp} {ty:TypeId} (h:fn.results = #[.cell p ty,.tmp u]) (tmps:Array Value) (w:World) (g:Nat) (t:TypeId) (cs:Array Value) (fr:Nat × Nat) (d:TypeDesc)
  (hp:tmps.getD p undef = .pointer (some ⟨g,0,none⟩)) (hg:w.heap[g]? = some (.cells cs t fr))
  (hu:P.underlying ty = some d) (hd:(match d with | .struct _ | .array _ _=>true | _=>false) = true) (hi:(P.info? ty).map (·.size) = some cs.size) :
  (results fn tmps).run P w = .ok (.tuple #[.agg cs,tmps.getD u undef]) w:=by
 have hp':tmps[p]?.getD undef = .pointer (some ⟨g,0,none⟩):=by simpa using hp
 simp [results,h,hp',asAddr,run_loadVar_row w g t ty cs fr d hg hu hd hi]
end
theorem VE {w:World} {base n m c size:Nat} {e:TypeId} {A:Option Addr} {xs:List Value} (h:w.ownsRow base e size (.slice A m c) n xs):m ≤ c:=by
 rcases h.2 with ⟨he,_⟩ | ⟨g,cap,cur,he,_,_,hnc,_⟩
 ·injection he with _ h2 h3
  omega
 ·injection he with _ h2 h3
  omega
def fQ {α:Type} (R:α → List Value → Prop) (e:TypeId) (size:Nat) (w:World) (base:Nat) (v:Value) (ps:List α):Prop :=
 ∃ inner,w.ownsRow base e size v ps.length inner ∧ fH R size ps inner
section
variable {α : Type} {R R':α → List Value → Prop} {e:TypeId} {size:Nat} {w w1:World} {base:Nat} {v:Value} {ps:List α}
theorem fQ.none_ (R:α → List Value → Prop) (e:TypeId) (size:Nat) (w:World) (base:Nat):fQ R e size w base (.slice none 0 0) []:=⟨[],Qr _ _ _ _,fH.none _ _⟩
theorem fQ.y9 (h:fQ R e size w base v ps) (hR:∀ p c,R p c → R' p c):fQ R' e size w base v ps:=by
 obtain ⟨inner,ho,hr⟩:=h
 exact ⟨inner,ho,hr.y9 hR⟩
theorem fQ.below (h:fQ R e size w base v ps) (hb:Below w.heap.size w w1):fQ R e size w1 base v ps:=by
 obtain ⟨inner,ho,hr⟩:=h
 exact ⟨inner,sO ho hb,hr⟩
theorem fQ.other (h:fQ R e size w base v ps) {row:Option Nat} (hg:w.grownBy w1 row) (hne:v.ownBlock = none ∨ v.ownBlock ≠ row):fQ R e size w1 base v ps:=by
 obtain ⟨inner,ho,hr⟩:=h
 exact ⟨inner,Jk ho hg hne,hr⟩
theorem fQ.keep (h:fQ R e size w base v ps) {g:Nat} {t:TypeId} {cells:Array Value} (hb:w.heap[g]? = some (.cells cells t (0,0))) (ht:e ≠ t) (hk:gM w w1 g none):fQ R e size w1 base v ps:=by
 obtain ⟨inner,ho,hr⟩:=h
 exact ⟨inner,hk.own ho (Ne.symm (own_ne ho hb ht)) (by cases v.ownBlock <;> simp),hr⟩
theorem fQ.reads (h:fQ R e size w base v ps):∃ A c,v = .slice A ps.length c ∧ ps.length ≤ c ∧ l7 R size w A ps.length ps:=by
 obtain ⟨inner,ho,hr⟩:=h
 obtain ⟨A,c,rfl,hrow⟩:=ze ho hr rfl
 exact ⟨A,c,rfl,VE ho,hrow⟩
theorem fQ.MK (h:fQ R e size w base v ps) {g:Nat} {t:TypeId} {cells:Array Value} (hb:w.heap[g]? = some (.cells cells t (0,0))) (ht:e ≠ t):some g ≠ v.ownBlock:=by
 obtain ⟨inner,ho,hr⟩:=h
 exact own_ne ho hb ht
theorem fQ.lit (W:World) (base:Nat) {inner:List Value} (hr:fH R size ps inner) (hb:base ≤ W.heap.size) (hm:ps.length ≤ 9223372036854775807) :
  fQ R e size (W.alloc (.cells inner.toArray e)) base (.slice (some ⟨W.heap.size,0,none⟩) ps.length ps.length) ps:=by
 have h:=World.ownsRow_lit (base:=base) (e:=e) (size:=size) W inner.toArray ps.length hb (by simpa [maxLen] using hm) (by simpa using hr.1)
 exact ⟨inner,by simpa using h,hr⟩
end
section
variable {P : Program} {ops:Array Oper} {rest:List Oper} {o:Oper} {a:Act} {Q:Exit → Act → World → Prop} {α:Type} {R:α → List Value → Prop}
theorem fQ.append {w0 W:World} (base:Nat) (hgd:o.guard = none) (s x:Operand) (t e:TypeId) (z:Value) (size bytes:Nat)
  (ho:o.op = .call { callee:=.builtin .append,args:=#[s,x],argTypes:=#[t,t] })
  (ht:P.underlying t = some (.slice e)) (hinfo:(P.info? e).map (fun i=>(i.zero,i.size,i.bytes)) = some (some z,size,bytes)) (hz:z.cells.size = size) (hs0:0 < size) (hb0:0 < bytes)
  (v:Value) (ps:List α) (p:α) (cs:List Value) (hs:a.eval s = v) (hx:a.eval x = .slice (some ⟨W.heap.size,0,none⟩) 1 1) (hp:R p cs) (hcs:cs.length = size) (h1:∀ u ∈ cs,u.oneCell' = true)
  (HO:fQ R e size W base v ps) (HB:Below base w0 W) (hbase:base ≤ W.heap.size) (hl:(ps.length + 1) * bytes ≤ 140737488355328)
  (h:∀ v1 w1,fQ R e size w1 base v1 (ps ++ [p]) → Below base w0 w1 → W.grownBy w1 v.ownBlock → (v1.ownBlock = v.ownBlock ∨ ∃ b,v1.ownBlock = some b ∧ W.heap.size ≤ b) → wpList P ops Q rest (a.put o.dst v1) w1) :
  wpList P ops Q (o :: rest) a (W.alloc (.cells cs.toArray e)):=by
 obtain ⟨inner,hown,hr⟩:=HO
 refine l8 base hgd s x t e z size bytes ho ht hinfo hz hs0 hb0 v ps.length inner cs hs hx hcs h1 hown HB hbase hl ?_
 intro v1 w1 hown1 hb1 hg1 FX
 exact h v1 w1 ⟨inner ++ cs,by rw [ahJ,List.length_singleton];exact hown1,hr.snoc hp hcs⟩ hb1 hg1 FX
end
section
variable {P : Program} {ops:Array Oper} {o:Oper} {a:Act} {Q:Exit → Act → World → Prop} {K:Act → World → Prop} {α:Type} {R:α → List Value → Prop}
end
section
variable {α : Type} {P:Program}
theorem gH.len_ {enc:α → Value} {d:α} {w:World} {A:Option Addr} {n:Nat} {xs:List α} (h:gH enc d w A n xs):gH enc d w A xs.length xs:=by rw [h.1];exact h
end
section
variable {P : Program} {ops:Array Oper} {rest:List Oper} {o:Oper} {a:Act} {Q:Exit → Act → World → Prop}
end
structure Kd (α:Type) where
 sz:Nat
 E:List Nat
 K:World → α → List Value → Prop
 M:World → Nat → (Nat → Prop) → α → List Value → Prop
 mY:∀ {w x cs},K w x cs → cs.length = sz
 nL:∀ {w x cs},K w x cs → ∀ u ∈ cs,u.oneCell' = true
 j4:∀ {w w1:World} {x cs},Below w.heap.size w w1 → K w x cs → K w1 x cs
 iK:∀ {w base ok x cs},M w base ok x cs → K w x cs
 jk:∀ {w base ok ok' x cs},(∀ k,ok k → ok' k) → M w base ok x cs → M w base ok' x cs
 jo:∀ {w:World} {base ok x cs},M w base ok x cs → M w base (fun k=>ok k ∧ base ≤ k ∧ k < w.heap.size ∧ ∃ q,q ∈ E ∧ ∃ cells,w.heap[k]? = some (.cells cells q (0,0))) x cs
 kJ:∀ {w w1:World} {base ok x cs},(∀ k,ok k → w1.heap[k]? = w.heap[k]?) → M w base ok x cs → M w1 base ok x cs
 j5:∀ {w base base' ok x cs},base' ≤ base → M w base ok x cs → M w base' ok x cs
theorem ML {w w1:World} {base:Nat} {e:TypeId} {size n:Nat} {v:Value} {xs:List Value} (h:w.ownsRow base e size v n xs) (hm:∀ k,v.ownBlock = some k → w1.heap[k]? = w.heap[k]?):w1.ownsRow base e size v n xs:=by
 obtain ⟨h1,h2⟩:=h
 refine ⟨h1,?_⟩
 rcases h2 with h2 | ⟨g,cap,cur,rfl,hg,hh,r⟩
 ·exact .inl h2
 ·exact .inr ⟨g,cap,cur,rfl,hg,(hm g (by simp [Value.ownBlock])).trans hh,r⟩
theorem Ac {w:World} {base:Nat} {e:TypeId} {size n:Nat} {v:Value} {xs:List Value} (h:w.ownsRow base e size v n xs) (k:Nat) (hk:v.ownBlock = some k):∃ cells,w.heap[k]? = some (.cells cells e (0,0)):=by
 rcases h.2 with ⟨rfl,_⟩ | ⟨g,cap,cur,rfl,hg,hh,r⟩
 ·simp [Value.ownBlock] at hk
 ·have:g = k:=by simpa [Value.ownBlock] using hk
  subst this
  exact ⟨cur,hh⟩
namespace Kd
def C {α:Type} (d:Kd α) (w:World) (A:Option Addr) (n:Nat) (xs:List α):Prop:=l7 (d.K w) d.sz w A n xs
def R {α:Type} (d:Kd α) (e:Nat) (w:World) (base:Nat) (ok:Nat → Prop) (v:Value) (xs:List α):Prop :=
 (∀ k,v.ownBlock = some k → ok k) ∧ fQ (d.M w base (fun k=>ok k ∧ some k ≠ v.ownBlock)) e d.sz w base v xs
section
variable {α : Type} {d:Kd α} {e:Nat} {w w1:World} {base:Nat} {ok ok':Nat → Prop} {v:Value} {xs:List α}
theorem Qt {A:Option Addr} {n:Nat} (h:d.C w A n xs) (hb:Below w.heap.size w w1):d.C w1 A n xs:=l7.y9 h hb (fun _ _ hp=>d.j4 hb hp)
theorem jR (d:Kd α) (e:Nat) (w:World) (base:Nat) (ok:Nat → Prop):d.R e w base ok (.slice none 0 0) []:=⟨fun k hk=>by simp [Value.ownBlock] at hk,fQ.none_ _ _ _ _ _⟩
theorem pI (h:d.R e w base ok v xs) (hok:∀ k,ok k → ok' k):d.R e w base ok' v xs:=⟨fun k hk=>hok k (h.1 k hk),h.2.y9 (fun _ _ hp=>d.jk (fun k hk=>⟨hok k hk.1,hk.2⟩) hp)⟩
theorem BP (h:d.R e w base ok v xs):d.R e w base (fun k=>ok k ∧ base ≤ k ∧ k < w.heap.size ∧ ∃ q,q ∈ e :: d.E ∧ ∃ cells,w.heap[k]? = some (.cells cells q (0,0))) v xs:=by
 obtain ⟨h0,inner,ho,hr⟩:=h
 refine ⟨fun k hk=>?_,inner,ho,hr.y9 (fun _ _ hp=>d.jk (fun k hk=>?_) (d.jo hp))⟩
 ·obtain ⟨cells,hc⟩:=Ac ho k hk
  exact ⟨h0 k hk,sN ho k hk,MI ho k hk,e,aiX,cells,hc⟩
 ·obtain ⟨⟨h1,h2⟩,h3,h4,q,hq,hc⟩:=hk
  exact ⟨⟨h1,h3,h4,q,ais _ hq,hc⟩,h2⟩
theorem MN (h:d.R e w base ok v xs) (hm:∀ k,ok k → w1.heap[k]? = w.heap[k]?):d.R e w1 base ok v xs:=by
 obtain ⟨h0,inner,ho,hr⟩:=h
 exact ⟨h0,inner,ML ho (fun k hk=>hm k (h0 k hk)),hr.y9 (fun _ _ hp=>d.kJ (fun k hk=>hm k hk.1) hp)⟩
theorem sS {base':Nat} (h:d.R e w base ok v xs) (hb:base' ≤ base):d.R e w base' ok v xs:=by
 obtain ⟨h0,inner,ho,hr⟩:=h
 exact ⟨h0,inner,FT ho hb,hr.y9 (fun _ _ hp=>d.j5 hb hp)⟩
theorem MO (h:d.R e w base ok v xs) (hm:∀ k,ok k → k < w.heap.size → w1.heap[k]? = w.heap[k]?):d.R e w1 base ok v xs :=
 pI (MN (BP h) (fun k hk=>hm k hk.1 hk.2.2.1)) (fun _ hk=>hk.1)
theorem VF {x:α} {cs:List Value} (h:d.M w base ok x cs) (hm:∀ k,ok k → k < w.heap.size → w1.heap[k]? = w.heap[k]?):d.M w1 base ok x cs :=
 d.jk (fun _ hk=>hk.1) (d.kJ (fun k hk=>hm k hk.1 hk.2.2.1) (d.jo h))
theorem lG (h:d.R e w base ok v xs) (hb:Below w.heap.size w w1):d.R e w1 base ok v xs:=MO h (fun k _ hk=>hb.block k hk)
theorem sU (h:d.R e w base ok v xs) {p:Addr} (hok:∀ k,ok k → k ≠ p.block) (u:Value):d.R e (w.setCell p u) base ok v xs:=MO h (fun k ho _=>Below.heap_setCell w p u k (hok k ho))
theorem sV (h:d.R e w base ok v xs) {g t:Nat} {cells:Array Value} (hb:w.heap[g]? = some (.cells cells t (0,0))) (ht:∀ q,q ∈ e :: d.E → q ≠ t):d.R e w base (fun k=>ok k ∧ k ≠ g) v xs :=
 pI (BP h) (fun k hk=>⟨hk.1,by
  obtain ⟨_,_,_,q,hq,cells',hc⟩:=hk
  rintro rfl
  rw [hc] at hb
  injection hb with hb
  injection hb with _ hb
  exact ht q hq hb⟩)
theorem MP (h:d.R e w base ok v xs) {g t:Nat} {cells:Array Value} (hb:w.heap[g]? = some (.cells cells t (0,0))) (ht:∀ q,q ∈ e :: d.E → q ≠ t) (j:Nat) (u:Value):d.R e (w.setCell ⟨g,j,none⟩ u) base ok v xs :=
 pI (sU (p:=⟨g,j,none⟩) (sV h hb ht) (fun _ hk=>hk.2) u) (fun _ hk=>hk.1)
theorem BQ (h:d.R e w base ok v xs):∃ A c,v = .slice A xs.length c ∧ xs.length ≤ c ∧ d.C w A xs.length xs:=by
 obtain ⟨A,c,he,hl,hr⟩:=fQ.reads h.2
 exact ⟨A,c,he,hl,hr.y9 (Below.refl _ _) (fun _ _ hp=>d.iK hp)⟩
theorem BR (h:d.R e w base ok v xs):∃ A c,v = .slice A xs.length c:=by
 obtain ⟨A,c,he,_⟩:=BQ h
 exact ⟨A,c,he⟩
theorem MQ (h:d.R e w base ok v xs):∃ inner,w.ownsRow base e d.sz v xs.length inner:=by
 obtain ⟨_,inner,ho,_⟩:=h
 exact ⟨inner,ho⟩
theorem VG (h:d.R e w base ok v xs) {g t:Nat} {cells:Array Value} (hb:w.heap[g]? = some (.cells cells t (0,0))) (ht:e ≠ t):some g ≠ v.ownBlock:=fQ.MK h.2 hb ht
end
def scalar {α:Type} (enc:α → Value) (h1:∀ x,(enc x).oneCell' = true):Kd α where
 sz:=1
 E:=[]
 K:=fun _ x cs=>cs = [enc x]
 M:=fun _ _ _ x cs=>cs = [enc x]
 mY:=fun h=>by rw [h];rfl
 nL:=fun h u hu=>by
  rw [h] at hu
  rw [ait.1 hu]
  exact h1 _
 j4:=fun _ h=>h
 iK:=fun h=>h
 jk:=fun _ h=>h
 jo:=fun h=>h
 kJ:=fun _ h=>h
 j5:=fun _ h=>h
def int (k:IntKind):Kd Int:=scalar (Value.int k) (fun _=>rfl)
def bool : Kd Bool:=scalar Value.bool (fun _=>rfl)
def string : Kd ByteArray:=scalar Value.string (fun _=>rfl)
def slice {α:Type} (e:Nat) (d:Kd α):Kd (List α) where
 sz:=1
 E:=e :: d.E
 K:=fun w xs cs=>∃ A c,cs = [.slice A xs.length c] ∧ xs.length ≤ c ∧ d.C w A xs.length xs
 M:=fun w base ok xs cs=>∃ v,cs = [v] ∧ d.R e w base ok v xs
 mY:=by
  rintro w x cs ⟨A,c,rfl,_⟩
  rfl
 nL:=by
  rintro w x cs ⟨A,c,rfl,_⟩ u hu
  rw [ait.1 hu]
  rfl
 j4:=by
  rintro w w1 x cs hb ⟨A,c,rfl,hl,hr⟩
  exact ⟨A,c,rfl,hl,Qt hr hb⟩
 iK:=by
  rintro w base ok x cs ⟨v,rfl,h⟩
  obtain ⟨A,c,rfl,hl,hr⟩:=BQ h
  exact ⟨A,c,rfl,hl,hr⟩
 jk:=by
  rintro w base ok ok' x cs hok ⟨v,rfl,h⟩
  exact ⟨v,rfl,pI h hok⟩
 jo:=by
  rintro w base ok x cs ⟨v,rfl,h⟩
  exact ⟨v,rfl,BP h⟩
 kJ:=by
  rintro w w1 base ok x cs hm ⟨v,rfl,h⟩
  exact ⟨v,rfl,MN h hm⟩
 j5:=by
  rintro w base base' ok x cs hb ⟨v,rfl,h⟩
  exact ⟨v,rfl,sS h hb⟩
def bot {α:Type} (sz:Nat) (E:List Nat):Kd α where
 sz:=sz
 E:=E
 K:=fun _ _ _=>False
 M:=fun _ _ _ _ _=>False
 mY:=fun h=>h.elim
 nL:=fun h=>h.elim
 j4:=fun _ h=>h
 iK:=fun h=>h
 jk:=fun _ h=>h
 jo:=fun h=>h
 kJ:=fun _ h=>h
 j5:=fun _ h=>h
def upto {α:Type} (F:Kd α → Kd α) (sz:Nat) (E:List Nat):Nat → Kd α
 | 0=>bot sz E
 | n + 1=>F (upto F sz E n)
def fix {α:Type} (F:Kd α → Kd α) (sz:Nat) (E:List Nat) (hs:∀ n,(upto F sz E n).sz = sz) (hE:∀ n q,q ∈ (upto F sz E n).E → q ∈ E):Kd α where
 sz:=sz
 E:=E
 K:=fun w x cs=>∃ n,(upto F sz E n).K w x cs
 M:=fun w base ok x cs=>∃ n,(upto F sz E n).M w base ok x cs
 mY:=by
  rintro w x cs ⟨n,h⟩
  rw [(upto F sz E n).mY h,hs n]
 nL:=by
  rintro w x cs ⟨n,h⟩
  exact (upto F sz E n).nL h
 j4:=by
  rintro w w1 x cs hb ⟨n,h⟩
  exact ⟨n,(upto F sz E n).j4 hb h⟩
 iK:=by
  rintro w base ok x cs ⟨n,h⟩
  exact ⟨n,(upto F sz E n).iK h⟩
 jk:=by
  rintro w base ok ok' x cs hok ⟨n,h⟩
  exact ⟨n,(upto F sz E n).jk hok h⟩
 jo:=by
  rintro w base ok x cs ⟨n,h⟩
  refine ⟨n,(upto F sz E n).jk ?_ ((upto F sz E n).jo h)⟩
  rintro k ⟨h2,h3,h4,q,hq,hc⟩
  exact ⟨h2,h3,h4,q,hE n q hq,hc⟩
 kJ:=by
  rintro w w1 base ok x cs hm ⟨n,h⟩
  exact ⟨n,(upto F sz E n).kJ hm h⟩
 j5:=by
  rintro w base base' ok x cs hb ⟨n,h⟩
  exact ⟨n,(upto F sz E n).j5 hb h⟩
theorem xJ {α:Type} {d:Kd α} {e base:Nat} {ok Jm:Nat → Prop} {W w1:World} {v v1:Value} {xs:List α} {p:α} {inner cs:List Value} (h0:∀ k,v.ownBlock = some k → ok k) (hr:fH (d.M W base (fun k=>ok k ∧ some k ≠ v.ownBlock)) d.sz xs inner) (hp:d.M W base Jm p cs) (MR:∀ k,Jm k → ok k ∧ some k ≠ v.ownBlock) (hfresh:∀ k,W.heap.size ≤ k → ok k)
  (hown:w1.ownsRow base e d.sz v1 (xs.length + 1) (inner ++ cs)) (hg:W.grownBy w1 v.ownBlock) (hat:v1.ownBlock = v.ownBlock ∨ ∃ b,v1.ownBlock = some b ∧ W.heap.size ≤ b):d.R e w1 base ok v1 (xs ++ [p]):=by
 have hne:∀ k,some k ≠ v.ownBlock → k < W.heap.size → some k ≠ v1.ownBlock:=by
  intro k hk hlt
  rcases hat with hat | ⟨b,hb,hle⟩
  ·rw [hat];exact hk
  ·rw [hb]
   intro he
   injection he with he
   omega
 have step:∀ {q:α} {c:List Value} {o:Nat → Prop},d.M W base o q c → (∀ k,o k → ok k ∧ some k ≠ v.ownBlock) → d.M w1 base (fun k=>ok k ∧ some k ≠ v1.ownBlock) q c:=by
  intro q c o hq ho
  have h1:=d.kJ (w1:=w1) (fun k hk=>hg.block k hk.2.2.1 (ho k hk.1).2) (d.jo hq)
  exact d.jk (fun k hk=>⟨(ho k hk.1).1,hne k (ho k hk.1).2 hk.2.2.1⟩) h1
 refine ⟨fun k hk=>?_,inner ++ cs,by rw [ahJ,List.length_singleton];exact hown,?_⟩
 ·rcases hat with hat | ⟨b,hb,hle⟩
  ·exact h0 k (hat ▸ hk)
  ·rw [hb] at hk
   injection hk with hk
   exact hfresh k (by omega)
 ·exact (hr.y9 (fun _ _ hq=>step hq (fun _ hk=>hk))).snoc (step hp MR) (d.mY (d.iK hp))
section
variable {P : Program} {ops:Array Oper} {rest:List Oper} {o:Oper} {a:Act} {Q:Exit → Act → World → Prop} {α:Type}
theorem Ed (d:Kd α) {w0 W:World} (base:Nat) (hgd:o.guard = none) (s x:Operand) (t e:TypeId) (z:Value) (bytes:Nat)
  (ho:o.op = .call { callee:=.builtin .append,args:=#[s,x],argTypes:=#[t,t] })
  (ht:P.underlying t = some (.slice e)) (hinfo:(P.info? e).map (fun i=>(i.zero,i.size,i.bytes)) = some (some z,d.sz,bytes)) (hz:z.cells.size = d.sz) (hs0:0 < d.sz) (hb0:0 < bytes)
  (v:Value) (xs:List α) (p:α) (cs:List Value) (ok Jm:Nat → Prop) (hs:a.eval s = v) (hx:a.eval x = .slice (some ⟨W.heap.size,0,none⟩) 1 1) (hp:d.M W base Jm p cs) (MR:∀ k,Jm k → ok k ∧ some k ≠ v.ownBlock) (hfresh:∀ k,W.heap.size ≤ k → ok k)
  (HO:d.R e W base ok v xs) (HB:Below base w0 W) (hbase:base ≤ W.heap.size) (hl:(xs.length + 1) * bytes ≤ 140737488355328)
  (h:∀ v1 w1,d.R e w1 base ok v1 (xs ++ [p]) → Below base w0 w1 → W.grownBy w1 v.ownBlock → (v1.ownBlock = v.ownBlock ∨ ∃ b,v1.ownBlock = some b ∧ W.heap.size ≤ b) → wpList P ops Q rest (a.put o.dst v1) w1) :
  wpList P ops Q (o :: rest) a (W.alloc (.cells cs.toArray e)):=by
 obtain ⟨h0,inner,hown,hr⟩:=HO
 refine l8 base hgd s x t e z d.sz bytes ho ht hinfo hz hs0 hb0 v xs.length inner cs hs hx (d.mY (d.iK hp)) (d.nL (d.iK hp)) hown HB hbase hl ?_
 intro v1 w1 hown1 hb1 hg1 FX
 exact h v1 w1 (xJ h0 hr hp MR hfresh hown1 hg1 FX) hb1 hg1 FX
end
section
variable {P : Program} {ops:Array Oper} {o:Oper} {a:Act} {Q:Exit → Act → World → Prop} {Kc:Act → World → Prop} {α:Type}
theorem zf (d:Kd α) {w0 W:World} (base:Nat) (hw:Region.wanted o (yielded ops a.tmps) = true) (s x:Operand) (t e:TypeId) (z:Value) (bytes:Nat)
  (ho:o.op = .call { callee:=.builtin .append,args:=#[s,x],argTypes:=#[t,t] })
  (ht:P.underlying t = some (.slice e)) (hinfo:(P.info? e).map (fun i=>(i.zero,i.size,i.bytes)) = some (some z,d.sz,bytes)) (hz:z.cells.size = d.sz) (hs0:0 < d.sz) (hb0:0 < bytes)
  (v:Value) (xs:List α) (p:α) (cs:List Value) (ok Jm:Nat → Prop) (hs:a.eval s = v) (hx:a.eval x = .slice (some ⟨W.heap.size,0,none⟩) 1 1) (hp:d.M W base Jm p cs) (MR:∀ k,Jm k → ok k ∧ some k ≠ v.ownBlock) (hfresh:∀ k,W.heap.size ≤ k → ok k)
  (HO:d.R e W base ok v xs) (HB:Below base w0 W) (hbase:base ≤ W.heap.size) (hl:(xs.length + 1) * bytes ≤ 140737488355328)
  (h:∀ v1 w1,d.R e w1 base ok v1 (xs ++ [p]) → Below base w0 w1 → W.grownBy w1 v.ownBlock → (v1.ownBlock = v.ownBlock ∨ ∃ b,v1.ownBlock = some b ∧ W.heap.size ≤ b) → Kc (a.put o.dst v1) w1) :
  if Region.wanted o (yielded ops a.tmps) = true then Oper.wp P o a (W.alloc (.cells cs.toArray e)) Kc Q else Kc (a.put o.dst undef) (W.alloc (.cells cs.toArray e)):=by
 obtain ⟨h0,inner,hown,hr⟩:=HO
 refine sP base hw s x t e z d.sz bytes ho ht hinfo hz hs0 hb0 v xs.length inner cs hs hx (d.mY (d.iK hp)) (d.nL (d.iK hp)) hown HB hbase hl ?_
 intro v1 w1 hown1 hb1 hg1 FX
 exact h v1 w1 (xJ h0 hr hp MR hfresh hown1 hg1 FX) hb1 hg1 FX
end
theorem Ee {α:Type} {enc:α → Value} (xs:List α):fH (fun (x:α) (cs:List Value)=>cs = [enc x]) 1 xs (encs enc xs):=by
 refine ⟨by simp [encs],fun j p hj=>?_⟩
 obtain ⟨hl,hp⟩:=aiu.1 hj
 have hl':j < (encs enc xs).length:=by rw [uZ];exact hl
 rw [Nat.mul_one,ajf hl']
 simp [encs,hp]
theorem MS {α:Type} {enc:α → Value} {h1:∀ x,(enc x).oneCell' = true} {e:Nat} {w:World} {base:Nat} {ok:Nat → Prop} {v:Value} {xs:List α} (ho:w.ownsRow base e 1 v xs.length (encs enc xs)) (hok:∀ k,v.ownBlock = some k → ok k):(scalar enc h1).R e w base ok v xs:=⟨hok,encs enc xs,ho,Ee xs⟩
theorem sW {α:Type} {enc:α → Value} {h1:∀ x,(enc x).oneCell' = true} {e:Nat} {w:World} {base:Nat} {ok:Nat → Prop} {v:Value} {xs:List α} (h:(scalar enc h1).R e w base ok v xs):w.ownsRow base e 1 v xs.length (encs enc xs):=by
 obtain ⟨_,inner,ho,hr⟩:=h
 have:inner = encs enc xs:=by
  apply aiQ
  intro j
  rcases aiT j xs.length with hj | hj
  ·have h2:=hr.2 j _ (ahQ hj)
   have hl:j < inner.length:=by have:=hr.1;simp [scalar] at this;omega
   have h3:(inner.drop (j * 1)).take 1 = [enc xs[j]]:=h2
   rw [Nat.mul_one,ajf hl] at h3
   have h4:inner[j] = enc xs[j]:=by
    have h5:=ah1 List.head? h3
    rw [List.take_succ_cons] at h5
    exact aia h5
   rw [ahQ hl,h4]
   simp [encs,ahQ hj]
  ·have h3:inner.length = xs.length:=by have:=hr.1;simp [scalar] at this;omega
   rw [ai2 (by omega),ai2 (by rw [uZ];omega)]
 rw [← this]
 exact ho
end Kd
namespace Kd
section
variable {α : Type} {F:Kd α → Kd α} {sz:Nat} {E:List Nat} {hs:∀ n,(upto F sz E n).sz = sz} {hE:∀ n q,q ∈ (upto F sz E n).E → q ∈ E}
end
end Kd
namespace Kd
end Kd
namespace Kd
section
variable {α β:Type} {d:Kd α} {d':Kd β} {e e':Nat} {w w1 W:World} {base b b':Nat} {ok ok' okv oku:Nat → Prop} {v u:Value} {xs:List α} {ys:List β}
theorem fV (h:d.R e w base ok v xs) (o:Obj):d.R e (w.alloc o) base ok v xs:=lG h (ak (Below.refl _ _) o)
theorem gU (h:d.R e w base ok v xs):d.R e w.drew base ok v xs:=lG h (ji (Below.refl _ _))
theorem gN (h:d.R e w base ok v xs) (m:Nat):d.R e (w.drewN m) base ok v xs:=lG h (aj (Below.refl _ _) m)
theorem aan (d:Kd α) (w:World):d.C w none ([]:List α).length []:=⟨rfl,by simp,fun h=>absurd h (Nat.lt_irrefl 0)⟩
theorem aao {A:Option Addr} {n:Nat} (h:d.C w A n xs):n ≤ 9223372036854775807:=h.2.1
theorem xK {A:Option Addr} {n c:Nat} (h:d.R e w base ok (.slice A n c) xs):n = xs.length ∧ n ≤ c ∧ d.C w A xs.length xs:=by
 obtain ⟨A',c',he,hl,hr⟩:=BQ h
 injection he with h1 h2 h3
 subst h1
 exact ⟨h2,by omega,hr⟩
theorem aeU (h:d.R e w base ok v xs):∀ k,v.ownBlock = some k → k < w.heap.size:=by
 obtain ⟨inner,ho⟩:=MQ h
 exact MI ho
theorem VH (h:d.R e w base ok v xs):∀ k,v.ownBlock = some k → base ≤ k:=by
 obtain ⟨inner,ho⟩:=MQ h
 exact sN ho
theorem VI (h:d.R e w base ok v xs) (hp:0 < xs.length):∃ g cap,v = .slice (some ⟨g,0,none⟩) xs.length cap ∧ base ≤ g ∧ g < w.heap.size ∧ ∃ cells,w.heap[g]? = some (.cells cells e (0,0)):=by
 obtain ⟨inner,ho⟩:=MQ h
 obtain ⟨g,cap,he,hb,hl⟩:=ho.form hp
 obtain ⟨cells,hc⟩:=Ac ho g (by rw [he];simp [Value.ownBlock])
 exact ⟨g,cap,he,hb,hl,cells,hc⟩
theorem D9 (hu:d'.R e' W b oku u ys):∀ k,W.heap.size ≤ k → some k ≠ u.ownBlock:=fun k hk he=>by have:=aeU hu k he.symm;omega
end
section
variable {w W:World} {A:Option Addr} {n:Nat}
variable {α : Type} {enc:α → Value} {h1:∀ x,(enc x).oneCell' = true} {e base g cap:Nat} {ok:Nat → Prop} {xs:List α}
theorem MU (d:α) (h:(scalar enc h1).R e W base ok (.slice (some ⟨g,0,none⟩) xs.length cap) xs) (i:Int) (h0:0 ≤ i) (hi:i < xs.length):W.cell? ⟨g,i.toNat,none⟩ = some (enc (FU d xs i)) ∧ W.frozen? ⟨g,i.toNat,none⟩ = false:=Jl (sW h) i h0 hi
theorem aap (h:(scalar enc h1).R e W base ok (.slice (some ⟨g,0,none⟩) xs.length cap) xs) (i:Int) (x:α):(scalar enc h1).R e (W.setCell ⟨g,i.toNat,none⟩ (enc x)) base ok (.slice (some ⟨g,0,none⟩) xs.length cap) (xs.set i.toNat x) ∧ W.grownBy (W.setCell ⟨g,i.toNat,none⟩ (enc x)) (some g):=by
 obtain ⟨ho,hg⟩:=BO (sW h) i x
 exact ⟨MS (by rw [ajg];exact ho) h.1,hg⟩
end
section
variable {P : Program} {ops:Array Oper} {rest:List Oper} {o:Oper} {a:Act} {Q:Exit → Act → World → Prop}
theorem Jo {W w1:World} {v:Value} (hgd:o.guard = none) (hrun:(execOp a.eval o).run P W = .ok (.value v) w1) (h:wpList P ops Q rest (a.put o.dst v) w1):wpList P ops Q (o :: rest) a W:=by
 refine wpList_plain hgd fun K hK=>?_
 unfold Oper.wp
 rw [hrun]
 exact hK _ _ h
variable {α : Type}
end
end Kd
section
variable {P : Program}
end
def aaq (w:World) (base:Nat) (e:TypeId) (size:Nat) (v:Value) (n:Nat) (xs:List Value):Prop :=
 xs.length = n * size ∧
 ((n = 0 ∧ ∃ A,v = .slice A 0 0 ∧ ∀ a,A = some a → base ≤ a.block ∧ ∃ cur,w.heap[a.block]? = some (.cells cur e (0,0))) ∨
 ∃ g off cap cur,v = .slice (some ⟨g,off * size,none⟩) n cap ∧ base ≤ g ∧ w.heap[g]? = some (.cells cur e (0,0)) ∧ n ≤ cap ∧ off + cap ≤ maxLen ∧ cur.size = (off + cap) * size ∧ (cur.toList.drop (off * size)).take (n * size) = xs)
section
variable {w w1:World} {base n size:Nat} {e:TypeId} {v:Value} {xs:List Value}
theorem MV (h:w.ownsRow base e size v n xs):aaq w base e size v n xs:=by
 obtain ⟨h1,h2⟩:=h
 refine ⟨h1,?_⟩
 rcases h2 with ⟨rfl,h0⟩ | ⟨g,cap,cur,rfl,hb,hh,hnc,hcm,hcs,ht⟩
 ·exact .inl ⟨h0,none,rfl,fun a ha=>by cases ha⟩
 ·exact .inr ⟨g,0,cap,cur,by rw [aiL],hb,hh,hnc,by rw [ah8];exact hcm,by rw [ah8];exact hcs,by rw [aiL,aiM];exact ht⟩
end
section
variable {P : Program}
end
namespace Kd
def Q {α:Type} (d:Kd α) (e:Nat) (w:World) (base:Nat) (ok:Nat → Prop) (v:Value) (xs:List α):Prop :=
 (∀ k,v.ownBlock = some k → ok k) ∧ ∃ inner,aaq w base e d.sz v xs.length inner ∧ fH (d.M w base (fun k=>ok k ∧ some k ≠ v.ownBlock)) d.sz xs inner
section
variable {α : Type} {d:Kd α} {e:Nat} {w w1 W:World} {base:Nat} {ok ok':Nat → Prop} {v:Value} {xs:List α}
theorem VJ (h:d.R e w base ok v xs):d.Q e w base ok v xs:=by
 obtain ⟨h0,inner,ho,hr⟩:=h
 exact ⟨h0,inner,MV ho,hr⟩
theorem l9 (d:Kd α) (e:Nat) (w:World) (base:Nat) (ok:Nat → Prop):d.Q e w base ok (.slice none 0 0) []:=VJ (jR d e w base ok)
end
section
variable {P : Program} {ops:Array Oper} {rest:List Oper} {o:Oper} {a:Act} {Q':Exit → Act → World → Prop} {Kc:Act → World → Prop} {α:Type}
end
end Kd
namespace Kd
section
variable {α : Type} {d:Kd α} {e e':Nat} {w w1 W:World} {base:Nat} {ok:Nat → Prop} {u v:Value} {xs:List α}
end
end Kd
namespace Kd
section
variable {α : Type} {d:Kd α} {e base g n cap:Nat} {ok Jm:Nat → Prop} {W:World} {xs:List α}
end
end Kd
namespace Kd
section
variable {α : Type} {F:Kd α → Kd α} {sz:Nat} {E:List Nat} {hs:∀ n,(upto F sz E n).sz = sz} {hE:∀ n q,q ∈ (upto F sz E n).E → q ∈ E}
end
end Kd
namespace Kd
section
variable {P : Program} {ops:Array Oper} {rest:List Oper} {o:Oper} {a:Act} {Q:Exit → Act → World → Prop} {α:Type}
end
end Kd
namespace Kd
section
variable {P : Program} {ops:Array Oper} {rest:List Oper} {o:Oper} {a:Act} {Q:Exit → Act → World → Prop} {α:Type}
end
end Kd
namespace Kd
section
variable {α : Type} {k:Kd α} {w:World} {A:Option Addr} {xs:List α} {m c:Nat}
end
end Kd
section
variable {P : Program}
end
theorem dJ {w W:World} (h:Below w.heap.size w W):w.heap.size ≤ W.heap.size:=h.size
theorem dA {w W w2:World} (h:Below w.heap.size w W) (k:Below W.heap.size W w2):Below w.heap.size w w2:=FR h h.size k
theorem gD.nil (W:World) (k:IntKind):gD W k none ([]:List Int).length []:=⟨rfl,by simp,fun h=>absurd h (Nat.lt_irrefl 0)⟩
theorem gD.drewN {W:World} {k:IntKind} {A:Option Addr} {n:Nat} {xs:List Int} (h:gD W k A n xs) (m:Nat):gD (W.drewN m) k A n xs:=h
theorem aT {w W:World} {g j:Nat} {v:Value} (h:Below w.heap.size w W) (hg:w.heap.size ≤ g):Below w.heap.size w (W.setCell ⟨g,j,none⟩ v):=h.setCell hg _
theorem Ad {w W:World} {g:Nat} (h:gM w W g none) {a:Addr} {v:Value} (hc:w.cell? a = some v) (hne:a.block ≠ g):W.cell? a = some v:=by
 have:=h.2 a.block (World.block_lt_of_cell? w a hc) hne (by simp)
 simpa [World.cell?,this] using hc
theorem add_block (a:Addr) (i:Nat):(a.add i).block = a.block:=by unfold Addr.add;split <;> rfl
theorem gH.nil {α:Type} (enc:α → Value) (d:α) (W:World):gH enc d W none ([]:List α).length []:=⟨rfl,by simp,fun h=>absurd h (Nat.lt_irrefl 0)⟩
theorem gH.drewN {α:Type} {enc:α → Value} {d:α} {W:World} {A:Option Addr} {n:Nat} {xs:List α} (h:gH enc d W A n xs) (m:Nat):gH enc d (W.drewN m) A n xs:=h
theorem gD.keep {w W:World} {k:IntKind} {A:Option Addr} {n g:Nat} {xs:List Int} (h:gD w k A n xs) (hk:gM w W g none) (hf:∀ ad,A = some ad → 0 < n → ad.block ≠ g):gD W k A n xs :=
 ⟨h.1,h.2.1,fun hn=>by
  obtain ⟨ad,e,hc⟩:=h.2.2 hn
  exact ⟨ad,e,fun j hj=>Ad hk (hc j hj) (by rw [add_block];exact hf ad e hn)⟩⟩
theorem gH.keep {α:Type} {enc:α → Value} {d:α} {w W:World} {A:Option Addr} {n g:Nat} {xs:List α} (h:gH enc d w A n xs) (hk:gM w W g none) (hf:∀ ad,A = some ad → 0 < n → ad.block ≠ g):gH enc d W A n xs :=
 ⟨h.1,h.2.1,fun hn=>by
  obtain ⟨ad,e,hc⟩:=h.2.2 hn
  exact ⟨ad,e,fun j hj=>Ad hk (hc j hj) (by rw [add_block];exact hf ad e hn)⟩⟩
theorem cell_far {W:World} {p a:Addr} (h:a.block ≠ p.block) (u:Value):(W.setCell p u).cell? a = W.cell? a:=by
 have:=Below.heap_setCell W p u a.block h
 simp [World.cell?,this]
theorem gP {w:World} {g:Nat} {t:TypeId} {cs cs':Array Value} (h:w.heap[g]? = some (.cells cs t (0,0))) (i:Nat) (u:Value) (e:cs.setIfInBounds i u = cs'):(w.setCell ⟨g,i,none⟩ u).heap[g]? = some (.cells cs' t (0,0)):=e ▸ Qs h i u
theorem r9 {W:World} {base n c:Nat} {e:TypeId} {size g:Nat} {ad:Addr} {xs:List Value} (_:W.ownsRow base e size (.slice (some ad) n c) n xs) (hne:some g ≠ (Value.slice (some ad) n c).ownBlock):ad.block ≠ g:=by
 rintro rfl
 exact hne (by simp [Value.ownBlock])
theorem av {base:Nat} {w W:World} (h:Below base w W):Below base w W.drew:=h.drew
namespace Kd
section
variable {α β:Type} {d:Kd α} {d':Kd β} {e e' base base' n:Nat} {ok ok':Nat → Prop} {w W w1 W1:World} {v u:Value} {xs:List α} {ys:List β} {A:Option Addr} {c:Nat}
theorem r9 {ad:Addr} {g:Nat} (hne:some g ≠ (Value.slice (some ad) n c).ownBlock):ad.block ≠ g:=by
 rintro rfl
 exact hne (by simp [Value.ownBlock])
end
section
variable {α : Type} {enc:α → Value} {h1:∀ x,(enc x).oneCell' = true} {w W:World} {A:Option Addr} {n g:Nat} {xs:List α}
end
end Kd
namespace Kd
section
variable {α : Type} {d:Kd α} {e base g:Nat} {ok:Nat → Prop} {w w1:World} {v:Value} {xs:List α} {o:Obj}
end
end Kd
section
variable {P : Program} {ops:Array Oper} {rest:List Oper} {o:Oper} {a:Act} {Q:Exit → Act → World → Prop}
theorem kK {W:World} (hgd:o.guard = none) {N:Tmp} (_hd:o.dst = some N) {cs:Array Value} {t:TypeId}
  (hrun:(execOp a.eval o).run P W = .ok (.value (.pointer (some ⟨W.heap.size,0,none⟩))) (W.alloc (.cells cs t (0,0))))
  (h:∀ g,g = W.heap.size → ∀ w1,w1.heap[g]? = some (.cells cs t (0,0)) → Below W.heap.size W w1 → wpList P ops Q rest (a.put o.dst (.pointer (some ⟨g,0,none⟩))) w1):wpList P ops Q (o :: rest) a W :=
 Kd.Jo hgd hrun (h _ rfl _ (sQ W _) (ak (Below.refl _ _) _))
end
namespace Kd
section
variable {α : Type} {enc:α → Value} {h1:∀ x,(enc x).oneCell' = true} {e base g n cap:Nat} {ok:Nat → Prop} {W:World} {xs:List α}
theorem BS (d:α) (h:(scalar enc h1).R e W base ok (.slice (some ⟨g,0,none⟩) n cap) xs) (i:Int) (h0:0 ≤ i) (hi:i < n):W.cell? ⟨g,i.toNat,none⟩ = some (enc (FU d xs i)) ∧ W.frozen? ⟨g,i.toNat,none⟩ = false:=by
 obtain ⟨rfl,_⟩:=xK h
 exact MU d h i h0 hi
end
end Kd
section
variable {P : Program} {ops:Array Oper} {rest:List Oper} {o:Oper} {a:Act} {Q:Exit → Act → World → Prop}
end
namespace Kd
section
variable {α : Type} {enc:α → Value} {h1:∀ x,(enc x).oneCell' = true} {e base g n cap:Nat} {ok:Nat → Prop} {W:World} {xs:List α}
theorem VK (h:(scalar enc h1).R e W base ok (.slice (some ⟨g,0,none⟩) n cap) xs) (i:Int) (x:α):(scalar enc h1).R e (W.setCell ⟨g,i.toNat,none⟩ (enc x)) base ok (.slice (some ⟨g,0,none⟩) n cap) (xs.set i.toNat x) ∧ W.grownBy (W.setCell ⟨g,i.toNat,none⟩ (enc x)) (some g):=by
 obtain ⟨rfl,_⟩:=xK h
 exact aap h i x
end
end Kd
section
variable {P : Program} {ops:Array Oper} {rest:List Oper} {o:Oper} {a:Act} {Q:Exit → Act → World → Prop} {W:World}
theorem mg {N:Tmp} (_hN:o.dst = some N) (h:wpList P ops Q (o :: rest) a W):wpList P ops Q (o :: rest) a W:=h
end
section
variable {P : Program} {ops:Array Oper} {o:Oper} {a:Act} {Q:Exit → Act → World → Prop} {Kc:Act → World → Prop}
namespace Kd
variable {α : Type}
end Kd
end
section
variable {P : Program} {tmps:Array Value} {w:World}
end
namespace Kd
section
variable {P : Program} {α:Type}
end
section
variable {P : Program} {ops:Array Oper} {rest:List Oper} {o:Oper} {a:Act} {Q:Exit → Act → World → Prop} {Kc:Act → World → Prop} {α:Type}
end
end Kd
end Go.Proofs.YtfokaoeinpnagaaW.aR
namespace Go.Proofs.YtfokaoeinpnagaaW.dD
section
variable {P : Program} {ops:Array Oper} {Q:Exit → Act → World → Prop} {md:Region.Mode} {S:World → Prop} {ds:List Nat}
def Region.kY (md:Region.Mode) (ops:Array Oper) (i:Nat):Nat → Nat → Bool
 | 0,_=>false
 | fuel + 1,d=>match ops[d]? with
  | some o=>o.after.any fun e=>Region.binds md e && (e.on == i || Region.kY md ops i fuel e.on)
  | none=>false
def Region.sZ (md:Region.Mode) (ops:Array Oper) (listed:Array Bool):Bool :=
 (List.range ops.size).all fun j=>!listed.getD j false || match ops[j]? with
  | some o=>o.after.all fun e=>!Region.binds md e || listed.getD e.on false
  | none=>true
def Region.lastB (md:Region.Mode) (ops:Array Oper) (listed:Array Bool) (ds:List Nat) (i:Nat):Bool :=
 ds.all fun d=>listed.getD d true || Region.kY md ops i ops.size d
def iL (md:Region.Mode) (ops:Array Oper) (listed:Array Bool):Prop :=
 ∀ j oj,ops[j]? = some oj → listed.getD j false = true → ∀ e ∈ oj.after,Region.binds md e = true → listed.getD e.on false = true
theorem Region.BU {listed:Array Bool} (h:Region.sZ md ops listed = true):iL md ops listed:=by
 intro j oj hj hl e he hb
 have hlt:j < ops.size:=(aiJ.1 hj).1
 have h1:=ahR.1 h j (aif.2 hlt)
 simp only [hl,hj,ai9,Bool.false_or] at h1
 have h2:=Array.all_eq_true_iff_forall_mem.1 h1 e he
 simpa [hb] using h2
theorem iL.set {listed:Array Bool} {i:Nat} (h:iL md ops listed) (hi:i ∈ Region.ready md ops listed):iL md ops (listed.setIfInBounds i true):=by
 obtain ⟨_,oi,hoi,hall⟩:=mem_ready.1 hi
 intro j oj hj hl e he hb
 by_cases hij:i = j
 ·subst hij
  have:oj = oi:=aia (hj.symm.trans hoi)
  subst this
  exact getD_set_true (hall e he hb)
 ·rw [getD_set_ne false hij] at hl
  exact getD_set_true (h j oj hj hl e he hb)
theorem Region.tq {listed:Array Bool} {i:Nat} (hc:iL md ops listed):∀ (fuel d:Nat),Region.kY md ops i fuel d = true → listed.getD d false = true → listed.getD i false = true
 | 0,_,h,_=>by simp [Region.kY] at h
 | fuel + 1,d,h,hl=>by
  unfold Region.kY at h
  cases ho:ops[d]? with
  | none=>rw [ho] at h;simp at h
  | some o =>
   rw [ho] at h
   obtain ⟨e,he,h1⟩:=Array.any_eq_true'.1 h
   simp only [ahK,aiy,aie] at h1
   have hle:=hc d o ho hl e he h1.1
   rcases h1.2 with h2 | h2
   ·rw [← h2];exact hle
   ·exact Region.tq hc fuel e.on h2 hle
theorem Region.vN {listed:Array Bool} {i d fuel:Nat} (hc:iL md ops listed) (hr:Region.kY md ops i fuel d = true) (hun:listed.getD i true = false):d ∉ Region.ready md ops listed:=by
 intro hd
 obtain ⟨_,o,ho,hall⟩:=mem_ready.1 hd
 have hi:listed.getD i false = true:=by
  cases fuel with
  | zero=>simp [Region.kY] at hr
  | succ n =>
   unfold Region.kY at hr
   rw [ho] at hr
   obtain ⟨e,he,h1⟩:=Array.any_eq_true'.1 hr
   simp only [ahK,aiy,aie] at h1
   have hle:=hall e he h1.1
   rcases h1.2 with h2 | h2
   ·rw [← h2];exact hle
   ·exact Region.tq hc n e.on h2 hle
 rcases aiT i listed.size with h' | h'
 ·simp [h'] at hun hi
  rw [hun] at hi
  cases hi
 ·simp [aiN h'] at hun
def cK (P:Program) (md:Region.Mode) (ops:Array Oper) (Q:Exit → Act → World → Prop) (S:World → Prop) (ds:List Nat):Nat → Array Bool → Act → World → Prop
 | 0,listed,a,w=>Region.ready md ops listed = [] ∧ Q .normal a w
 | fuel + 1,listed,a,w =>
  (Region.ready md ops listed = [] → Q .normal a w) ∧
  ∀ i ∈ Region.ready md ops listed,wpOp P ops Q i (fun a' w'=>(i ∉ ds → S w → S w') ∧ cK P md ops Q S ds fuel (listed.setIfInBounds i true) a' w') a w
theorem qL : ∀ (fuel:Nat) (listed:Array Bool) (a:Act) (w:World),cK P md ops Q S ds fuel listed a w → wpAny P md ops Q fuel listed a w
 | 0,_,_,_,h=>h
 | fuel + 1,_,_,_,h=>⟨h.1,fun i hi=>wpOp_mono (fun a' w' h'=>qL fuel _ a' w' h'.2) (h.2 i hi)⟩
theorem vO {i:Nat} {oi:Oper} {v:Value} (hi:ops[i]? = some oi) (hsel:∀ (j:Nat) (o:Oper) cs b,ops[j]? = some o → o.op ≠ .select cs b)
  (hQ:∀ c a w,Q (.panic c) (a.put oi.dst v) w → Q (.panic c) a w) (n:Nat) :
  ∀ (fuel:Nat) (listed:Array Bool) (a:Act) (w:World),
   (∀ j oj,ops[j]? = some oj → j ≠ i → listed.getD j true = false → (∀ e ∈ oj.after,Region.binds md e = true → e.on ≠ i) → oi.apart ops oj = true) →
   iL md ops listed → (∀ d ∈ ds,listed.getD d true = false → Region.kY md ops i n d = true) →
   i ∈ Region.ready md ops listed → YieldsIf P ops S oi v a → S w →
   cK P md ops Q S ds fuel (listed.setIfInBounds i true) (a.put oi.dst v) w → cK P md ops Q S ds (fuel + 1) listed a w:=by
 intro fuel
 induction fuel with
 | zero =>
  intro listed a w _ _ _ hr hy hS H
  refine ⟨fun h=>(by rw [h] at hr;cases hr),fun j hj=>?_⟩
  by_cases hji:j = i
  ·subst hji;exact hy.wpOp hi hS ⟨fun _ h=>h,H⟩
  ·have:=ready_mono hj hji
   rw [H.1] at this
   cases this
 | succ fuel ih =>
  intro listed a w hfree hc hd hr hy hS H
  refine ⟨fun h=>(by rw [h] at hr;cases hr),fun j hj=>?_⟩
  by_cases hji:j = i
  ·subst hji;exact hy.wpOp hi hS ⟨fun _ h=>h,H⟩
  ·have h1:=H.2 j (ready_mono hj hji)
   obtain ⟨hjun,oj,hoj,hall⟩:=mem_ready.1 hj
   have Jp:=(mem_ready.1 hr).1
   have hnot:∀ e ∈ oj.after,Region.binds md e = true → e.on ≠ i:=fun e he hb heq=>by
    have h1:=hall e he hb
    rw [heq] at h1
    rcases aiT i listed.size with h' | h'
    ·simp [h'] at Jp h1;rw [Jp] at h1;cases h1
    ·simp [aiN h'] at h1
   have hjd:j ∉ ds:=fun hm=>Region.vN hc (hd j hm hjun) Jp hj
   have h2:=wpOp_putIf hoj (hfree j oj hoj hji hjun hnot) (fun cs b=>hsel i oi cs b hi) (fun cs b=>hsel j oj cs b hoj) hQ hy h1
   have hfree':∀ k ok,ops[k]? = some ok → k ≠ i → (listed.setIfInBounds j true).getD k true = false →
     (∀ e ∈ ok.after,Region.binds md e = true → e.on ≠ i) → oi.apart ops ok = true:=fun k ok hk hki hun hno=>by
    refine hfree k ok hk hki ?_ hno
    by_cases hjk:j = k
    ·subst hjk;exact hjun
    ·rw [getD_set_ne true hjk] at hun;exact hun
   have hd':∀ d ∈ ds,(listed.setIfInBounds j true).getD d true = false → Region.kY md ops i n d = true:=fun d hm hun=>by
    refine hd d hm ?_
    by_cases hjk:j = d
    ·subst hjk;exact hjun
    ·rw [getD_set_ne true hjk] at hun;exact hun
   refine wpOp_mono (fun a' w' h3=>⟨h3.2.1,ih (listed.setIfInBounds j true) a' w' hfree' (hc.set hj) hd' (ready_mono hr (Ne.symm hji)) h3.1 (h3.2.1 hjd hS) ?_⟩) h2
   rw [Array.setIfInBounds_comm _ _ hji]
   exact h3.2.2
theorem zh {i:Nat} {oi:Oper} {v:Value} (hi:ops[i]? = some oi) (hsel:∀ (j:Nat) (o:Oper) cs b,ops[j]? = some o → o.op ≠ .select cs b)
  (hQ:∀ c a w,Q (.panic c) (a.put oi.dst v) w → Q (.panic c) a w) :
  ∀ (fuel:Nat) (listed:Array Bool) (a:Act) (w:World),
   (∀ j oj,ops[j]? = some oj → j ≠ i → listed.getD j true = false → (∀ e ∈ oj.after,Region.binds md e = true → e.on ≠ i) → oi.apart ops oj = true) →
   i ∈ Region.ready md ops listed → Yields P ops oi v a →
   cK P md ops Q S ds fuel (listed.setIfInBounds i true) (a.put oi.dst v) w → cK P md ops Q S ds (fuel + 1) listed a w:=by
 intro fuel
 induction fuel with
 | zero =>
  intro listed a w _ hr hy H
  refine ⟨fun h=>(by rw [h] at hr;cases hr),fun j hj=>?_⟩
  by_cases hji:j = i
  ·subst hji;exact (hy.yieldsIf (S:=fun _=>True)).wpOp hi trivial ⟨fun _ h=>h,H⟩
  ·have:=ready_mono hj hji
   rw [H.1] at this
   cases this
 | succ fuel ih =>
  intro listed a w hfree hr hy H
  refine ⟨fun h=>(by rw [h] at hr;cases hr),fun j hj=>?_⟩
  by_cases hji:j = i
  ·subst hji;exact (hy.yieldsIf (S:=fun _=>True)).wpOp hi trivial ⟨fun _ h=>h,H⟩
  ·have h1:=H.2 j (ready_mono hj hji)
   obtain ⟨hjun,oj,hoj,hall⟩:=mem_ready.1 hj
   have Jp:=(mem_ready.1 hr).1
   have hnot:∀ e ∈ oj.after,Region.binds md e = true → e.on ≠ i:=fun e he hb heq=>by
    have h1:=hall e he hb
    rw [heq] at h1
    rcases aiT i listed.size with h' | h'
    ·simp [h'] at Jp h1;rw [Jp] at h1;cases h1
    ·simp [aiN h'] at h1
   have h2:=wpOp_put hoj (hfree j oj hoj hji hjun hnot) (fun cs b=>hsel i oi cs b hi) (fun cs b=>hsel j oj cs b hoj) hQ hy h1
   have hfree':∀ k ok,ops[k]? = some ok → k ≠ i → (listed.setIfInBounds j true).getD k true = false →
     (∀ e ∈ ok.after,Region.binds md e = true → e.on ≠ i) → oi.apart ops ok = true:=fun k ok hk hki hun hno=>by
    refine hfree k ok hk hki ?_ hno
    by_cases hjk:j = k
    ·subst hjk;exact hjun
    ·rw [getD_set_ne true hjk] at hun;exact hun
   refine wpOp_mono (fun a' w' h3=>⟨h3.2.1,ih (listed.setIfInBounds j true) a' w' hfree' (ready_mono hr (Ne.symm hji)) h3.1 ?_⟩) h2
   rw [Array.setIfInBounds_comm _ _ hji]
   exact h3.2.2
theorem xL {i:Nat} {oi:Oper} {v:Value} {fuel:Nat} {listed:Array Bool} {a:Act} {w:World} (hi:ops[i]? = some oi)
  (hs:Region.noSelect ops = true) (hf:Region.free md ops listed i = true) (hr:(Region.ready md ops listed).contains i = true)
  (hc:Region.sZ md ops listed = true) (hl:Region.lastB md ops listed ds i = true)
  (hQ:∀ c a w,Q (.panic c) (a.put oi.dst v) w → Q (.panic c) a w) (hy:YieldsIf P ops S oi v a) (hS:S w)
  (h:cK P md ops Q S ds fuel (listed.setIfInBounds i true) (a.put oi.dst v) w):cK P md ops Q S ds (fuel + 1) listed a w :=
 vO hi (Region.noSelect_spec hs) hQ ops.size fuel listed a w (Region.free_spec hi hf) (Region.BU hc)
  (fun d hm hun=>by have:=ahR.1 hl d hm;rw [hun] at this;simpa using this) (by simpa using hr) hy hS h
theorem zi {rs:List Nat} {fuel:Nat} {listed:Array Bool} {a:Act} {w:World} (hr:Region.ready md ops listed = rs) (hne:rs ≠ [])
  (h:∀ i ∈ rs,wpOp P ops Q i (fun a' w'=>(i ∉ ds → S w → S w') ∧ cK P md ops Q S ds fuel (listed.setIfInBounds i true) a' w') a w):cK P md ops Q S ds (fuel + 1) listed a w :=
 ⟨fun h0=>absurd (hr ▸ h0) hne,hr ▸ h⟩
theorem xM {listed:Array Bool} {a:Act} {w:World} (hr:Region.ready md ops listed = []) (h:Q .normal a w) :
  ∀ fuel,cK P md ops Q S ds fuel listed a w
 | 0=>⟨hr,h⟩
 | _ + 1=>⟨fun _=>h,by rw [hr];simp⟩
theorem xO {id:Nat} {a:Act} {w:World} (hm:P.follows .mixedOrders = true)
  (h:cK P .any ops Q S ds ops.size (Array.replicate ops.size false) a { w with drawn:=w.drawn + 1 }):(Code.region id ops true).wp P Q a w :=
 wp_region_any hm (qL _ _ _ _ h)
end
section
variable {P : Program} {ops:Array Oper} {Q:Exit → Act → World → Prop} {md:Region.Mode} {S:World → Prop} {ds:List Nat}
def jS (P:Program) (md:Region.Mode) (ops:Array Oper) (Q:Exit → Act → World → Prop) (S:World → Prop) (ds:List Nat) (fuel:Nat) (listed:Array Bool) (a:Act) (w:World) (rs:List Nat):Prop :=
 ∀ i ∈ rs,wpOp P ops Q i (fun a' w'=>(i ∉ ds → S w → S w') ∧ cK P md ops Q S ds fuel (listed.setIfInBounds i true) a' w') a w
theorem jS.nil {fuel:Nat} {listed:Array Bool} {a:Act} {w:World}:jS P md ops Q S ds fuel listed a w []:=fun _ h=>by cases h
theorem jS.cons {fuel:Nat} {listed:Array Bool} {a:Act} {w:World} {i:Nat} {o:Oper} {rs:List Nat} (ho:ops[i]? = some o) (hd:i ∉ ds)
  (h:∀ K':Act → World → Prop,Shut (∀ a w,S w → (S w → cK P md ops Q S ds fuel (listed.setIfInBounds i true) a w) → K' a w) → if Region.wanted o (yielded ops a.tmps) = true then Oper.wp P o a w K' Q else K' (a.put o.dst undef) w)
  (hs:jS P md ops Q S ds fuel listed a w rs):jS P md ops Q S ds fuel listed a w (i :: rs):=fun j hj=>by
 rcases ahT.1 hj with rfl | hj
 ·exact wpOp_step ho (fun K' hK=>h K' (fun a w hS hW=>hK a w ⟨fun _ _=>hS,hW hS⟩))
 ·exact hs j hj
theorem vP {rs:List Nat} {fuel:Nat} {listed:Array Bool} {a:Act} {w:World} (hr:Region.ready md ops listed = rs) (hne:rs ≠ [])
  (h:jS P md ops Q S ds fuel listed a w rs):cK P md ops Q S ds (fuel + 1) listed a w:=zi hr hne h
theorem MW {id n:Nat} {a:Act} {w:World} (l:Array Bool) (hm:P.follows .mixedOrders = true) (hn:ops.size = n) (hl:Array.replicate n false = l) (hS:S w.drew)
  (h:S w.drew → cK P .any ops Q S ds n l a w.drew):(Code.region id ops true).wp P Q a w:=by
 subst hn
 subst hl
 exact xO hm (h hS)
def takeB (md:Region.Mode) (ops:Array Oper) (ds:List Nat) (l l':Array Bool) (i:Nat):Bool :=
 Region.noSelect ops && Region.free md ops l i && (Region.ready md ops l).contains i && Region.sZ md ops l && Region.lastB md ops l ds i && (l.setIfInBounds i true == l')
theorem Ec {i:Nat} {N:Option Tmp} {oi:Oper} {v:Value} {fuel:Nat} {l:Array Bool} {a:Act} {w:World} (l':Array Bool) (hi:ops[i]? = some oi) (hN:oi.dst = N) (hc:takeB md ops ds l l' i = true)
  (hQ:∀ c a w,Q (.panic c) (a.put oi.dst v) w → Q (.panic c) a w) (hy:YieldsIf P ops S oi v a) (hS:S w) {a':Act} (ha:a.put N v = a')
  (h:cK P md ops Q S ds fuel l' a' w):cK P md ops Q S ds (fuel + 1) l a w:=by
 subst ha
 subst hN
 simp only [takeB,ahK,aie] at hc
 obtain ⟨⟨⟨⟨⟨h1,h2⟩,h3⟩,h4⟩,h5⟩,h6⟩:=hc
 subst h6
 exact xL hi h1 h2 h3 h4 h5 hQ hy hS h
def Qu (md:Region.Mode) (ops:Array Oper) (l l':Array Bool) (i:Nat):Bool :=
 Region.noSelect ops && Region.free md ops l i && (Region.ready md ops l).contains i && (l.setIfInBounds i true == l')
theorem lq {i:Nat} {N:Option Tmp} {oi:Oper} {v:Value} {fuel:Nat} {l:Array Bool} {a:Act} {w:World} (l':Array Bool) (hi:ops[i]? = some oi) (hN:oi.dst = N) (hc:Qu md ops l l' i = true)
  (hQ:∀ c a w,Q (.panic c) (a.put oi.dst v) w → Q (.panic c) a w) (hy:Yields P ops oi v a) {a':Act} (ha:a.put N v = a')
  (h:cK P md ops Q S ds fuel l' a' w):cK P md ops Q S ds (fuel + 1) l a w:=by
 subst ha
 subst hN
 simp only [Qu,ahK,aie] at hc
 obtain ⟨⟨⟨h1,h2⟩,h3⟩,h6⟩:=hc
 subst h6
 exact zh hi (Region.noSelect_spec h1) hQ fuel l a w (Region.free_spec hi h2) (by simpa using h3) hy h
def BX (md:Region.Mode) (ops:Array Oper) (l l':Array Bool) (i:Nat):Bool:=(Region.ready md ops l == [i]) && (l.setIfInBounds i true == l')
theorem VL {i:Nat} {N:Option Tmp} {oi:Oper} {fuel:Nat} {l:Array Bool} {a:Act} {w:World} (l':Array Bool) (hi:ops[i]? = some oi) (hN:oi.dst = N) (hc:BX md ops l l' i = true) (hd:i ∉ ds)
  (h:∀ K:Act → World → Prop,Shut (∀ a' w',S w' → (S w' → cK P md ops Q S ds fuel l' a' w') → K a' w') → if Region.wanted oi (yielded ops a.tmps) = true then Oper.wp P oi a w K Q else K (a.put N undef) w) :
  cK P md ops Q S ds (fuel + 1) l a w:=by
 subst hN
 simp only [BX,ahK,aie] at hc
 obtain ⟨h1,h2⟩:=hc
 subst h2
 exact vP h1 (by simp) (jS.cons hi hd (fun K hK=>h K hK) jS.nil)
theorem SN {l:Array Bool} {a:Act} {w:World} {n:Nat} (hr:(Region.ready md ops l == []) = true) (h:Q .normal a w):cK P md ops Q S ds n l a w:=xM (by simpa using hr) h n
theorem SQ {fuel:Nat} {l:Array Bool} {a a':Act} {w:World} (ha:a = a') (h:cK P md ops Q S ds fuel l a' w):cK P md ops Q S ds fuel l a w:=by
 subst ha
 exact h
theorem Qv {f:FuncId} {fn:Func} (hf:P.funcs[f]? = some fn) (hname:(fn.name == "runtime.NumGoroutine") = false) (hb:fn.body.isSome = true) (args:Array Value) (w:World):(callFunc f args).run P w = .ok (.enter f args) w:=by
 have h1:fn.name ≠ "runtime.NumGoroutine" := by simpa using hname
 obtain ⟨c,hc⟩:=ai1.1 hb
 simp [callFunc,hf,h1,hc]
theorem jP {rest:List Oper} {oi:Oper} {a:Act} {w:World} (N:Option Tmp) (hd:oi.dst = N) (hg:oi.guard = none) {f:FuncId} {fn:Func} {ZZ9:Array Operand} {ts:Array TypeId} (hf:P.funcs[f]? = some fn) (hname:(fn.name == "runtime.NumGoroutine") = false) (hb:fn.body.isSome = true) (args:Array Value)
  (hop:oi.op = .call { callee:=.value (.func f),args:=ZZ9,argTypes:=ts }) (hargs:ZZ9.map a.eval = args)
  (h:Calls P f args w fun e w'=>∃ v,e = .returned v ∧ wpList P ops Q rest (a.put N v) w'):wpList P ops Q (oi :: rest) a w:=by
 refine wpList_plain hg fun K hK=>?_
 have he:=Qv hf hname hb args w
 have hrun:(execOp a.eval oi).run P w = .ok (.enter f args) w:=by
  unfold execOp
  simp [hop,resolve,Deferred.ofValue,invoke,Act.eval,hargs,he]
 unfold Oper.wp
 rw [hrun,Oper.upon_enter]
 refine h.mono fun e w'' hh=>?_
 obtain ⟨v,rfl,hk⟩:=hh
 subst hd
 exact hK _ _ hk
theorem VN {oi:Oper} {N:Option Tmp} {a:Act} {w w1:World} {v:Value} {K:Act → World → Prop} (hw:Region.wanted oi (yielded ops a.tmps) = true) (hN:oi.dst = N) (hrun:(execOp a.eval oi).run P w = .ok (.value v) w1)
  (h:K (a.put N v) w1):if Region.wanted oi (yielded ops a.tmps) = true then Oper.wp P oi a w K Q else K (a.put N undef) w:=by
 rw [ahC hw]
 subst hN
 unfold Oper.wp
 rw [hrun]
 exact h
theorem aar {oi:Oper} {a:Act} {w w1:World} {K:Act → World → Prop} (hw:Region.wanted oi (yielded ops a.tmps) = true) (hN:oi.dst = none) (hrun:(execOp a.eval oi).run P w = .ok .skip w1)
  (h:K a w1):if Region.wanted oi (yielded ops a.tmps) = true then Oper.wp P oi a w K Q else K (a.put none undef) w:=by
 rw [ahC hw]
 unfold Oper.wp
 rw [hrun]
 show K (a.put oi.dst undef) w1
 rw [hN]
 exact h
theorem gY (n:Int):IntKind.i64.wrap n = Go.RowKit.wrap64 n:=by unfold Go.RowKit.wrap64;exact IntKind.wrap_i64 n
theorem iQ (n:Int):IntKind.i32.wrap n = Go.RowKit.wrap32 n:=by unfold Go.RowKit.wrap32;exact IntKind.wrap_i32 n
end
end Go.Proofs.YtfokaoeinpnagaaW.dD
namespace Go.Proofs.YtfokaoeinpnagaaW.aR
section
open Go.RowKit
namespace Kd
def tag {α:Type} (f:Nat → Nat) (d:Kd α):Kd (α × Nat) where
 sz:=d.sz
 E:=d.E
 K:=fun w x cs=>d.K w x.1 cs
 M:=fun w base ok x cs=>d.M w base (fun k=>ok k ∧ f k = x.2) x.1 cs
 mY:=fun h=>d.mY h
 nL:=fun h=>d.nL h
 j4:=fun hb h=>d.j4 hb h
 iK:=fun h=>d.iK h
 jk:=fun hok h=>d.jk (fun k hk=>⟨hok k hk.1,hk.2⟩) h
 jo:=fun h=>d.jk (fun _ hk=>⟨⟨hk.1.1,hk.2⟩,hk.1.2⟩) (d.jo h)
 kJ:=fun hm h=>d.kJ (fun k hk=>hm k hk.1) h
 j5:=fun hb h=>d.j5 hb h
def raw (sz:Nat):Kd (List Value) where
 sz:=sz
 E:=[]
 K:=fun _ x cs=>cs = x ∧ cs.length = sz ∧ ∀ u ∈ cs,u.oneCell' = true
 M:=fun _ _ _ x cs=>cs = x ∧ cs.length = sz ∧ ∀ u ∈ cs,u.oneCell' = true
 mY:=fun h=>h.2.1
 nL:=fun h=>h.2.2
 j4:=fun _ h=>h
 iK:=fun h=>h
 jk:=fun _ h=>h
 jo:=fun h=>h
 kJ:=fun _ h=>h
 j5:=fun _ h=>h
def S {α:Type} (d:Kd α) (e:Nat) (w:World) (base:Nat) (ok:Nat → Prop) (v:Value) (xs:List α):Prop:=∃ f,(tag f d).R e w base ok v xs.zipIdx
section
variable {α β:Type} {d:Kd α} {d':Kd β} {e e':Nat} {w w1 W:World} {base b:Nat} {ok ok' okv oku:Nat → Prop} {u v:Value} {xs:List α} {ys:List β}
theorem mh (d:Kd α) (e:Nat) (w:World) (base:Nat) (ok:Nat → Prop):S d e w base ok (.slice none 0 0) []:=⟨fun _=>0,jR _ _ _ _ _⟩
end
section
variable {α β:Type} {d:Kd α} {d':Kd β} {e e' g:Nat} {w w1 W:World} {base b:Nat} {ok ok' okv oku:Nat → Prop} {u v:Value} {xs:List α} {ys:List β}
end
section
open Classical in
variable {P : Program} {ops:Array Oper} {rest:List Oper} {o:Oper} {a:Act} {Q:Exit → Act → World → Prop} {Kc:Act → World → Prop} {α:Type}
end
def gap {α:Type} (f:Nat → Nat) (d:Kd α) (i:Nat) (c:List Value):Kd (α × Nat) where
 sz:=d.sz
 E:=d.E
 K:=fun w x cs=>(x.2 = i → cs = c ∧ cs.length = d.sz ∧ ∀ u ∈ cs,u.oneCell' = true) ∧ (x.2 ≠ i → d.K w x.1 cs)
 M:=fun w base ok x cs=>(x.2 = i → cs = c ∧ cs.length = d.sz ∧ ∀ u ∈ cs,u.oneCell' = true) ∧ (x.2 ≠ i → d.M w base (fun k=>ok k ∧ f k = x.2) x.1 cs)
 mY:=fun {w x cs} h=>by
  by_cases hx:x.2 = i
  ·exact (h.1 hx).2.1
  ·exact d.mY (h.2 hx)
 nL:=fun {w x cs} h=>by
  by_cases hx:x.2 = i
  ·exact (h.1 hx).2.2
  ·exact d.nL (h.2 hx)
 j4:=fun hb h=>⟨h.1,fun hx=>d.j4 hb (h.2 hx)⟩
 iK:=fun h=>⟨h.1,fun hx=>d.iK (h.2 hx)⟩
 jk:=fun hok h=>⟨h.1,fun hx=>d.jk (fun k hk=>⟨hok k hk.1,hk.2⟩) (h.2 hx)⟩
 jo:=fun h=>⟨h.1,fun hx=>d.jk (fun _ hk=>⟨⟨hk.1.1,hk.2⟩,hk.1.2⟩) (d.jo (h.2 hx))⟩
 kJ:=fun hm h=>⟨h.1,fun hx=>d.kJ (fun k hk=>hm k hk.1) (h.2 hx)⟩
 j5:=fun hb h=>⟨h.1,fun hx=>d.j5 hb (h.2 hx)⟩
def H {α:Type} (d:Kd α) (e:Nat) (w:World) (base:Nat) (ok:Nat → Prop) (v:Value) (xs:List α) (i:Int) (oki:Nat → Prop) (c:List Value):Prop :=
 (∀ k,oki k → ok k) ∧ ∃ f,(gap f d i.toNat c).R e w base (fun k=>ok k ∧ ¬ oki k) v xs.zipIdx
section
variable {α β:Type} {d:Kd α} {e e' g n cap:Nat} {w w1 W:World} {base:Nat} {ok ok' oki Jm:Nat → Prop} {u v:Value} {xs:List α} {i:Int} {c:List Value}
open Classical in
end
section
variable {P : Program} {ops:Array Oper} {rest:List Oper} {o:Oper} {a:Act} {Q:Exit → Act → World → Prop} {α:Type}
end
end Kd
end
section
open Go.RowKit
namespace Kd
structure Heap {α:Type} (d:Kd α):Prop where
 K:∀ {w w1:World} {x:α} {cs:List Value},(∀ k,k < w.heap.size → w1.heap[k]? = w.heap[k]?) → d.K w x cs → d.K w1 x cs
theorem Jq {w w1:World} (hb:∀ k,k < w.heap.size → w1.heap[k]? = w.heap[k]?) {a:Addr} {v:Value} (h:w.cell? a = some v):w1.cell? a = some v:=by
 have:=hb a.block (World.block_lt_of_cell? w a h)
 simpa [World.cell?,this] using h
theorem Heap.C {α:Type} {d:Kd α} (hd:Heap d) {w w1:World} {A:Option Addr} {n:Nat} {xs:List α} (hb:∀ k,k < w.heap.size → w1.heap[k]? = w.heap[k]?) (h:d.C w A n xs):d.C w1 A n xs :=
 ⟨h.1,h.2.1,fun hn=>by
  obtain ⟨ad,e,hc⟩:=h.2.2 hn
  refine ⟨ad,e,fun j p hj=>?_⟩
  obtain ⟨c,hs,hr,hcell⟩:=hc j p hj
  exact ⟨c,hs,hd.K hb hr,fun i u hu=>Jq hb (hcell i u hu)⟩⟩
section
variable {α : Type} {d:Kd α} {e base g n c:Nat} {ok:Nat → Prop} {w w0 W:World} {A:Option Addr} {xs:List α}
end
end Kd
end
section
open Go.RowKit
def Kept (w W:World) (S:Nat → Prop):Prop:=w.heap.size ≤ W.heap.size ∧ ∀ i,i < w.heap.size → ¬ S i → W.heap[i]? = w.heap[i]?
section
variable {w W W2:World} {S S2 S':Nat → Prop}
theorem Kept.refl (w:World) (S:Nat → Prop):Kept w w S:=⟨ahG _,fun _ _ _=>rfl⟩
theorem Kept.of_below (h:Below w.heap.size w W) (S:Nat → Prop):Kept w W S:=⟨h.size,fun i hi _=>h.block i hi⟩
theorem Kept.mono (h:Kept w W S) (hs:∀ k,S k → S' k):Kept w W S':=⟨h.1,fun i hi hn=>h.2 i hi (fun hk=>hn (hs i hk))⟩
theorem Kept.then_ (h:Kept w W S) (k:Kept W W2 S2) (hs:∀ k,S2 k → S k ∨ w.heap.size ≤ k):Kept w W2 S :=
 ⟨ahX h.1 k.1,fun i hi hn=>(k.2 i (aic hi h.1) (fun h2=>(hs i h2).elim hn (fun h3=>by omega))).trans (h.2 i hi hn)⟩
theorem Kept.below (h:Kept w W S) (hb:Below W.heap.size W W2):Kept w W2 S:=h.then_ (Kept.of_below hb (fun _=>False)) (fun _ hk=>hk.elim)
theorem Kept.alloc (h:Kept w W S) (o:Obj):Kept w (W.alloc o) S:=h.below (ak (Below.refl _ _) o)
theorem Kept.drew (h:Kept w W S):Kept w W.drew S:=h
theorem Kept.drewN (h:Kept w W S) (m:Nat):Kept w (W.drewN m) S:=h
theorem Kept.setCell (h:Kept w W S) {p:Addr} (hp:S p.block ∨ w.heap.size ≤ p.block) (u:Value):Kept w (W.setCell p u) S :=
 h.then_ (S2:=fun k=>k = p.block) ⟨by simp [World.setCell],fun i _ hn=>Below.heap_setCell W p u i hn⟩ (fun k hk=>by rw [hk];exact hp)
theorem Kept.keep {g:Nat} (h:gM w W g none) (k:Kept W W2 S2) (hs:∀ k,S2 k → w.heap.size ≤ k):gM w W2 g none :=
 ⟨ahX h.1 k.1,fun i hi hg hr=>(k.2 i (aic hi h.1) (fun h2=>by have:=hs i h2;omega)).trans (h.2 i hi hg hr)⟩
end
namespace Kd
section
variable {α : Type} {d:Kd α} {e base n c:Nat} {ok oki S S2:Nat → Prop} {w w0 W W1 W2:World} {v:Value} {A:Option Addr} {xs:List α} {i:Int} {cs:List Value}
end
end Kd
end
section
open Go.RowKit
def qZ (P:World → Prop) (W:World) (ok:Nat → Prop):Prop:=∀ W':World,(∀ k,ok k → k < W.heap.size → W'.heap[k]? = W.heap[k]?) → P W'
theorem Qw {W W1:World} {k:Nat} (h:W1.heap[k]? = W.heap[k]?) (hlt:k < W.heap.size):k < W1.heap.size:=by
 rw [ah3 hlt] at h
 exact (aiJ.1 h).1
namespace qZ
variable {P Q:World → Prop} {W W1:World} {ok ok':Nat → Prop}
theorem now (h:qZ P W ok):P W:=h W (fun _ _ _=>rfl)
theorem mono (h:qZ P W ok) (hok:∀ k,ok k → ok' k):qZ P W ok':=fun W' hW=>h W' (fun k hk hlt=>hW k (hok k hk) hlt)
theorem bound (h:qZ P W ok):qZ P W (fun k=>ok k ∧ k < W.heap.size):=fun W' hW=>h W' (fun k hk hlt=>hW k ⟨hk,hlt⟩ hlt)
theorem step (h:qZ P W ok) (hm:∀ k,ok k → k < W.heap.size → W1.heap[k]? = W.heap[k]?):qZ P W1 ok:=fun W' hW=>h W' (fun k hk hlt=>(hW k hk (Qw (hm k hk hlt) hlt)).trans (hm k hk hlt))
theorem imp (h:qZ P W ok) (hi:∀ W',P W' → Q W'):qZ Q W ok:=fun W' hW=>hi W' (h W' hW)
theorem old (h:qZ P W ok) (hb:Below W.heap.size W W1):qZ P W1 (fun k=>ok k ∧ k < W.heap.size):=(h.bound).step (fun k _ hlt=>hb.block k hlt)
end qZ
namespace Kd
def F {α:Type} (d:Kd α) (W:World) (ok:Nat → Prop) (A:Option Addr) (n:Nat) (xs:List α):Prop:=qZ (fun W=>d.C W A n xs) W ok
def FK {α:Type} (d:Kd α) (W:World) (ok:Nat → Prop) (x:α) (c:List Value):Prop:=qZ (fun W=>d.K W x c) W ok
section
variable {α β:Type} {d:Kd α} {e base n n' cc g N:Nat} {ok ok' Jm S:Nat → Prop} {w w0 w1 W W1:World} {A A':Option Addr} {u v v1:Value} {xs:List α} {xs':List β} {d':Kd β} {x:α} {c:List Value}
theorem aas (d:Kd α) (W:World) (ok:Nat → Prop):F d W ok none ([]:List α).length []:=fun W' _=>aan d W'
theorem Qx (h:d.M W base ok x c):FK d W ok x c:=fun _ hW=>d.iK (VF h hW)
end
end Kd
end
section
open Go.RowKit
namespace Kd
def chunks (sz:Nat) (n:Nat) (inner:List Value):List (List Value):=(List.range n).map fun j=>(inner.drop (j * sz)).take sz
theorem jC (sz n:Nat) (inner:List Value):(chunks sz n inner).length = n:=by simp [chunks]
theorem Jr {sz n:Nat} {inner:List Value} {j:Nat} (hj:j < n):(chunks sz n inner)[j]? = some ((inner.drop (j * sz)).take sz):=by simp [chunks,hj]
theorem xP {sz n:Nat} {inner:List Value} {j:Nat} {c:List Value} (h:(chunks sz n inner)[j]? = some c):c = (inner.drop (j * sz)).take sz:=by
 have hj:j < n:=by have:=(aiu.1 h).1;rwa [jC] at this
 rw [Jr hj] at h
 injection h with h
 exact h.symm
theorem MX {α:Type} {Rr:α → List Value → Prop} {sz:Nat} {xs:List α} {inner:List Value} (h:fH Rr sz xs inner) (hR:∀ x c,Rr x c → c.length = sz ∧ ∀ u ∈ c,u.oneCell' = true):fH (fun x cs=>cs = x ∧ cs.length = sz ∧ ∀ u ∈ cs,u.oneCell' = true) sz (chunks sz xs.length inner) inner:=by
 refine ⟨by rw [jC];exact h.1,fun j p hj=>?_⟩
 have hjl:j < xs.length:=by have:=(aiu.1 hj).1;rwa [jC] at this
 have hp:=xP hj
 exact ⟨hp.symm,hR _ _ (h.2 j _ (ahQ hjl))⟩
section
variable {α : Type} {d:Kd α} {e base n cc g:Nat} {ok ok' Jm S:Nat → Prop} {w w1 W W1:World} {A:Option Addr} {u v v1:Value} {xs:List α} {x:α} {c:List Value}
def N {α:Type} (d:Kd α) (e:Nat) (w:World) (base:Nat) (ok:Nat → Prop) (v:Value) (xs:List α):Prop :=
 (∀ k,v.ownBlock = some k → ok k) ∧ ∃ rows:List (List Value),rows.length = xs.length ∧ (raw d.sz).R e w base (fun k=>some k = v.ownBlock) v rows ∧ ∀ (j:Nat) (x:α) (c:List Value),xs[j]? = some x → rows[j]? = some c → FK d w (fun k=>ok k ∧ some k ≠ v.ownBlock) x c
theorem R_N (h:d.R e w base ok v xs):N d e w base ok v xs:=by
 obtain ⟨h0,inner,ho,hr⟩:=h
 refine ⟨h0,chunks d.sz xs.length inner,jC _ _ _,⟨fun k hk=>hk.symm,inner,by rw [jC];exact ho,MX hr (fun x c hp=>⟨d.mY (d.iK hp),d.nL (d.iK hp)⟩)⟩,fun j x c hx hc=>?_⟩
 rw [xP hc]
 exact Qx (hr.2 j x hx)
theorem mq (d:Kd α) (e:Nat) (w:World) (base:Nat) (ok:Nat → Prop):N d e w base ok (.slice none 0 0) []:=R_N (jR _ _ _ _ _)
end
end Kd
end
end Go.Proofs.YtfokaoeinpnagaaW.aR
namespace Go.Proofs.YtfokaoeinpnagaaW.eB
open Go.RowKit Go.Proofs.YtfokaoeinpnagaaW.aR
namespace Kd
open Go.Proofs.YtfokaoeinpnagaaW.aR.Kd
end Kd
namespace Kd
open Go.Proofs.YtfokaoeinpnagaaW.aR.Kd
section
variable {α : Type} {d:Kd α} {e base g N:Nat} {ok:Nat → Prop} {W w1:World} {u v:Value} {xs:List α}
end
end Kd
theorem jD (k k':IntKind) (x y:Int):Builtin.max2 (.int k x) (.int k' y) = pure (.int k (if x < y then y else x)):=by simp only [Builtin.max2,gt_iff_lt]
theorem jE (k k':IntKind) (x y:Int):Builtin.min2 (.int k x) (.int k' y) = pure (.int k (if y < x then y else x)):=by simp only [Builtin.min2]
theorem kN (ats:Array TypeId) (ty:TypeId) (a b:Value):Builtin.max_ ats ty #[a,b] = (Builtin.max2 a b >>= fun s=>pure s):=by simp only [Builtin.max_,ajv,List.foldlM_nil]
theorem kP (ats:Array TypeId) (ty:TypeId) (a b:Value):Builtin.min_ ats ty #[a,b] = (Builtin.min2 a b >>= fun s=>pure s):=by simp only [Builtin.min_,ajv,List.foldlM_nil]
theorem iV (ats:Array TypeId) (ty:TypeId) (a b c:Value):Builtin.max_ ats ty #[a,b,c] = (Builtin.max2 a b >>= fun s=>Builtin.max2 s c >>= fun s=>pure s):=by simp only [Builtin.max_,ajv,List.foldlM_nil]
theorem iW (ats:Array TypeId) (ty:TypeId) (a b c:Value):Builtin.min_ ats ty #[a,b,c] = (Builtin.min2 a b >>= fun s=>Builtin.min2 s c >>= fun s=>pure s):=by simp only [Builtin.min_,ajv,List.foldlM_nil]
theorem jF (ats:Array TypeId) (ty:TypeId) (a b c d:Value):Builtin.max_ ats ty #[a,b,c,d] = (Builtin.max2 a b >>= fun s=>Builtin.max2 s c >>= fun s=>Builtin.max2 s d >>= fun s=>pure s):=by simp only [Builtin.max_,ajv,List.foldlM_nil]
theorem jG (ats:Array TypeId) (ty:TypeId) (a b c d:Value):Builtin.min_ ats ty #[a,b,c,d] = (Builtin.min2 a b >>= fun s=>Builtin.min2 s c >>= fun s=>Builtin.min2 s d >>= fun s=>pure s):=by simp only [Builtin.min_,ajv,List.foldlM_nil]
end Go.Proofs.YtfokaoeinpnagaaW.eB
namespace Go.Proofs.YtfokaoeinpnagaaW.aR
open Go.RowKit
section
variable {P : Program} {ops:Array Oper} {rest:List Oper} {o:Oper} {a:Act} {Q:Exit → Act → World → Prop} {W:World}
theorem eG {f:FuncId} {ZZ9:Array Operand} {ts:Array TypeId} (_ho:o.op = .call { callee:=.value (.func f),args:=ZZ9,argTypes:=ts }) (h:wpList P ops Q (o :: rest) a W):wpList P ops Q (o :: rest) a W:=h
theorem tu {b:Builtin} {xs:Array Operand} {ts:Array TypeId} (_ho:o.op = .call { callee:=.builtin b,args:=xs,argTypes:=ts }) (h:wpList P ops Q (o :: rest) a W):wpList P ops Q (o :: rest) a W:=h
end
def mx (a b:Int):Int:=if a < b then b else a
def mn (a b:Int):Int:=if b < a then b else a
def shl (k:IntKind) (x y:Int):Int:=k.wrap (x * 2 ^ min y.toNat k.bits)
def shr (k:IntKind) (x y:Int):Int:=x / 2 ^ min y.toNat k.bits
namespace Kd
section
variable {α : Type} {d:Kd α} {e base:Nat} {ok:Nat → Prop} {W w1:World} {v:Value} {xs:List α}
end
section
variable {α : Type} {d:Kd α} {e base g n cap:Nat} {ok oki Jm:Nat → Prop} {W:World} {xs:List α} {i:Int} {c:List Value}
end
section
variable {α : Type} {d:Kd α} {e base b b' g N:Nat} {ok ok1:Nat → Prop} {W W2 w1:World} {u v:Value} {xs ys:List α} {S:Nat → Prop}
end
end Kd
end Go.Proofs.YtfokaoeinpnagaaW.aR
namespace Go.Proofs.YtfokaoeinpnagaaW.aR
open Go.RowKit
namespace Kd
def V {α:Type} (d:Kd α) (_e:Nat) (W:World) (_base:Nat) (ok:Nat → Prop) (v:Value) (xs:List α):Prop:=∃ A c,v = .slice A xs.length c ∧ xs.length ≤ c ∧ F d W ok A xs.length xs
section
variable {α β:Type} {d:Kd α} {e base base' n m c g N' lo hi:Nat} {ok ok' S:Nat → Prop} {w W w1:World} {A:Option Addr} {ad:Addr} {u v v1:Value} {xs:List α}
theorem bO (h:V d e W base ok v xs) (hF:∀ A,F d W ok A xs.length xs → F d w1 ok' A xs.length xs):V d e w1 base' ok' v xs:=by
 obtain ⟨A,c,hv,hl,hf⟩:=h
 exact ⟨A,c,hv,hl,hF A hf⟩
theorem mD (d:Kd α) (e:Nat) (W:World) (base:Nat) (ok:Nat → Prop):V d e W base ok (.slice none 0 0) []:=⟨none,0,rfl,ahG _,aas d W ok⟩
end
end Kd
end Go.Proofs.YtfokaoeinpnagaaW.aR
namespace Go.Proofs.Ytfokaoeinpnagaa.B
section
open Go.RowKit Go.Proofs.YtfokaoeinpnagaaW.aR
theorem jH {n:Int} (h0:-9223372036854775808 ≤ n) (h1:n ≤ 9223372036854775807):wrap64 n = n:=by unfold wrap64;omega
theorem toList_inj {s t:ByteArray}:s.toList = t.toList ↔ s = t:=by
 constructor
 ·intro h
  rw [Lib.toList_data,Lib.toList_data] at h
  exact aiI (Array.toList_inj.mp h)
 ·rintro rfl;rfl
theorem toList_nil {s:ByteArray}:s.toList = ([]:List UInt8) ↔ s.size = 0:=by
 rw [Lib.toList_data]
 constructor
 ·intro h
  show s.data.size = 0
  rw [← Array.length_toList,h];rfl
 ·intro h
  have h':s.data.size = 0:=h
  rw [← Array.length_toList] at h'
  exact ai7 h'
theorem eq_empty {s:ByteArray} (h:s.size = 0):s = ⟨#[]⟩:=toList_inj.mp ((toList_nil.mpr h).trans (toList_nil.mpr rfl).symm)
theorem oq (s:ByteArray) (i:Int):bt s i = ((s.data.toList[i.toNat]?.getD 0).toNat:Int):=by
 unfold bt
 by_cases h:i.toNat < s.size
 ·rw [dif_pos h]
  have h':i.toNat < s.data.toList.length:=by rw [Array.length_toList];exact h
  rw [ahQ h']
  rfl
 ·rw [dif_neg h]
  have h':¬ i.toNat < s.data.toList.length:=by rw [Array.length_toList];exact h
  rw [ai2 (by omega)]
  rfl
theorem xQ {a b:ByteArray} {i:Int} (h0:0 ≤ i) (h:i < (a.size:Int)):bt (a ++ b) i = bt a i:=by
 rw [oq,oq,ajd,Array.toList_append,aju]
 rw [Array.length_toList];show i.toNat < a.size;omega
theorem mE {s:ByteArray} {a b:Nat} {j:Int} (hj:0 ≤ j) (h:j < ((s.extract a b).size:Int)):bt (s.extract a b) j = bt s (a + j):=by
 have h':=h
 simp only [aib] at h'
 rw [oq,oq,Lib.extract_data,aip,ahC (by omega),aiA]
 rw [show a + j.toNat = ((a:Int) + j).toNat from by omega]
theorem BZ {s t:ByteArray} (hz:s.size = t.size) (h:∀ i:Int,0 ≤ i → i < (s.size:Int) → bt s i = bt t i):s = t:=by
 have es:s.data.toList.length = s.size:=by rw [Array.length_toList];rfl
 have et:t.data.toList.length = t.size:=by rw [Array.length_toList];rfl
 refine aiI (Array.toList_inj.mp (List.ext_getElem (by omega) fun i h1 h2=>?_))
 have:=h i (by omega) (by omega)
 rw [oq,oq] at this
 have e:((i:Int)).toNat = i:=by omega
 rw [e,ahQ h1,ahQ h2] at this
 exact UInt8.toNat_inj.mp (Int.ofNat.inj this)
theorem Qy (xs:List Int) (i:Int) (h:∀ x ∈ xs,0 ≤ x ∧ x ≤ 255):bt (strOfNums xs) i = xs[i.toNat]?.getD 0:=by
 rw [oq,strOfNums_data,ahN]
 by_cases hi:i.toNat < xs.length
 ·rw [ahQ hi]
  have:=h _ (List.getElem_mem hi)
  simp [UInt8.toNat_ofNat']
  omega
 ·rw [ai2 (by omega)]
  rfl
theorem tC (a b:ByteArray):(a ++ b).extract a.size (a ++ b).size = b:=by
 rw [ByteArray.extract_append]
 have e:a.extract a.size (a ++ b).size = ⟨#[]⟩:=eq_empty (by simp only [aib];omega)
 rw [e,ah6,show a.size - a.size = 0 from by omega,show a.size + b.size - a.size = b.size from by omega,ajx]
 exact aiI (by rw [ajd];simp)
theorem empty_append (s:ByteArray):(⟨#[]⟩:ByteArray) ++ s = s:=by
 refine aiI ?_
 rw [ajd];simp
theorem append_empty (s:ByteArray):s ++ (⟨#[]⟩:ByteArray) = s:=by
 refine aiI ?_
 rw [ajd];simp
theorem MZ : (⟨#[]⟩:ByteArray).size = 0:=rfl
theorem size_ext {s:ByteArray} {i n:Int} (h0:0 ≤ i) (hn:0 ≤ n) (hs:i + n ≤ (s.size:Int)):((s.extract i.toNat (i + n).toNat).size:Int) = n:=by
 simp only [aib];omega
theorem M0 {s:ByteArray} {i n j:Int} (h0:0 ≤ i) (hj:0 ≤ j) (hn:j < n) (hs:i + n ≤ (s.size:Int)):bt (s.extract i.toNat (i + n).toNat) j = bt s (i + j):=by
 rw [mE hj (by rw [size_ext h0 (by omega) hs];exact hn)]
 congr 1
 omega
theorem dN (a b:Bool):(a == !b) = (a != b):=by cases a <;> cases b <;> rfl
theorem dO (a b:Bool):(a != !b) = (a == b):=by cases a <;> cases b <;> rfl
section
open Go
variable {P : Program} {d c j:Nat} {e:TypeId} {xs ys:Array Value} {js:List Nat} {a b:Value} {r s:Bool} {w:World}
theorem M4 (ha:(part e xs (j * c)).run P w = .ok a w) (hb:(part e ys (j * c)).run P w = .ok b w) (he:(Op.equalIn d e a b).run P w = .ok r w):(Op.eqItems d e c xs ys [j]).run P w = .ok r w:=by
 simp only [Op.eqItems,Sem.run_bind,ha,hb,he,Result.andThen_ok]
 cases r <;> simp
theorem Ef (ha:(part e xs (j * c)).run P w = .ok a w) (hb:(part e ys (j * c)).run P w = .ok b w) (he:(Op.equalIn d e a b).run P w = .ok r w) (hr:(Op.eqItems d e c xs ys js).run P w = .ok s w):(Op.eqItems d e c xs ys (j :: js)).run P w = .ok (r && s) w:=by
 rw [Op.eqItems]
 simp only [Sem.run_bind,ha,hb,he,Result.andThen_ok]
 cases r
 ·simp
 ·simpa using hr
theorem M5 {t:TypeId} {n:Nat} (hu:P.underlying t = some (.array n e)) (hi:(P.info? e).isSome = true) (hc:P.cellsOf e = 1) (h:(Op.eqItems d e 1 xs ys (List.range n)).run P w = .ok r w):(Op.equalIn (d + 1) t (.agg xs) (.agg ys)).run P w = .ok r w:=by
 obtain ⟨i,hi⟩:=ai1.mp hi
 rw [run_equalIn_array (P:=P) w d xs ys hu hi,hc]
 exact h
end
end
section
open Go.RowKit Go.Proofs.YtfokaoeinpnagaaW.aR
def Eh (w:World) (g:Nat) (xs:List Int):Prop:=∀ j,j < xs.length → w.cell? ⟨g,j,none⟩ = some (.int .u8 (xs.getD j 0)) ∧ w.frozen? ⟨g,j,none⟩ = false
def mF (c:Int):Int:=if 65 ≤ c ∧ c ≤ 90 then c + 32 else c
def numsOf (s:ByteArray):List Int:=s.data.toList.map fun b=>(b.toNat:Int)
theorem numsOf_length (s:ByteArray):(numsOf s).length = s.size:=by simp [numsOf]
theorem numsOf_at (s:ByteArray) (j:Nat):(numsOf s).getD j 0 = bt s j:=by
 rw [oq,numsOf,ah5,ahN]
 rw [show ((j:Int)).toNat = j from by omega]
 cases s.data.toList[j]? <;> rfl
def kg (s:ByteArray):ByteArray:=strOfNums ((numsOf s).map mF)
def kC (k:Nat) (xs:List Int):List Int:=(xs.take k).map mF ++ xs.drop k
theorem lH (k:Nat) (xs:List Int):(kC k xs).length = xs.length:=by simp [kC];omega
theorem FY (xs:List Int):kC 0 xs = xs:=by simp [kC]
theorem Js (xs:List Int):kC xs.length xs = xs.map mF:=by simp [kC]
theorem M6 (k:Nat) (xs:List Int) (h:k < xs.length):(kC k xs).getD k 0 = xs.getD k 0:=by
 simp only [kC,ah5]
 rw [List.getElem?_append_right (by simp;omega)]
 simp only [ahF,ahS,aiA]
 congr 2
 omega
theorem Jt (k:Nat) (xs:List Int) (h:k < xs.length):(kC k xs).set k (mF (xs.getD k 0)) = kC (k + 1) xs:=by
 apply aiQ
 intro i
 rw [List.getElem?_set]
 have hl:=lH k xs
 by_cases e:k = i
 ·subst e
  rw [ahC rfl,ahC (by omega)]
  simp only [kC]
  rw [aju (by simp;omega),ahN,aip,ahC (by omega),ah5,ahQ h]
  rfl
 ·rw [ahD e]
  simp only [kC]
  by_cases h2:i < k
  ·rw [aju (by simp;omega),aju (by simp;omega),ahN,ahN,aip,aip,ahC h2,ahC (by omega)]
  ·by_cases h3:i < xs.length
   ·rw [List.getElem?_append_right (by simp;omega),List.getElem?_append_right (by simp;omega),aiA,aiA]
    congr 1
    simp only [ahF,ahS]
    omega
   ·rw [ai2 (by simp;omega),ai2 (by simp;omega)]
theorem Ju (s:ByteArray) (k:Nat):0 ≤ bt s k ∧ bt s k ≤ 255:=gB s k
theorem FZ (w:World) (e:TypeId) (s:ByteArray):Eh (Lib.bytesWorld w e s) w.heap.size (numsOf s):=by
 intro j hj
 rw [numsOf_length] at hj
 refine ⟨?_,?_⟩
 ·rw [Lib.bytesWorld_cell w e s j hj,numsOf_at,oq,ah5]
  rfl
 ·have hlt:j < (Lib.bytesCells w e s).size:=by
   have:s.size ≤ (Lib.bytesCells w e s).size:=by simp [Lib.bytesCells]
   omega
  simp [World.frozen?,Lib.bytesWorld_at_new]
  omega
theorem rowAt_set {w:World} {g:Nat} {xs:List Int} (h:Eh w g xs) (k:Nat) (v:Int) (hk:k < xs.length):Eh (w.setCell ⟨g,k,none⟩ (.int .u8 v)) g (xs.set k v):=by
 intro j hj
 rw [ajg] at hj
 obtain ⟨h1,h2⟩:=h j hj
 refine ⟨?_,by rw [World.frozen?_setCell];exact h2⟩
 by_cases e:j = k
 ·subst e
  rw [World.cell?_setCell_same w _ _ h1]
  simp [ah5,hj]
 ·rw [World.cell?_setCell_other w _ _ _ (by intro hc;injection hc with _ h3 _;exact e h3.symm),h1]
  simp [ah5,List.getElem?_set,Ne.symm e]
theorem F4 {B:Nat} {a w:World} (h:Below B a w) (hB:B ≤ w.heap.size) (e:TypeId) (s:ByteArray):Below B a (Lib.bytesWorld w e s) :=
 ⟨h.os,h.tape,h.output,by rw [Lib.bytesWorld_size];have:=h.size;omega,fun k hk=>(Lib.bytesWorld_at_old w e s k (by omega)).trans (h.block k hk)⟩
end
section
open Go.RowKit Go.Proofs.YtfokaoeinpnagaaW.aR
def sg (b:Int):ByteArray:=strOfNums [b]
def root : ByteArray:=⟨#[0]⟩
theorem mZ (b:Int):(sg b).size = 1:=by unfold sg;rw [strOfNums_size];rfl
theorem iX : root.size = 1:=rfl
theorem HV (b:Int) (h:0 ≤ b ∧ b ≤ 255):bt (sg b) 0 = b:=by
 unfold sg;rw [Qy [b] 0 (by simpa using h)];rfl
theorem Ca : bt root 0 = 0:=by decide
def zk : List ByteArray → ByteArray
 | []=>⟨#[]⟩
 | x :: l=>sg x.size ++ x ++ zk l
def enc (l:List ByteArray):ByteArray:=zk l ++ root
def yQ (x:ByteArray):Prop:=1 ≤ x.size ∧ x.size ≤ 63
instance (x : ByteArray):Decidable (yQ x):=by unfold yQ;infer_instance
theorem ou : enc [] = root:=empty_append _
theorem mG (x:ByteArray) (l:List ByteArray):enc (x :: l) = sg x.size ++ x ++ enc l:=by unfold enc;rw [zk,ByteArray.append_assoc]
theorem Ei (l m:List ByteArray):zk (l ++ m) = zk l ++ zk m:=by
 induction l with
 | nil=>simp only [List.nil_append,zk];exact (empty_append _).symm
 | cons x l ih=>simp only [List.cons_append,zk,ih,ByteArray.append_assoc]
theorem lI (l:List ByteArray):1 ≤ (enc l).size:=by unfold enc;rw [ah6,iX];omega
theorem M7 {b:Int} {x r:ByteArray} (h:0 ≤ b ∧ b ≤ 255):bt (sg b ++ x ++ r) 0 = b:=by
 rw [ByteArray.append_assoc,xQ (by omega) (by rw [mZ];omega),HV b h]
theorem Jv {b:Int} {x r:ByteArray}:(sg b ++ x ++ r).extract 1 (1 + x.size) = x:=by
 rw [ByteArray.append_assoc,show (1:Nat) = (sg b).size + 0 from by rw [mZ],show (sg b).size + 0 + x.size = (sg b).size + x.size from by omega,ByteArray.extract_append_size_add,ByteArray.extract_append_eq_left rfl]
theorem Ej {b:Int} {x r:ByteArray}:(sg b ++ x ++ r).extract (1 + x.size) (sg b ++ x ++ r).size = r:=by
 have:(sg b ++ x).size = 1 + x.size:=by rw [ah6,mZ]
 have h:=tC (sg b ++ x) r
 rw [this] at h
 exact h
theorem kT {b:Int} {x r:ByteArray}:(sg b ++ x ++ r).size = 1 + x.size + r.size:=by simp only [ah6,mZ]
theorem aat (n:ByteArray) (k:Nat) (hk:(k:Int) = bt n 0) (hlt:1 + k ≤ n.size):n = sg k ++ n.extract 1 (1 + k) ++ n.extract (1 + k) n.size:=by
 have h1:n.extract 0 1 = sg k:=by
  have hz:(n.extract 0 1).size = 1:=by rw [aib];omega
  refine BZ (by rw [hz,mZ]) fun i h0 hi=>?_
  have:i = 0:=by omega
  subst this
  have hr:=gB n 0
  rw [mE (by omega) (by rw [hz];omega),HV _ (by omega),hk]
  rfl
 rw [← h1,ByteArray.extract_append_extract,show min 0 1 = 0 from rfl,show max 1 (1 + k) = 1 + k from by omega,ByteArray.extract_append_extract]
 rw [show min 0 (1 + k) = 0 from by omega,show max (1 + k) n.size = n.size from by omega,ajx]
def jI : Nat → ByteArray → Option (List ByteArray)
 | 0,_=>none
 | k + 1,n =>
  if n.size = 0 then none
  else if n = root then some []
  else if 1 ≤ bt n 0 ∧ bt n 0 ≤ 63 ∧ bt n 0 + 1 < (n.size:Int) then
   (jI k (n.extract (1 + (bt n 0).toNat) n.size)).map (n.extract 1 (1 + (bt n 0).toNat) :: ·)
  else none
theorem kU : ∀ (k:Nat) (n:ByteArray) (l:List ByteArray),jI k n = some l → n = enc l ∧ ∀ x ∈ l,yQ x
 | 0,_,_,h=>by simp [jI] at h
 | k + 1,n,l,h=>by
  rw [jI] at h
  split at h
  ·cases h
  ·split at h
   ·rename_i hr
    cases h
    exact ⟨by rw [ou];exact hr,by simp⟩
   ·split at h
    ·rename_i hc
     obtain ⟨m,hm,rfl⟩:=zmm h
     obtain ⟨e,hok⟩:=kU k _ m hm
     have hz:(n.extract 1 (1 + (bt n 0).toNat)).size = (bt n 0).toNat:=by rw [aib];omega
     refine ⟨?_,?_⟩
     ·rw [mG,hz,← e]
      exact aat n _ (by omega) (by omega)
     ·intro x hx
      rcases ahT.mp hx with rfl | hx
      ·unfold yQ;omega
      ·exact hok x hx
    ·cases h
theorem u6 (x:ByteArray) (l:List ByteArray) (h:yQ x):enc (x :: l) ≠ root:=by
 intro e
 have:=ah1 ByteArray.size e
 have h2:=lI l
 have h1:=h.1
 rw [mG,kT,iX] at this
 omega
theorem p8 : ∀ (k:Nat) (l:List ByteArray),(∀ x ∈ l,yQ x) → (enc l).size ≤ k → jI k (enc l) = some l
 | 0,l,_,hk=>by have:=lI l;omega
 | k + 1,[],_,_=>by
  rw [jI,ou,ahD (by rw [iX];omega),ahC rfl]
 | k + 1,x :: l,hok,hk=>by
  have hx:=hok x (by simp)
  have h1:=lI l
  have hr:=u6 x l hx
  obtain ⟨hx1,hx2⟩:=hx
  rw [mG] at hk hr ⊢
  rw [kT] at hk
  rw [jI,ahD (by rw [kT];omega),ahD hr,M7 (by omega),kT,ahC (by omega)]
  have e:((x.size:Int)).toNat = x.size:=by omega
  have hc:=@Ej (x.size:Int) x (enc l)
  rw [kT] at hc
  rw [e,Jv,hc,p8 k l (fun y hy=>hok y (by simp [hy])) (by omega)]
  rfl
def q8 (n:ByteArray):Option (List ByteArray):=if n.size ≤ 255 then jI 255 n else none
theorem Ae {n:ByteArray} {l:List ByteArray} (h:q8 n = some l):n = enc l ∧ (∀ x ∈ l,yQ x) ∧ n.size ≤ 255:=by
 unfold q8 at h
 split at h
 ·exact ⟨(kU _ _ _ h).1,(kU _ _ _ h).2,by assumption⟩
 ·cases h
theorem xR {l:List ByteArray} (hok:∀ x ∈ l,yQ x) (hz:(enc l).size ≤ 255):q8 (enc l) = some l:=by
 unfold q8
 rw [ahC hz,p8 _ _ hok hz]
theorem xS : ∀ (k:Nat) (n:ByteArray),n.size ≤ k → jI k n = jI n.size n:=by
 intro k n hk
 cases h:jI k n with
 | some l =>
  obtain ⟨e,hok⟩:=kU _ _ _ h
  subst e
  exact (p8 _ _ hok (ahG _)).symm
 | none =>
  cases h2:jI n.size n with
  | none=>rfl
  | some l =>
   obtain ⟨e,hok⟩:=kU _ _ _ h2
   rw [e] at h hk
   rw [p8 k l hok hk] at h
   cases h
theorem xU {n:ByteArray} (h:1 ≤ n.size):jI n.size n = if n = root then some [] else if 1 ≤ bt n 0 ∧ bt n 0 ≤ 63 ∧ bt n 0 + 1 < (n.size:Int) then
   (jI (n.extract (1 + (bt n 0).toNat) n.size).size (n.extract (1 + (bt n 0).toNat) n.size)).map (n.extract 1 (1 + (bt n 0).toNat) :: ·) else none:=by
 obtain ⟨k,hk⟩:∃ k,n.size = k + 1:=⟨n.size - 1,by omega⟩
 conv=>lhs;rw [hk,jI]
 rw [ahD (by omega)]
 split
 ·rfl
 ·split
  ·rw [xS k _ (by rw [aib];omega)]
  ·rfl
def je (n:ByteArray):Bool:=(q8 n).isSome
def up (n:ByteArray):ByteArray × Bool:=match q8 n with
 | some (_ :: l)=>(enc l,true)
 | _=>(⟨#[]⟩,false)
def same (a b:ByteArray):Bool:=je a && je b && decide (kg a = kg b)
theorem p9 {n:ByteArray}:je n = true ↔ ∃ l,n = enc l ∧ (∀ x ∈ l,yQ x) ∧ n.size ≤ 255:=by
 unfold je
 constructor
 ·intro h
  obtain ⟨l,hl⟩:=ai1.mp h
  exact ⟨l,Ae hl⟩
 ·rintro ⟨l,rfl,h1,h2⟩
  rw [xR h1 h2];rfl
theorem VO {x:ByteArray} {l:List ByteArray} (hok:∀ y ∈ x :: l,yQ y) (hz:(enc (x :: l)).size ≤ 255):up (enc (x :: l)) = (enc l,true):=by
 unfold up;rw [xR hok hz]
theorem Qz : up root = (⟨#[]⟩,false):=by
 unfold up;rw [← ou,xR (by simp) (by rw [ou,iX];omega)]
theorem VP {n:ByteArray} (h:je n = false):up n = (⟨#[]⟩,false):=by
 unfold je at h
 unfold up
 cases hl:q8 n with
 | none=>rfl
 | some l=>rw [hl] at h;cases h
theorem QA {n:ByteArray} (h:(up n).2 = true):∃ x l,n = enc (x :: l) ∧ (∀ y ∈ x :: l,yQ y) ∧ n.size ≤ 255 ∧ (up n).1 = enc l:=by
 unfold up at h ⊢
 split at h
 ·rename_i x l hl
  obtain ⟨e,h1,h2⟩:=Ae hl
  exact ⟨x,l,e,h1,h2,rfl⟩
 ·cases h
end
end Go.Proofs.Ytfokaoeinpnagaa.B
namespace Go.Proofs.YtfokaoeinpnagaaW.dD
open Go.Proofs.YtfokaoeinpnagaaW.aR (ah)
def qg (md:Region.Mode) (o:Oper):List Nat:=(o.after.toList.filter (fun e=>Region.binds md e)).map (fun e=>e.on)
def Cb (md:Region.Mode) (ops:Array Oper) (i:Nat) (oi:Oper):List Nat:=(List.range ops.size).filter fun j=>!(j == i) && match ops[j]? with
 | some oj=>!(oj.after.any (fun e=>Region.binds md e && e.on == i) || oi.apart ops oj)
 | none=>false
def mR (md:Region.Mode) (ops:Array Oper):Bool × List (List Nat × List Nat):=(Region.noSelect ops,(List.range ops.size).map fun i=>match ops[i]? with
 | some o=>(qg md o,Cb md ops i o)
 | none=>([],[]))
def ng (T:List (List Nat × List Nat)) (l:List Bool) (i:Nat):Bool:=!l.getD i true && match T[i]? with
 | some r=>r.1.all (fun j=>l.getD j false)
 | none=>false
def xV (T:List (List Nat × List Nat)) (l:List Bool):List Nat:=(List.range T.length).filter (ng T l)
def El (T:List (List Nat × List Nat)) (l:List Bool) (i:Nat):Bool:=match T[i]? with
 | some r=>r.2.all (fun j=>l.getD j true)
 | none=>false
def vX (T:List (List Nat × List Nat)) (l:List Bool):Bool:=(List.range T.length).all fun j=>!l.getD j false || match T[j]? with
 | some r=>r.1.all (fun k=>l.getD k false)
 | none=>true
def uG (T:List (List Nat × List Nat)) (i:Nat):Nat → Nat → Bool
 | 0,_=>false
 | fuel + 1,d=>match T[d]? with
  | some r=>r.1.any fun j=>j == i || uG T i fuel j
  | none=>false
def lastT (T:List (List Nat × List Nat)) (l:List Bool) (ds:List Nat) (i:Nat):Bool:=ds.all fun d=>l.getD d true || uG T i T.length d
section
variable {md : Region.Mode} {ops:Array Oper} {T:Bool × List (List Nat × List Nat)} {l l' li lj lk:Array Bool} {ds:List Nat} {i j k:Nat}
theorem gd (l:Array Bool) (j:Nat) (b:Bool):l.getD j b = l.toList.getD j b:=by simp [aio,ah5]
theorem Af (o:Oper) (p:Nat → Bool):o.after.all (fun e=>!Region.binds md e || p e.on) = (qg md o).all p:=by
 unfold qg
 rw [← Array.all_toList]
 induction o.after.toList with
 | nil=>rfl
 | cons e r ih =>
  rw [List.all_cons,ih,List.filter_cons]
  cases h:Region.binds md e <;> simp
theorem Jw (o:Oper) (p:Nat → Bool):o.after.any (fun e=>Region.binds md e && p e.on) = (qg md o).any p:=by
 unfold qg
 rw [← Array.any_toList]
 induction o.after.toList with
 | nil=>rfl
 | cons e r ih =>
  rw [List.any_cons,ih,List.filter_cons]
  cases h:Region.binds md e <;> simp
theorem ni : (mR md ops).2.length = ops.size:=by simp [mR]
theorem qh {o:Oper} (h:ops[i]? = some o):(mR md ops).2[i]? = some (qg md o,Cb md ops i o):=by
 have hi:=(aiJ.1 h).1
 unfold mR
 rw [ahN,List.getElem?_range hi,Option.map_some,h]
theorem qj (h:ops[i]? = none):(mR md ops).2[i]? = none:=by
 have hi:ops.size ≤ i:=Array.getElem?_eq_none_iff.1 h
 exact ai2 (by rw [ni];exact hi)
theorem F5 : ng (mR md ops).2 l.toList i = (!l.getD i true && ((ops[i]?).map (·.after.all fun e=>!Region.binds md e || l.getD e.on false)).getD false):=by
 unfold ng
 rw [gd]
 cases h:ops[i]? with
 | none=>rw [qj h];rfl
 | some o =>
  rw [qh h]
  simp only [Option.map_some,Option.getD_some]
  rw [← Af]
  simp only [gd]
theorem ready_eq : Region.ready md ops l = xV (mR md ops).2 l.toList:=by
 unfold Region.ready xV
 rw [ni]
 refine List.filter_congr (fun i _=>?_)
 rw [F5]
theorem free_eq : Region.free md ops l i = El (mR md ops).2 l.toList i:=by
 unfold Region.free El
 cases h:ops[i]? with
 | none=>rw [qj h]
 | some oi =>
  rw [qh h]
  simp only [Cb]
  rw [List.all_filter]
  congr 1
  funext j
  rw [gd]
  cases hj:ops[j]? with
  | none=>cases (j == i) <;> cases (l.toList.getD j true) <;> simp
  | some oj =>
   cases (j == i) <;> cases (l.toList.getD j true) <;> cases (oj.after.any (fun e=>Region.binds md e && e.on == i) || oi.apart ops oj) <;> simp_all
theorem Jy : Region.sZ md ops l = vX (mR md ops).2 l.toList:=by
 unfold Region.sZ vX
 rw [ni]
 congr 1
 funext j
 rw [gd]
 cases h:ops[j]? with
 | none=>rw [qj h]
 | some o =>
  rw [qh h]
  simp only
  rw [← Af]
  simp only [gd]
theorem Em : ∀ (fuel d:Nat),Region.kY md ops i fuel d = uG (mR md ops).2 i fuel d
 | 0,_=>rfl
 | fuel + 1,d=>by
  unfold Region.kY uG
  cases h:ops[d]? with
  | none=>rw [qj h]
  | some o =>
   rw [qh h]
   simp only
   rw [← Jw]
   congr 1
   funext e
   rw [Em fuel]
theorem QB : Region.lastB md ops l ds i = lastT (mR md ops).2 l.toList ds i:=by
 unfold Region.lastB lastT
 rw [ni]
 congr 1
 funext d
 rw [gd,Em]
theorem u7 (h:ng T.2 l.toList i = true) (hT:mR md ops = T):(Region.ready md ops l).contains i = true:=by
 subst hT
 rw [ready_eq]
 unfold xV
 rw [List.contains_iff_mem,ai6,aif]
 refine ⟨?_,h⟩
 unfold ng at h
 rw [ahK] at h
 cases hq:(mR md ops).2[i]? with
 | none=>rw [hq] at h;simp at h
 | some r=>exact (aiu.1 hq).1
theorem F6 (h:(l.toList.set i true == l'.toList) = true):(l.setIfInBounds i true == l') = true:=by
 rw [aie] at h ⊢
 apply Array.ext'
 rw [Array.toList_setIfInBounds]
 exact h
def aau (T:Bool × List (List Nat × List Nat)) (l l':List Bool) (i:Nat):Bool:=T.1 && El T.2 l i && ng T.2 l i && (l.set i true == l')
theorem jy (hT:mR md ops = T) (h:aau T l.toList l'.toList i = true):Qu md ops l l' i = true:=by
 simp only [aau,ahK] at h
 obtain ⟨⟨⟨h1,h2⟩,h3⟩,h4⟩:=h
 have h5:=u7 h3 hT
 have h6:=F6 h4
 subst hT
 simp only [Qu,ahK]
 exact ⟨⟨⟨h1,by rw [free_eq];exact h2⟩,h5⟩,h6⟩
def M8 (T:Bool × List (List Nat × List Nat)) (ds:List Nat) (l l':List Bool) (i:Nat):Bool:=T.1 && El T.2 l i && ng T.2 l i && vX T.2 l && lastT T.2 l ds i && (l.set i true == l')
theorem QC (hT:mR md ops = T) (h:M8 T ds l.toList l'.toList i = true):takeB md ops ds l l' i = true:=by
 simp only [M8,ahK] at h
 obtain ⟨⟨⟨⟨⟨h1,h2⟩,h3⟩,h4⟩,h5⟩,h6⟩:=h
 have h7:=u7 h3 hT
 have h8:=F6 h6
 subst hT
 simp only [takeB,ahK]
 exact ⟨⟨⟨⟨⟨h1,by rw [free_eq];exact h2⟩,h7⟩,by rw [Jy];exact h4⟩,by rw [QB];exact h5⟩,h8⟩
theorem F7 (hT:mR md ops = T) (h:(xV T.2 l.toList == [i] && l.toList.set i true == l'.toList) = true):BX md ops l l' i = true:=by
 simp only [ahK] at h
 obtain ⟨h1,h2⟩:=h
 subst hT
 simp only [BX,ahK]
 exact ⟨by rw [ready_eq];exact h1,F6 h2⟩
theorem H6 (hT:mR md ops = T) (h:(xV T.2 l.toList == []) = true):(Region.ready md ops l == []) = true:=by
 subst hT
 rw [ready_eq]
 exact h
def VQ (B:List Nat) (d:Nat):List Nat → Nat
 | []=>0
 | n :: r=>(2 ^ n ||| (if n < d then B.getD n 0 else 0)) ||| VQ B d r
def ql (T:List (List Nat × List Nat)) (B:List Nat):Bool:=(List.range T.length).all fun d=>match T[d]? with
 | some r=>(B.getD d 0 ||| VQ B d r.1) == VQ B d r.1
 | none=>false
theorem H7 {B:List Nat} {d i:Nat}:∀ {ns:List Nat},(VQ B d ns).testBit i = true → ∃ n ∈ ns,n = i ∨ (n < d ∧ (B.getD n 0).testBit i = true)
 | [],h=>by simp [VQ] at h
 | n :: r,h=>by
  unfold VQ at h
  rw [Nat.testBit_or,Nat.testBit_or,aiy,aiy] at h
  rcases h with (h | h) | h
  ·rw [Nat.testBit_two_pow] at h
   exact ⟨n,aiX,.inl (by simpa using h)⟩
  ·by_cases hn:n < d
   ·rw [ahC hn] at h
    exact ⟨n,aiX,.inr ⟨hn,h⟩⟩
   ·rw [ahD hn] at h
    simp at h
  ·obtain ⟨m,hm,h2⟩:=H7 h
   exact ⟨m,ais _ hm,h2⟩
theorem Ag {T:List (List Nat × List Nat)} {B:List Nat} (hB:ql T B = true):∀ (fuel d:Nat),d < fuel → d < T.length → (B.getD d 0).testBit i = true → uG T i fuel d = true
 | 0,d,h,_,_=>by omega
 | fuel + 1,d,h,hd,hb=>by
  have h1:=ahR.1 hB d (aif.2 hd)
  cases hr:T[d]? with
  | none=>rw [hr] at h1;simp at h1
  | some r =>
   rw [hr] at h1
   simp only [aie] at h1
   have h2:(VQ B d r.1).testBit i = true:=by rw [← h1,Nat.testBit_or,hb,Bool.true_or]
   obtain ⟨n,hn,h3⟩:=H7 h2
   unfold uG
   rw [hr]
   simp only
   rw [aiE]
   refine ⟨n,hn,?_⟩
   rcases h3 with rfl | ⟨h4,h5⟩
   ·simp
   ·rw [Ag hB fuel n (by omega) (by omega) h5,Bool.or_true]
def SS (T:List (List Nat × List Nat)) (B:List Nat) (l:List Bool) (ds:List Nat) (i:Nat):Bool:=ds.all fun d=>l.getD d true || (decide (d < T.length) && (B.getD d 0).testBit i)
def SX (T:Bool × List (List Nat × List Nat)) (B:List Nat) (ds:List Nat) (l l':List Bool) (i:Nat):Bool:=T.1 && El T.2 l i && ng T.2 l i && vX T.2 l && SS T.2 B l ds i && (l.set i true == l')
theorem xW {B:List Nat} (hT:mR md ops = T) (hB:ql T.2 B = true) (h:SX T B ds l.toList l'.toList i = true):takeB md ops ds l l' i = true:=by
 refine QC hT ?_
 simp only [SX,M8,ahK] at h ⊢
 obtain ⟨⟨⟨⟨⟨h1,h2⟩,h3⟩,h4⟩,h5⟩,h6⟩:=h
 refine ⟨⟨⟨⟨⟨h1,h2⟩,h3⟩,h4⟩,?_⟩,h6⟩
 unfold SS at h5
 unfold lastT
 rw [ahR] at h5 ⊢
 intro d hd
 have h7:=h5 d hd
 rw [aiy,ahK,ahZ] at h7
 rcases h7 with h7 | ⟨h8,h9⟩
 ·rw [h7,Bool.true_or]
 ·rw [Ag hB _ d h8 h8 h9,Bool.or_true]
theorem Ah {P:Program} {Q:Exit → Act → World → Prop} {S:World → Prop} {n:Nat} {a:Act} {w:World} {B:List Nat} (hT:mR md ops = T) (hB:ql T.2 B = true) (h:ah (mR md ops = T) → ah (ql T.2 B = true) → cK P md ops Q S ds n l a w):cK P md ops Q S ds n l a w:=h ⟨hT⟩ ⟨hB⟩
end
def qM : Code → Nat → Option (Array Oper)
 | .region id ops _,k=>if id == k then some ops else none
 | .seq a b,k=>match qM a k with
  | some o=>some o
  | none=>qM b k
 | .cond _ a b,k=>match qM a k with
  | some o=>some o
  | none=>qM b k
 | .block _ c,k=>qM c k
 | .loop c,k=>qM c k
 | .scope c,k=>qM c k
 | .rangeFunc _ _ a b,k=>match qM a k with
  | some o=>some o
  | none=>qM b k
 | _,_=>none
def opsOf (f:Func) (k:Nat):Array Oper:=((f.body.bind fun c=>qM c k)).getD #[]
end Go.Proofs.YtfokaoeinpnagaaW.dD
namespace Go.Proofs.YtfokaoeinpnagaaW.aR
theorem fH.one {α:Type} {R:α → List Value → Prop} {ps:List α} {cs:List Value} {p:α} {v:Value} (hp:R p [v]) (h:fH R 1 ps cs):fH R 1 (p :: ps) (v :: cs):=by
 refine ⟨by simp [h.1],fun j q hq=>?_⟩
 cases j with
 | zero =>
  simp only [List.getElem?_cons_zero,ahP] at hq
  subst hq
  simpa using hp
 | succ j =>
  simp only [List.getElem?_cons_succ] at hq
  have h1:=h.2 j q hq
  simpa [Nat.mul_one] using h1
theorem fH.front {α:Type} {R:α → List Value → Prop} {size:Nat} {ps:List α} {cs c all:List Value} {p:α} (hp:R p c) (hc:c.length = size) (h:fH R size ps cs) (ha:c ++ cs = all):fH R size (p :: ps) all:=by
 subst ha
 refine ⟨by rw [ahJ,hc,h.1,List.length_cons,aiq,Nat.add_comm],fun j q hq=>?_⟩
 cases j with
 | zero =>
  simp only [List.getElem?_cons_zero,ahP] at hq
  subst hq
  rw [aiL,aiM,ajq (by omega),ajh (by omega)]
  exact hp
 | succ j =>
  simp only [List.getElem?_cons_succ] at hq
  have h1:=h.2 j q hq
  rw [aiq,List.drop_append,List.drop_of_length_le (by rw [hc];exact Nat.le_add_left _ _),List.nil_append,hc,Nat.add_sub_cancel]
  exact h1
theorem fH.c2 {α:Type} {R:α → List Value → Prop} {ps:List α} {cs:List Value} {p:α} {va vb:Value} (hp:R p [va,vb]) (h:fH R 2 ps cs):fH R 2 (p :: ps) (va :: vb :: cs):=fH.front hp rfl h rfl
theorem fH.c3 {α:Type} {R:α → List Value → Prop} {ps:List α} {cs:List Value} {p:α} {va vb vc:Value} (hp:R p [va,vb,vc]) (h:fH R 3 ps cs):fH R 3 (p :: ps) (va :: vb :: vc :: cs):=fH.front hp rfl h rfl
theorem fH.c4 {α:Type} {R:α → List Value → Prop} {ps:List α} {cs:List Value} {p:α} {va vb vc vd:Value} (hp:R p [va,vb,vc,vd]) (h:fH R 4 ps cs):fH R 4 (p :: ps) (va :: vb :: vc :: vd :: cs):=fH.front hp rfl h rfl
theorem fH.c5 {α:Type} {R:α → List Value → Prop} {ps:List α} {cs:List Value} {p:α} {va vb vc vd ve:Value} (hp:R p [va,vb,vc,vd,ve]) (h:fH R 5 ps cs):fH R 5 (p :: ps) (va :: vb :: vc :: vd :: ve :: cs):=fH.front hp rfl h rfl
theorem fH.c6 {α:Type} {R:α → List Value → Prop} {ps:List α} {cs:List Value} {p:α} {va vb vc vd ve vf:Value} (hp:R p [va,vb,vc,vd,ve,vf]) (h:fH R 6 ps cs):fH R 6 (p :: ps) (va :: vb :: vc :: vd :: ve :: vf :: cs):=fH.front hp rfl h rfl
theorem fH.c7 {α:Type} {R:α → List Value → Prop} {ps:List α} {cs:List Value} {p:α} {va vb vc vd ve vf vg:Value} (hp:R p [va,vb,vc,vd,ve,vf,vg]) (h:fH R 7 ps cs):fH R 7 (p :: ps) (va :: vb :: vc :: vd :: ve :: vf :: vg :: cs):=fH.front hp rfl h rfl
theorem fH.c8 {α:Type} {R:α → List Value → Prop} {ps:List α} {cs:List Value} {p:α} {va vb vc vd ve vf vg vh:Value} (hp:R p [va,vb,vc,vd,ve,vf,vg,vh]) (h:fH R 8 ps cs):fH R 8 (p :: ps) (va :: vb :: vc :: vd :: ve :: vf :: vg :: vh :: cs):=fH.front hp rfl h rfl
theorem fH.c9 {α:Type} {R:α → List Value → Prop} {ps:List α} {cs:List Value} {p:α} {va vb vc vd ve vf vg vh vi:Value} (hp:R p [va,vb,vc,vd,ve,vf,vg,vh,vi]) (h:fH R 9 ps cs):fH R 9 (p :: ps) (va :: vb :: vc :: vd :: ve :: vf :: vg :: vh :: vi :: cs):=fH.front hp rfl h rfl
theorem fH.c10 {α:Type} {R:α → List Value → Prop} {ps:List α} {cs:List Value} {p:α} {va vb vc vd ve vf vg vh vi vj:Value} (hp:R p [va,vb,vc,vd,ve,vf,vg,vh,vi,vj]) (h:fH R 10 ps cs):fH R 10 (p :: ps) (va :: vb :: vc :: vd :: ve :: vf :: vg :: vh :: vi :: vj :: cs):=fH.front hp rfl h rfl
end Go.Proofs.YtfokaoeinpnagaaW.aR
namespace Go.Proofs.YtfokaoeinpnagaaW.dD
def up (b:Nat → Bool) (i:Nat):Nat → Bool:=fun j=>if j = i then true else b j
section
variable {P : Program} {ops:Array Oper} {Q:Exit → Act → World → Prop} {md:Region.Mode} {T:Bool × List (List Nat × List Nat)} {B:List Nat} {O:List Nat} {b:Nat → Bool} {i j n:Nat}
end
end Go.Proofs.YtfokaoeinpnagaaW.dD
namespace Go.Proofs.YtfokaoeinpnagaaW.aR
open Go.RowKit
section
variable {P : Program} {ops:Array Oper} {rest:List Oper} {o:Oper} {a:Act} {Q:Exit → Act → World → Prop} {W:World}
theorem F8 (hw:Region.wanted o (yielded ops a.tmps) = true) (h:wpList P ops Q ({ o with guard:=none } :: rest) a W):wpList P ops Q (o :: rest) a W:=by
 have h1:Region.wanted { o with guard:=none } (yielded ops a.tmps) = true:=rfl
 unfold wpList at h ⊢
 rw [ahC h1] at h
 rw [ahC hw]
 exact h
end
end Go.Proofs.YtfokaoeinpnagaaW.aR
namespace Go.Proofs.Ytfokaoeinpnagaa.ZQ
section
open Go.RowKit Go.Proofs.YtfokaoeinpnagaaW.aR Go.Proofs.YtfokaoeinpnagaaW.dD Go.Proofs.YtfokaoeinpnagaaW.eB
attribute [local go_sem] jD jE kN kP iV iW jF jG
def aav : Option Int → Value
 | none=>.nilIface
 | some c=>.iface 0 (.int .i64 c)
theorem aY : aav none = .nilIface:=rfl
theorem aZ (c:Int):aav (some c) = .iface 0 (.int .i64 c):=rfl
theorem M9 : (Try.prog.info? 9).map (fun i=>(i.zero,i.size,i.bytes)) = some (some (.string ⟨#[]⟩),1,16):=by kernel_rfl
end
section
open Go.RowKit Go.Proofs.YtfokaoeinpnagaaW.aR Go.Proofs.YtfokaoeinpnagaaW.dD Go.Proofs.YtfokaoeinpnagaaW.eB
attribute [local go_sem] jD jE kN kP iV iW jF jG
mutual
def bD.l0 : Nat → ByteArray → List ByteArray → Option (List ByteArray × Bool)
 | 0,_,_=>none
 | k + 1,x0,x4=>if (x0.size:Int) > 0 then (bD.j1 k x0 x4 (x0.toList != ([0]:List UInt8))) else (bD.j1 k x0 x4 false)
def bD.j1 : Nat → ByteArray → List ByteArray → Bool → Option (List ByteArray × Bool)
 | 0,_,_,_=>none
 | k + 1,x0,x4,x15=>if x15 = true then (if 0 < (x0.size:Int) then (if (wrap64 (bt x0 0)) < 1 then (some (([]:List ByteArray),false)) else (if (wrap64 (bt x0 0)) > 63 then (some (([]:List ByteArray),false)) else (if (wrap64 ((wrap64 (bt x0 0)) + 1)) ≥ (x0.size:Int) then (some (([]:List ByteArray),false)) else (if 1 ≤ (wrap64 (1 + (wrap64 (bt x0 0)))) then (if (wrap64 (1 + (wrap64 (bt x0 0)))) ≤ (x0.size:Int) then (if x4.length < 8796093022208 then (if 0 ≤ (wrap64 (1 + (wrap64 (bt x0 0)))) then (bD.l0 k (x0.extract ((wrap64 (1 + (wrap64 (bt x0 0)))):Int).toNat x0.size) (x4 ++ [x0.extract 1 ((wrap64 (1 + (wrap64 (bt x0 0)))):Int).toNat])) else (none)) else (none)) else (none)) else (none))))) else (none)) else (some (x4,(x0.toList == ([0]:List UInt8))))
end
def bD.f (k:Nat) (a0:ByteArray):Option (List ByteArray × Bool):=if (a0.size:Int) > 255 then (some (([]:List ByteArray),false)) else (bD.l0 k a0 ([]:List ByteArray))
def bD.T8 : Bool × List (List Nat × List Nat):=(true,[([],[]),([],[]),([],[]),([2],[2]),([1,3],[1,3]),([4],[4]),([0,5],[0,5]),([],[]),([],[]),([8],[8]),([7,9],[7,9]),([6,6,0,1,2,3,4,5,6],[0,6]),([10,11,0,1,2,3,4,5,6,7,8,9,10,11],[1,7,10])])
def bD.B8 : List Nat:=[0,0,0,4,14,30,63,0,0,256,896,127,4095]
theorem bD.aeV : mR .any (opsOf Try.f87 8) = bD.T8:=by kernel_rfl
theorem bD.aaw : ql bD.T8.2 bD.B8 = true:=by kernel_rfl
theorem bD.calls (k:Nat) (a0:ByteArray) (r1:List ByteArray) (r2:Bool) (w:World) (h:bD.f k a0 = some (r1,r2)) :
  Calls Try.prog 87 #[.string a0] w fun e w'=>∃ SY:Value,e = .returned (.tuple #[SY,.bool r2]) ∧ Kd.R Kd.string 9 w' w.heap.size (fun _=>True) SY r1 ∧ Below w.heap.size w w':=by
 have HB:=ah.mk (Below.refl w.heap.size w)
 have H:(if (a0.size:Int) > 255 then (some (([]:List ByteArray),false)) else (bD.l0 k a0 ([]:List ByteArray))) = some (r1,r2):=h
 clear h
 by_cases c2:(a0.size:Int) > 255
 ·rw [ahC c2] at H
  have zl:decide (255 < (a0.size:Int)) = true:=ahE c2
  have Jz:decide (255 < a0.size) = true:=ahE (by omega)
  clear c2
  simp only [ahP,ahU] at H
  obtain ⟨rfl,rfl⟩:=H
  go_enter Try.func87,Try.ntmps87
  go_wp2
  go_ret2
  exact ⟨_,by first | rfl | (simp [aY,aZ] <;> rfl) | (simp [*,aY,aZ] <;> rfl),by first | exact Kd.jR _ _ _ _ _ | exact Kd.mq _ _ _ _ _ | exact Kd.mD _ _ _ _ _ | exact Kd.l9 _ _ _ _ _ | exact Kd.mh _ _ _ _ _,by repeat (first | exact HB.out | apply ak | apply aj | apply av)⟩
 ·rw [ahD c2] at H
  have zl:decide (255 < (a0.size:Int)) = false:=ahH c2
  have Jz:decide (255 < a0.size) = false:=ahH (by omega)
  clear c2
  have H':=ah.mk H
  clear H
  go_enter Try.func87,Try.ntmps87
  go_wp2
  go_loopg [0,4] k (fun kq v0 v4 w'=>∃ (bC:ByteArray) (xX:List ByteArray),v0 = .string bC ∧ ah (bD.l0 kq bC xX = some (r1,r2)) ∧ ah (kq ≤ k) ∧ ah (Kd.R Kd.string 9 w' w.heap.size (fun _=>True) v4 xX) ∧ ah (Below w.heap.size w w'))
  case atStart=>exact ⟨(a0),(([]:List ByteArray)),(by first | rfl | (simp;done) | (simp [*];done) | (simp [B.dN];done) | (simp [B.dO];done)),H',⟨ahG _⟩,⟨by first | exact Kd.jR _ _ _ _ _ | exact Kd.mq _ _ _ _ _ | exact Kd.mD _ _ _ _ _ | exact Kd.l9 _ _ _ _ _ | exact Kd.mh _ _ _ _ _⟩,⟨by repeat (first | exact HB.out | apply ak | apply aj | apply av)⟩⟩
  case round =>
   clear H'
   try clear c2
   try clear zl
   try clear Jz
   try clear p2
   obtain ⟨bC,xX,rfl,HA,Oh,qD,HB⟩:=hrel
   cases gk with
   | zero=>exact absurd HA.out (by simp [bD.l0])
   | succ k1 =>
    have H:=HA.out
    clear HA
    simp only [bD.l0] at H
    have HC3:=ah.mk H
    clear H
    go_upto_region 4 with (fail)
    go_cut [15] (fun v15 wc=>∃ (kq:Nat) (H8:Bool),v15 = .bool H8 ∧ ah (bD.j1 kq bC xX H8 = some (r1,r2)) ∧ ah (kq ≤ k1) ∧ ah (Kd.R Kd.string 9 wc w.heap.size (fun _=>True) u4 xX) ∧ ah (Below w.heap.size w wc))
    case first =>
     have H:=HC3.out
     clear HC3
     by_cases c4:(bC.size:Int) > 0
     ·rw [ahC c4] at H
      have Cc:decide (0 < (bC.size:Int)) = true:=ahE c4
      have Na:decide (0 < bC.size) = true:=ahE (by omega)
      clear c4
      (first | rw [Cc] | rw [aax] | (simp only [gY,iQ];rw [Cc]) | skip)
      have H':=ah.mk H
      clear H
      go_wp2
      go_meet
      case rel=>exact ⟨_,((bC.toList != ([0]:List UInt8))),(by first | rfl | (simp;done) | (simp [*];done) | (simp [B.dN];done) | (simp [B.dO];done)),H',⟨by have:=Oh.out;first | omega | exact ahG _⟩,⟨by (with_reducible repeat (first | apply Kd.fV | apply Kd.gN | apply Kd.gU));exact qD.out⟩,⟨by repeat (first | exact HB.out | apply ak | apply aj | apply av)⟩⟩
     ·rw [ahD c4] at H
      have Cc:decide (0 < (bC.size:Int)) = false:=ahH c4
      have Na:decide (0 < bC.size) = false:=ahH (by omega)
      clear c4
      (first | rw [Cc] | rw [aax] | (simp only [gY,iQ];rw [Cc]) | skip)
      have H':=ah.mk H
      clear H
      go_wp2
      go_meet
      case rel=>exact ⟨_,(false),(by first | rfl | (simp;done) | (simp [*];done) | (simp [B.dN];done) | (simp [B.dO];done)),H',⟨by have:=Oh.out;first | omega | exact ahG _⟩,⟨by (with_reducible repeat (first | apply Kd.fV | apply Kd.gN | apply Kd.gU));exact qD.out⟩,⟨by repeat (first | exact HB.out | apply ak | apply aj | apply av)⟩⟩
    case rest =>
     clear HC3
     try clear c2
     try clear zl
     try clear Jz
     try clear p2
     try clear c4
     try clear Cc
     try clear Na
     try clear aax
     try clear p2
     obtain ⟨kq,H8,rfl,HA,HJ2,qD,HB⟩:=hcut
     cases kq with
     | zero=>exact absurd HA.out (by simp [bD.j1])
     | succ kj2 =>
      have H:=HA.out
      clear HA
      simp only [bD.j1] at H
      by_cases c5:H8 = true
      ·subst c5
       have H1:(if 0 < (bC.size:Int) then (if (wrap64 (bt bC 0)) < 1 then (some (([]:List ByteArray),false)) else (if (wrap64 (bt bC 0)) > 63 then (some (([]:List ByteArray),false)) else (if (wrap64 ((wrap64 (bt bC 0)) + 1)) ≥ (bC.size:Int) then (some (([]:List ByteArray),false)) else (if 1 ≤ (wrap64 (1 + (wrap64 (bt bC 0)))) then (if (wrap64 (1 + (wrap64 (bt bC 0)))) ≤ (bC.size:Int) then (if xX.length < 8796093022208 then (if 0 ≤ (wrap64 (1 + (wrap64 (bt bC 0)))) then (bD.l0 kj2 (bC.extract ((wrap64 (1 + (wrap64 (bt bC 0)))):Int).toNat bC.size) (xX ++ [bC.extract 1 ((wrap64 (1 + (wrap64 (bt bC 0)))):Int).toNat])) else (none)) else (none)) else (none)) else (none))))) else (none)) = some (r1,r2):=by rw [ahC rfl] at H;exact H
       clear H
       have H:=H1
       clear H1
       by_cases c6:0 < (bC.size:Int)
       ·rw [ahC c6] at H
        have F9:decide (0 < (bC.size:Int)) = true:=ahE c6
        have JA:decide (0 < bC.size) = true:=ahE (by omega)
        clear c6
        by_cases c8:(wrap64 (bt bC 0)) < 1
        ·rw [ahC c8] at H
         have JB:decide ((wrap64 (bt bC 0)) < 1) = true:=ahE c8
         (try (have JC:decide (((bt bC 0)) < 1) = true:=by have h_:decide ((wrap64 (bt bC 0)) < 1) = true:=ahE c8;rw [B.jH (by omega) (by omega)] at h_;exact h_))
         clear c8
         simp only [ahP,ahU] at H
         obtain ⟨rfl,rfl⟩:=H
         have p7:0 ≤ (0:Int):=(by omega)
         have q7:0 < bC.size:=(by have:(0:Int) < (bC.size:Int):=ahY (by first | (with_reducible assumption) | assumption);omega)
         have hx7:∀ h:0 < bC.size,((bC[0]'h).toNat:Int) = bt bC 0:=oH bC 0
         clear p7
         have qi7:(0 < (bC.size:Int)) = True:=ahM (ahY (by first | (with_reducible assumption) | assumption))
         replace q7:=ahM q7
         go_wp2
         go_ret2
         exact ⟨_,by first | rfl | (simp [aY,aZ] <;> rfl) | (simp [*,aY,aZ] <;> rfl),by first | exact Kd.jR _ _ _ _ _ | exact Kd.mq _ _ _ _ _ | exact Kd.mD _ _ _ _ _ | exact Kd.l9 _ _ _ _ _ | exact Kd.mh _ _ _ _ _,by repeat (first | exact HB.out | apply ak | apply aj | apply av)⟩
        ·rw [ahD c8] at H
         have JB:decide ((wrap64 (bt bC 0)) < 1) = false:=ahH c8
         (try (have JC:decide (((bt bC 0)) < 1) = false:=by have h_:decide ((wrap64 (bt bC 0)) < 1) = false:=ahH c8;rw [B.jH (by omega) (by omega)] at h_;exact h_))
         clear c8
         by_cases c9:(wrap64 (bt bC 0)) > 63
         ·rw [ahC c9] at H
          have Ga:decide (63 < (wrap64 (bt bC 0))) = true:=ahE c9
          (try (have Nb:decide (63 < ((bt bC 0))) = true:=by have h_:decide (63 < (wrap64 (bt bC 0))) = true:=ahE c9;rw [B.jH (by omega) (by omega)] at h_;exact h_))
          clear c9
          simp only [ahP,ahU] at H
          obtain ⟨rfl,rfl⟩:=H
          have p7:0 ≤ (0:Int):=(by omega)
          have q7:0 < bC.size:=(by have:(0:Int) < (bC.size:Int):=ahY (by first | (with_reducible assumption) | assumption);omega)
          have hx7:∀ h:0 < bC.size,((bC[0]'h).toNat:Int) = bt bC 0:=oH bC 0
          clear p7
          have qi7:(0 < (bC.size:Int)) = True:=ahM (ahY (by first | (with_reducible assumption) | assumption))
          replace q7:=ahM q7
          go_wp2
          go_ret2
          exact ⟨_,by first | rfl | (simp [aY,aZ] <;> rfl) | (simp [*,aY,aZ] <;> rfl),by first | exact Kd.jR _ _ _ _ _ | exact Kd.mq _ _ _ _ _ | exact Kd.mD _ _ _ _ _ | exact Kd.l9 _ _ _ _ _ | exact Kd.mh _ _ _ _ _,by repeat (first | exact HB.out | apply ak | apply aj | apply av)⟩
         ·rw [ahD c9] at H
          have Ga:decide (63 < (wrap64 (bt bC 0))) = false:=ahH c9
          (try (have Nb:decide (63 < ((bt bC 0))) = false:=by have h_:decide (63 < (wrap64 (bt bC 0))) = false:=ahH c9;rw [B.jH (by omega) (by omega)] at h_;exact h_))
          clear c9
          by_cases c10:(wrap64 ((wrap64 (bt bC 0)) + 1)) ≥ (bC.size:Int)
          ·rw [ahC c10] at H
           have En:decide ((bC.size:Int) ≤ (wrap64 ((wrap64 (bt bC 0)) + 1))) = true:=ahE c10
           (try (have H9:decide ((bC.size:Int) ≤ ((((bt bC 0)) + 1))) = true:=by have h_:decide ((bC.size:Int) ≤ (wrap64 ((wrap64 (bt bC 0)) + 1))) = true:=ahE c10;rw [B.jH (by omega) (by omega)] at h_;rw [B.jH (by omega) (by omega)] at h_;exact h_))
           clear c10
           simp only [ahP,ahU] at H
           obtain ⟨rfl,rfl⟩:=H
           have p7:0 ≤ (0:Int):=(by omega)
           have q7:0 < bC.size:=(by have:(0:Int) < (bC.size:Int):=ahY (by first | (with_reducible assumption) | assumption);omega)
           have hx7:∀ h:0 < bC.size,((bC[0]'h).toNat:Int) = bt bC 0:=oH bC 0
           clear p7
           have qi7:(0 < (bC.size:Int)) = True:=ahM (ahY (by first | (with_reducible assumption) | assumption))
           replace q7:=ahM q7
           go_wp2
           go_ret2
           exact ⟨_,by first | rfl | (simp [aY,aZ] <;> rfl) | (simp [*,aY,aZ] <;> rfl),by first | exact Kd.jR _ _ _ _ _ | exact Kd.mq _ _ _ _ _ | exact Kd.mD _ _ _ _ _ | exact Kd.l9 _ _ _ _ _ | exact Kd.mh _ _ _ _ _,by repeat (first | exact HB.out | apply ak | apply aj | apply av)⟩
          ·rw [ahD c10] at H
           have En:decide ((bC.size:Int) ≤ (wrap64 ((wrap64 (bt bC 0)) + 1))) = false:=ahH c10
           (try (have H9:decide ((bC.size:Int) ≤ ((((bt bC 0)) + 1))) = false:=by have h_:decide ((bC.size:Int) ≤ (wrap64 ((wrap64 (bt bC 0)) + 1))) = false:=ahH c10;rw [B.jH (by omega) (by omega)] at h_;rw [B.jH (by omega) (by omega)] at h_;exact h_))
           clear c10
           by_cases c11:1 ≤ (wrap64 (1 + (wrap64 (bt bC 0))))
           ·rw [ahC c11] at H
            have S9:=ahM c11
            have aay:decide (1 ≤ (wrap64 (1 + (wrap64 (bt bC 0))))) = true:=ahE c11
            by_cases c12:(wrap64 (1 + (wrap64 (bt bC 0)))) ≤ (bC.size:Int)
            ·rw [ahC c12] at H
             have Ta:=ahM c12
             have Tc:decide ((wrap64 (1 + (wrap64 (bt bC 0)))) ≤ (bC.size:Int)) = true:=ahE c12
             by_cases c13:xX.length < 8796093022208
             ·rw [ahC c13] at H
              have aaz:=ah.mk c13
              clear c13
              obtain ⟨y101,hy101⟩:∃ y_:List ByteArray,y_ = (xX ++ [bC.extract 1 ((wrap64 (1 + (wrap64 (bt bC 0)))):Int).toNat]):=⟨_,rfl⟩
              replace H:(if 0 ≤ (wrap64 (1 + (wrap64 (bt bC 0)))) then (bD.l0 kj2 (bC.extract ((wrap64 (1 + (wrap64 (bt bC 0)))):Int).toNat bC.size) y101) else (none)) = some (r1,r2):=by first | (rw [hy101];with_reducible exact H) | (have Nc:=(Option.bind_some _ _).symm.trans H;rw [hy101];with_reducible exact Nc) | (have Nc:=(Option.bind_some _ _).symm.trans H;with_reducible exact Nc) | with_reducible exact H | (rw [hy101];exact H) | exact H
              have Td:=ah.mk hy101
              clear hy101
              obtain ⟨Ce,pJ⟩:∃ j_:Int,(wrap64 (1 + (wrap64 (bt bC 0)))) = j_:=⟨_,rfl⟩
              replace H:(if 0 ≤ (Ce) then (bD.l0 kj2 (bC.extract ((Ce):Int).toNat bC.size) y101) else (none)) = some (r1,r2):=by first | (rw [pJ] at H;exact H) | (simp only [pJ] at H ⊢;exact H)
              (try rw [pJ] at S9)
              (try rw [pJ] at aay)
              (try rw [pJ] at c11)
              (try rw [pJ] at Ta)
              (try rw [pJ] at Tc)
              (try rw [pJ] at c12)
              (try rw [pJ] at Td)
              have aeW:(IntKind.i64.wrap (1 + (wrap64 (bt bC 0)))) = Ce:=(gY _).trans pJ
              by_cases c15:0 ≤ (Ce)
              ·rw [ahC c15] at H
               have agu:=ahM c15
               have agv:decide (0 ≤ (Ce)) = true:=ahE c15
               clear c15
               have agw:=ahM (ahY (by first | (with_reducible assumption) | assumption):(Ce) ≤ (bC.size:Int))
               have H':=ah.mk H
               clear H
               have p7:0 ≤ (0:Int):=(by omega)
               have q7:0 < bC.size:=(by have:(0:Int) < (bC.size:Int):=ahY (by first | (with_reducible assumption) | assumption);omega)
               have hx7:∀ h:0 < bC.size,((bC[0]'h).toNat:Int) = bt bC 0:=oH bC 0
               clear p7
               have qi7:(0 < (bC.size:Int)) = True:=ahM (ahY (by first | (with_reducible assumption) | assumption))
               replace q7:=ahM q7
               try go_wp2
               have iH:=ah.mk (Kd.gU qD.out)
               have ko:=ah.mk (av HB.out)
               clear qD
               clear HB
               have qD:=iH
               have HB:=ko
               clear iH ko
               refine MW (n:=13) (S:=fun w'=>True) (ds:=[]) #[false,false,false,false,false,false,false,false,false,false,false,false,false] (by kernel_rfl) rfl rfl trivial (fun hHeld=>?_);refine Ah bD.aeV bD.aaw (fun vQ HW_=>?_)
               generalize wc.drew = w17 at qD HB hHeld ⊢
               refine lq (i:=0) (N:=some 32) (v:=?_) (a':=?_) #[true,false,false,false,false,false,false,false,false,false,false,false,false] rfl rfl (jy vQ.out (by kernel_rfl)) (fun _ _ _ h=>h) (Or.inl ⟨by rfl,?_⟩) ?_ ?_
               rotate_left
               ·intro w'
                go_simp
                with_reducible rfl
               rotate_left
               ·simp only [Act.put,aii,List.set_cons_zero,List.set_cons_succ,gY,iQ]
                rfl
               refine lq (i:=1) (N:=some 33) (v:=?_) (a':=?_) #[true,true,false,false,false,false,false,false,false,false,false,false,false] rfl rfl (jy vQ.out (by kernel_rfl)) (fun _ _ _ h=>h) (Or.inl ⟨by rfl,?_⟩) ?_ ?_
               rotate_left
               ·intro w'
                go_simp
                with_reducible rfl
               rotate_left
               ·simp only [Act.put,aii,List.set_cons_zero,List.set_cons_succ,gY,iQ]
                rfl
               refine lq (i:=2) (N:=some 34) (v:=?_) (a':=?_) #[true,true,true,false,false,false,false,false,false,false,false,false,false] rfl rfl (jy vQ.out (by kernel_rfl)) (fun _ _ _ h=>h) (Or.inl ⟨by rfl,?_⟩) ?_ ?_
               rotate_left
               ·intro w'
                go_simp
                with_reducible rfl
               rotate_left
               ·simp only [Act.put,aii,List.set_cons_zero,List.set_cons_succ,gY,iQ]
                rfl
               refine lq (i:=3) (N:=some 35) (v:=?_) (a':=?_) #[true,true,true,true,false,false,false,false,false,false,false,false,false] rfl rfl (jy vQ.out (by kernel_rfl)) (fun _ _ _ h=>h) (Or.inl ⟨by rfl,?_⟩) ?_ ?_
               rotate_left
               ·intro w'
                go_simp
                with_reducible rfl
               rotate_left
               ·simp only [Act.put,aii,List.set_cons_zero,List.set_cons_succ,gY,iQ]
                rfl
               refine lq (i:=4) (N:=some 36) (v:=?_) (a':=?_) #[true,true,true,true,true,false,false,false,false,false,false,false,false] rfl rfl (jy vQ.out (by kernel_rfl)) (fun _ _ _ h=>h) (Or.inl ⟨by rfl,?_⟩) ?_ ?_
               rotate_left
               ·intro w'
                go_simp
                with_reducible rfl
               rotate_left
               ·simp only [Act.put,aii,List.set_cons_zero,List.set_cons_succ,gY,iQ]
                rfl
               refine lq (i:=7) (N:=some 39) (v:=?_) (a':=?_) #[true,true,true,true,true,false,false,true,false,false,false,false,false] rfl rfl (jy vQ.out (by kernel_rfl)) (fun _ _ _ h=>h) (Or.inl ⟨by rfl,?_⟩) ?_ ?_
               rotate_left
               ·intro w'
                go_simp
                with_reducible rfl
               rotate_left
               ·simp only [Act.put,aii,List.set_cons_zero,List.set_cons_succ,gY,iQ]
                rfl
               refine lq (i:=8) (N:=some 40) (v:=?_) (a':=?_) #[true,true,true,true,true,false,false,true,true,false,false,false,false] rfl rfl (jy vQ.out (by kernel_rfl)) (fun _ _ _ h=>h) (Or.inl ⟨by rfl,?_⟩) ?_ ?_
               rotate_left
               ·intro w'
                go_simp
                with_reducible rfl
               rotate_left
               ·simp only [Act.put,aii,List.set_cons_zero,List.set_cons_succ,gY,iQ]
                rfl
               refine lq (i:=9) (N:=some 41) (v:=?_) (a':=?_) #[true,true,true,true,true,false,false,true,true,true,false,false,false] rfl rfl (jy vQ.out (by kernel_rfl)) (fun _ _ _ h=>h) (Or.inl ⟨by rfl,?_⟩) ?_ ?_
               rotate_left
               ·intro w'
                go_simp
                with_reducible rfl
               rotate_left
               ·simp only [Act.put,aii,List.set_cons_zero,List.set_cons_succ,gY,iQ]
                rfl
               refine lq (i:=10) (N:=some 42) (v:=?_) (a':=?_) #[true,true,true,true,true,false,false,true,true,true,true,false,false] rfl rfl (jy vQ.out (by kernel_rfl)) (fun _ _ _ h=>h) (Or.inl ⟨by rfl,?_⟩) ?_ ?_
               rotate_left
               ·intro w'
                go_simp
                with_reducible rfl
               rotate_left
               ·simp only [Act.put,aii,List.set_cons_zero,List.set_cons_succ,gY,iQ]
                rfl
               refine VL (i:=5) (N:=some 37) #[true,true,true,true,true,true,false,true,true,true,true,false,false] rfl rfl (F7 vQ.out (by kernel_rfl)) (by decide) (fun K hK=>?_)
               refine VN (w1:=?_) (v:=?_) (by rfl) rfl ?_ ?_
               rotate_left 2
               ·go_simp
                constructor
                ·rfl
                ·rfl
               refine hK.out _ _ trivial (fun hHeld=>?_)
               clear hK K
               refine SQ (a':=?_) ?_ ?_
               rotate_left
               ·show Act.put _ (some 37) _ = _
                simp only [Act.put,aii,List.set_cons_zero,List.set_cons_succ,gY,iQ]
                rfl
               refine VL (i:=6) (N:=some 38) #[true,true,true,true,true,true,true,true,true,true,true,false,false] rfl rfl (F7 vQ.out (by kernel_rfl)) (by decide) (fun K hK=>?_)
               refine Kd.zf Kd.string (w0:=w) w.heap.size (by rfl) (.tmp 32) (.tmp 37) 25 9 (.string ⟨#[]⟩) 16 rfl Try.underlying25 M9 rfl (by decide) (by omega) u4 xX (bC.extract 1 ((Ce):Int).toNat) [.string (bC.extract 1 ((Ce):Int).toNat)] (fun _=>True) (fun _=>False) rfl rfl ?aP (fun _ hk=>hk.elim) ?aF ?aO ?aB ?aS ?aL ?_
               (case aP=>exact rfl)
               (case aB=>exact (by repeat first | exact HB.out | apply ak | apply aj | apply av))
               (case aF=>exact (fun _ _=>trivial))
               (case aO=>exact (by (with_reducible repeat (first | apply Kd.fV | apply Kd.gN | apply Kd.gU));exact qD.out))
               (case aS=>exact (dJ (by repeat first | exact HB.out | apply ak | apply aj | apply av)))
               (case aL=>have:=aaz.out;omega)
               intro ahq w18 ho hb hg hat
               rw [← Td.out] at ho
               have iH:=ah.mk (hb)
               have ko:=ah.mk (ho)
               clear HB
               clear qD
               have HB:=iH
               have aaA:=ko
               clear iH ko
               clear ho hb hg hat
               refine hK.out _ _ trivial (fun hHeld=>?_)
               clear hK K
               refine SQ (a':=?_) ?_ ?_
               rotate_left
               ·show Act.put _ (some 38) _ = _
                simp only [Act.put,aii,List.set_cons_zero,List.set_cons_succ,gY,iQ]
                rfl
               refine lq (i:=11) (N:=some 4) (v:=?_) (a':=?_) #[true,true,true,true,true,true,true,true,true,true,true,true,false] rfl rfl (jy vQ.out (by kernel_rfl)) (fun _ _ _ h=>h) (Or.inl ⟨by rfl,?_⟩) ?_ ?_
               rotate_left
               ·intro w'
                go_simp
                with_reducible rfl
               rotate_left
               ·simp only [Act.put,aii,List.set_cons_zero,List.set_cons_succ,gY,iQ]
                rfl
               refine lq (i:=12) (N:=some 0) (v:=?_) (a':=?_) #[true,true,true,true,true,true,true,true,true,true,true,true,true] rfl rfl (jy vQ.out (by kernel_rfl)) (fun _ _ _ h=>h) (Or.inl ⟨by rfl,?_⟩) ?_ ?_
               rotate_left
               ·intro w'
                go_simp
                with_reducible rfl
               rotate_left
               ·simp only [Act.put,aii,List.set_cons_zero,List.set_cons_succ,gY,iQ]
                rfl
               refine SN (H6 vQ.out (by kernel_rfl)) ?_
               try go_wp2
               go_roundg kj2
               case measure=>have:=Oh.out;have:=HJ2.out;omega
               case rel=>exact ⟨(bC.extract ((Ce):Int).toNat bC.size),(y101),(by first | rfl | (simp;done) | (simp only [← pJ] <;> (first | rfl | simp)) | (simp [*];done)),H',⟨by have:=Oh.out;have:=HJ2.out;omega⟩,⟨by (with_reducible repeat (first | apply Kd.fV | apply Kd.gN | apply Kd.gU));exact aaA.out⟩,⟨by repeat (first | exact HB.out | apply ak | apply aj | apply av)⟩⟩
              ·rw [ahD c15] at H
               exact absurd H (by simp)
             ·rw [ahD c13] at H
              exact absurd H (by simp)
            ·rw [ahD c12] at H
             exact absurd H (by simp)
           ·rw [ahD c11] at H
            exact absurd H (by simp)
       ·rw [ahD c6] at H
        exact absurd H (by simp)
      ·replace c5:=aiB.mpr c5
       subst c5
       have H1:(some (xX,(bC.toList == ([0]:List UInt8)))) = some (r1,r2):=by rw [ahD (show ¬ (false = true) by decide)] at H;exact H
       clear H
       have H:=H1
       clear H1
       simp only [ahP,ahU] at H
       obtain ⟨rfl,rfl⟩:=H
       go_wp2
       go_ret2
       exact ⟨_,by first | rfl | (simp [aY,aZ] <;> rfl) | (simp [*,aY,aZ] <;> rfl),by (with_reducible repeat (first | apply Kd.fV | apply Kd.gN | apply Kd.gU));exact qD.out,by repeat (first | exact HB.out | apply ak | apply aj | apply av)⟩
def fI.f (k:Nat) (a0:ByteArray):Option (Bool):=(bD.f k a0).bind fun Nf=>(some Nf.2)
theorem fI.calls (k:Nat) (a0:ByteArray) (r:Bool) (w:World) (h:fI.f k a0 = some r) :
  Calls Try.prog 70 #[.string a0] w fun e w'=>e = .returned (.bool r) ∧ Below w.heap.size w w':=by
 have HB:=ah.mk (Below.refl w.heap.size w)
 have H:((bD.f k a0).bind fun Nf=>(some Nf.2)) = some r:=h
 clear h
 replace H:=zbm H
 obtain ⟨⟨aeX,t105⟩,Ng,H⟩:=H
 replace H:(some t105) = some r:=H
 have A2:=ah.mk Ng
 clear Ng
 obtain rfl:=aia H
 go_enter Try.func70,Try.ntmps70
 go_wp2_with (first | ((with_reducible refine eG (f:=87) rfl ?_);refine jP (some 7) rfl rfl Try.func87 (by kernel_rfl) rfl #[.string a0] rfl (by (try simp only [aix,ahO,ahV]) <;> rfl) ?_;(with_reducible refine (bD.calls k a0 aeX t105 _ A2.out).mono ?_);rintro e w3 ⟨ahr,rfl,ho0,hb⟩;refine ⟨_,rfl,?_⟩;have iH:=ah.mk (Kd.sS ho0 (dJ (by repeat first | exact HB.out | apply ak | apply aj | apply av)));have ko:=ah.mk (dA (by repeat first | exact HB.out | apply ak | apply aj | apply av) hb);clear HB;have agx:=iH;have HB:=ko;clear iH ko;(try clear hb);(try clear hb2);(try clear hk);(try clear hi);(try clear ho0)))
 go_ret
 exact ⟨by first | rfl | (simp [aY,aZ] <;> rfl) | (simp [*,aY,aZ] <;> rfl),by repeat (first | exact HB.out | apply ak | apply aj | apply av)⟩
def mH.f (a0:Int):Option (Int):=if a0 ≥ 65 then (if a0 ≤ 90 then (some ((a0 + 32) % 256)) else (some a0)) else (some a0)
theorem mH.calls (a0:Int) (r:Int) (w:World) (h:mH.f a0 = some r) :
  Calls Try.prog 88 #[.int .u8 a0] w fun e w'=>e = .returned (.int .u8 r) ∧ bL w w':=by
 have H:(if a0 ≥ 65 then (if a0 ≤ 90 then (some ((a0 + 32) % 256)) else (some a0)) else (some a0)) = some r:=h
 clear h
 by_cases c2:a0 ≥ 65
 ·rw [ahC c2] at H
  have zl:decide (65 ≤ a0) = true:=ahE c2
  clear c2
  by_cases c3:a0 ≤ 90
  ·rw [ahC c3] at H
   have uH:decide (a0 ≤ 90) = true:=ahE c3
   clear c3
   obtain rfl:=aia H
   go_enter Try.func88,Try.ntmps88
   go_wp2
   go_ret
   exact ⟨by first | rfl | (simp;done) | (simp [*];done),by repeat (first | exact bL.refl _ | apply bL.step)⟩
  ·rw [ahD c3] at H
   have uH:decide (a0 ≤ 90) = false:=ahH c3
   clear c3
   obtain rfl:=aia H
   go_enter Try.func88,Try.ntmps88
   go_wp2
   go_ret
   exact ⟨by first | rfl | (simp;done) | (simp [*];done),by repeat (first | exact bL.refl _ | apply bL.step)⟩
 ·rw [ahD c2] at H
  have zl:decide (65 ≤ a0) = false:=ahH c2
  clear c2
  obtain rfl:=aia H
  go_enter Try.func88,Try.ntmps88
  go_wp2
  go_ret
  exact ⟨by first | rfl | (simp;done) | (simp [*];done),by repeat (first | exact bL.refl _ | apply bL.step)⟩
def iR.f (a0:ByteArray):Option ByteArray:=if a0.size ≤ 140737488355328 then some (B.kg a0) else none
theorem iR.small (c:Int) (h0:0 ≤ c) (h1:c ≤ 255):mH.f c = some (B.mF c):=by
 unfold mH.f B.mF
 by_cases h2:65 ≤ c
 ·by_cases h3:c ≤ 90
  ·rw [ahC (by omega),ahC h3,ahC ⟨h2,h3⟩];congr 1;omega
  ·rw [ahC (by omega),ahD h3,ahD (by omega)]
 ·rw [ahD (by omega),ahD (by omega)]
theorem iR.calls (a0:ByteArray) (r:ByteArray) (w:World) (h:iR.f a0 = some r) :
  Calls Try.prog 71 #[.string a0] w fun e w'=>e = .returned (.string r) ∧ Below w.heap.size w w':=by
 unfold iR.f at h
 by_cases hs:a0.size ≤ 140737488355328
 ·rw [ahC hs] at h
  obtain rfl:=aia h
  clear h
  have kc:=fun (W:World)=>Lib.run_convert_string_bytes (P:=Try.prog) W 9 151 5 a0 Try.underlying9 Try.underlying151 Try.underlying5
  have hb0:=ah.mk (B.F4 (Below.refl w.heap.size w) (ahG _) 5 a0)
  have hr0:=ah.mk (B.FZ w 5 a0)
  go_enter Try.func71,Try.ntmps71
  go_wp2
  generalize Lib.bytesWorld w 5 a0 = w1 at hb0 hr0 ⊢
  generalize grownCap w a0.size 0 5 = C
  have hz:=ah.mk (B.numsOf_length a0)
  have hg:=ah.mk (ahG w.heap.size)
  generalize hgg:w.heap.size = g at hb0 hr0 hg ⊢
  have hg':=ah.mk hgg
  clear hgg
  go_loopw [10] (fun v wr=>∃ k:Nat,k ≤ a0.size ∧ v = .int .i64 k ∧ ah (B.Eh wr g (B.kC k (B.numsOf a0))) ∧ ah (Below g w wr)) (fun v _=>a0.size - (intOf v).toNat)
  case atStart=>exact ⟨0,aij _,rfl,⟨by rw [B.FY];exact hr0.out⟩,hb0⟩
  case round =>
   obtain ⟨k,hk,rfl,hrow,hbel⟩:=hrel
   clear hr0 hb0 kc
   by_cases hlt:k < a0.size
   ·have hkl:k < (B.numsOf a0).length:=by rw [hz.out];exact hlt
    have hc:=(hrow.out k (by rw [B.lH];exact hkl))
    rw [B.M6 k _ hkl,B.numsOf_at] at hc
    obtain ⟨hc1,hc2⟩:=hc
    have hrange:=B.Ju a0 k
    have hsm:=ah.mk (iR.small (bt a0 k) hrange.1 hrange.2)
    have hset:=ah.mk (B.rowAt_set hrow.out k (B.mF (bt a0 k)) (by rw [B.lH];exact hkl))
    have hset':=ah.mk (show B.Eh (wr.setCell ⟨g,k,none⟩ (.int .u8 (B.mF (bt a0 k)))) g (B.kC (k + 1) (B.numsOf a0)) by
     have h1:=hset.out
     rw [← B.numsOf_at,B.Jt k _ hkl] at h1
     rw [← B.numsOf_at]
     exact h1)
    have Ai:=ah.mk (hbel.out.setCell (p:=⟨g,k,none⟩) (ahG _) (.int .u8 (B.mF (bt a0 k))))
    clear hset hrow hbel hkl
    generalize bt a0 k = c at *
    go_wp2_with (go_at_call 88;(with_reducible refine (mH.calls c _ _ hsm.out).mono ?_);rintro e w' ⟨rfl,⟨nd,rfl⟩⟩)
    go_roundw
    case rel=>exact ⟨k + 1,by omega,by go_num,⟨fun j hj=>hset'.out j hj⟩,⟨by first | exact Ai.out | exact ⟨Ai.out.os,Ai.out.tape,Ai.out.output,Ai.out.size,Ai.out.block⟩⟩⟩
    case measure=>simp [intOf];omega
   ·obtain rfl:k = a0.size:=by omega
    have hl:(B.kC a0.size (B.numsOf a0)).length = a0.size:=by rw [B.lH];exact hz.out
    have kd:=fun (dst:TypeId) (hd:Try.prog.underlying dst = some .string)=>run_convert_bytes_arg (P:=Try.prog) wr 151 5 Try.underlying151 Try.underlying5 g 0 a0.size C (B.kC a0.size (B.numsOf a0)) hl (fun i hi=>by rw [ah8];exact (hrow.out i (by rw [hl];exact hi)).1) dst hd
    replace kd:=kd 9 Try.underlying9
    have he:=ah.mk (show strOfNums (B.kC a0.size (B.numsOf a0)) = B.kg a0 by
     have:=B.Js (B.numsOf a0)
     rw [hz.out] at this
     rw [this];rfl)
    generalize strOfNums (B.kC a0.size (B.numsOf a0)) = q at kd he
    clear hrow hl hlt
    have he':=he.out
    clear he
    subst he'
    go_wp2
    go_ret
    exact ⟨rfl,by rw [hg'.out];exact hbel.out⟩
 ·rw [ahD hs] at h
  exact absurd h (by simp)
def mI.f (k:Nat) (a0:ByteArray):Option (ByteArray):=(fI.f k a0).bind fun JD=>(if JD = true then ((iR.f a0).bind fun t109=>(some t109)) else (some (⟨#[]⟩:ByteArray)))
theorem mI.calls (k:Nat) (a0:ByteArray) (r:ByteArray) (w:World) (h:mI.f k a0 = some r) :
  Calls Try.prog 48 #[.string a0] w fun e w'=>e = .returned (.string r) ∧ Below w.heap.size w w':=by
 have HB:=ah.mk (Below.refl w.heap.size w)
 have H:((fI.f k a0).bind fun JD=>(if JD = true then ((iR.f a0).bind fun t109=>(some t109)) else (some (⟨#[]⟩:ByteArray)))) = some r:=h
 clear h
 replace H:=zbm H
 obtain ⟨JD,Ng,H⟩:=H
 replace H:(if JD = true then ((iR.f a0).bind fun t109=>(some t109)) else (some (⟨#[]⟩:ByteArray))) = some r:=H
 have A2:=ah.mk Ng
 clear Ng
 by_cases c3:JD = true
 ·subst c3
  have H1:((iR.f a0).bind fun t109=>(some t109)) = some r:=by rw [ahC rfl] at H;exact H
  clear H
  have H:=H1
  clear H1
  replace H:=zbm H
  obtain ⟨t109,Te,H⟩:=H
  replace H:(some t109) = some r:=H
  have A4:=ah.mk Te
  clear Te
  obtain rfl:=aia H
  go_enter Try.func48,Try.ntmps48
  go_wp2_with (first | ((with_reducible refine eG (f:=70) rfl ?_);refine jP (some 4) rfl rfl Try.func70 (by kernel_rfl) rfl #[.string a0] rfl (by (try simp only [aix,ahO,ahV]) <;> rfl) ?_;(with_reducible refine (fI.calls k a0 true _ A2.out).mono ?_);rintro e w5 ⟨rfl,hb⟩;refine ⟨_,rfl,?_⟩;have iH:=ah.mk (dA (by repeat first | exact HB.out | apply ak | apply aj | apply av) hb);clear HB;have HB:=iH;clear iH;(try clear hb);(try clear hb2);(try clear hk);(try clear hi)) | ((with_reducible refine eG (f:=71) rfl ?_);refine jP (some 7) rfl rfl Try.func71 (by kernel_rfl) rfl #[.string a0] rfl (by (try simp only [aix,ahO,ahV]) <;> rfl) ?_;(with_reducible refine (iR.calls a0 t109 _ A4.out).mono ?_);rintro e w6 ⟨rfl,hb⟩;refine ⟨_,rfl,?_⟩;have iH:=ah.mk (dA (by repeat first | exact HB.out | apply ak | apply aj | apply av) hb);clear HB;have HB:=iH;clear iH;(try clear hb);(try clear hb2);(try clear hk);(try clear hi)))
  go_ret
  exact ⟨by first | rfl | (simp [aY,aZ] <;> rfl) | (simp [*,aY,aZ] <;> rfl),by repeat (first | exact HB.out | apply ak | apply aj | apply av)⟩
 ·replace c3:=aiB.mpr c3
  subst c3
  have H1:(some (⟨#[]⟩:ByteArray)) = some r:=by rw [ahD (show ¬ (false = true) by decide)] at H;exact H
  clear H
  have H:=H1
  clear H1
  obtain rfl:=aia H
  go_enter Try.func48,Try.ntmps48
  go_wp2_with (first | ((with_reducible refine eG (f:=70) rfl ?_);refine jP (some 4) rfl rfl Try.func70 (by kernel_rfl) rfl #[.string a0] rfl (by (try simp only [aix,ahO,ahV]) <;> rfl) ?_;(with_reducible refine (fI.calls k a0 false _ A2.out).mono ?_);rintro e w7 ⟨rfl,hb⟩;refine ⟨_,rfl,?_⟩;have iH:=ah.mk (dA (by repeat first | exact HB.out | apply ak | apply aj | apply av) hb);clear HB;have HB:=iH;clear iH;(try clear hb);(try clear hb2);(try clear hk);(try clear hi)))
  go_ret
  exact ⟨by first | rfl | (simp [aY,aZ] <;> rfl) | (simp [*,aY,aZ] <;> rfl),by repeat (first | exact HB.out | apply ak | apply aj | apply av)⟩
def tF.f (k:Nat) (a0:ByteArray):Option (ByteArray × Bool):=(fI.f k a0).bind fun JE=>(if JE = true then (if a0.toList = ([0]:List UInt8) then (some ((⟨#[]⟩:ByteArray),false)) else (if 0 < (a0.size:Int) then (if 0 ≤ (wrap64 (1 + (wrap64 (bt a0 0)))) then (if (wrap64 (1 + (wrap64 (bt a0 0)))) ≤ (a0.size:Int) then (some (a0.extract ((wrap64 (1 + (wrap64 (bt a0 0)))):Int).toNat a0.size,true)) else (none)) else (none)) else (none))) else (some ((⟨#[]⟩:ByteArray),false)))
theorem tF.calls (k:Nat) (a0:ByteArray) (r1:ByteArray) (r2:Bool) (w:World) (h:tF.f k a0 = some (r1,r2)) :
  Calls Try.prog 101 #[.string a0] w fun e w'=>e = .returned (.tuple #[.string r1,.bool r2]) ∧ Below w.heap.size w w':=by
 have HB:=ah.mk (Below.refl w.heap.size w)
 have H:((fI.f k a0).bind fun JE=>(if JE = true then (if a0.toList = ([0]:List UInt8) then (some ((⟨#[]⟩:ByteArray),false)) else (if 0 < (a0.size:Int) then (if 0 ≤ (wrap64 (1 + (wrap64 (bt a0 0)))) then (if (wrap64 (1 + (wrap64 (bt a0 0)))) ≤ (a0.size:Int) then (some (a0.extract ((wrap64 (1 + (wrap64 (bt a0 0)))):Int).toNat a0.size,true)) else (none)) else (none)) else (none))) else (some ((⟨#[]⟩:ByteArray),false)))) = some (r1,r2):=h
 clear h
 replace H:=zbm H
 obtain ⟨JE,Ng,H⟩:=H
 replace H:(if JE = true then (if a0.toList = ([0]:List UInt8) then (some ((⟨#[]⟩:ByteArray),false)) else (if 0 < (a0.size:Int) then (if 0 ≤ (wrap64 (1 + (wrap64 (bt a0 0)))) then (if (wrap64 (1 + (wrap64 (bt a0 0)))) ≤ (a0.size:Int) then (some (a0.extract ((wrap64 (1 + (wrap64 (bt a0 0)))):Int).toNat a0.size,true)) else (none)) else (none)) else (none))) else (some ((⟨#[]⟩:ByteArray),false))) = some (r1,r2):=H
 have A2:=ah.mk Ng
 clear Ng
 by_cases c3:JE = true
 ·subst c3
  have H1:(if a0.toList = ([0]:List UInt8) then (some ((⟨#[]⟩:ByteArray),false)) else (if 0 < (a0.size:Int) then (if 0 ≤ (wrap64 (1 + (wrap64 (bt a0 0)))) then (if (wrap64 (1 + (wrap64 (bt a0 0)))) ≤ (a0.size:Int) then (some (a0.extract ((wrap64 (1 + (wrap64 (bt a0 0)))):Int).toNat a0.size,true)) else (none)) else (none)) else (none))) = some (r1,r2):=by rw [ahC rfl] at H;exact H
  clear H
  have H:=H1
  clear H1
  by_cases c4:a0.toList = ([0]:List UInt8)
  ·rw [ahC c4] at H
   have Cc:(a0.toList == ([0]:List UInt8)) = true:=aie.mpr c4
   have Na:(a0.toList != ([0]:List UInt8)) = false:=aje.mpr c4
   clear c4
   simp only [ahP,ahU] at H
   obtain ⟨rfl,rfl⟩:=H
   go_enter Try.func101,Try.ntmps101
   go_wp2_with (first | ((with_reducible refine eG (f:=70) rfl ?_);refine jP (some 5) rfl rfl Try.func70 (by kernel_rfl) rfl #[.string a0] rfl (by (try simp only [aix,ahO,ahV]) <;> rfl) ?_;(with_reducible refine (fI.calls k a0 true _ A2.out).mono ?_);rintro e w5 ⟨rfl,hb⟩;refine ⟨_,rfl,?_⟩;have iH:=ah.mk (dA (by repeat first | exact HB.out | apply ak | apply aj | apply av) hb);clear HB;have HB:=iH;clear iH;(try clear hb);(try clear hb2);(try clear hk);(try clear hi)))
   go_ret2
   exact ⟨by first | rfl | (simp [aY,aZ] <;> rfl) | (simp [*,aY,aZ] <;> rfl),by repeat (first | exact HB.out | apply ak | apply aj | apply av)⟩
  ·rw [ahD c4] at H
   have Cc:(a0.toList == ([0]:List UInt8)) = false:=aiH.mpr c4
   have Na:(a0.toList != ([0]:List UInt8)) = true:=aiV.mpr c4
   by_cases c6:0 < (a0.size:Int)
   ·rw [ahC c6] at H
    have F9:decide (0 < (a0.size:Int)) = true:=ahE c6
    have JA:decide (0 < a0.size) = true:=ahE (by omega)
    clear c6
    obtain ⟨Tf,Nh⟩:∃ j_:Int,(wrap64 (1 + (wrap64 (bt a0 0)))) = j_:=⟨_,rfl⟩
    replace H:(if 0 ≤ (Tf) then (if (Tf) ≤ (a0.size:Int) then (some (a0.extract ((Tf):Int).toNat a0.size,true)) else (none)) else (none)) = some (r1,r2):=by first | (rw [Nh] at H;exact H) | (simp only [Nh] at H ⊢;exact H)
    (try rw [Nh] at A2)
    have agy:(IntKind.i64.wrap (1 + (wrap64 (bt a0 0)))) = Tf:=(gY _).trans Nh
    by_cases c9:0 ≤ (Tf)
    ·rw [ahC c9] at H
     have Ga:=ahM c9
     have Nb:decide (0 ≤ (Tf)) = true:=ahE c9
     clear c9
     by_cases c10:(Tf) ≤ (a0.size:Int)
     ·rw [ahC c10] at H
      have En:=ahM c10
      have H9:decide ((Tf) ≤ (a0.size:Int)) = true:=ahE c10
      clear c10
      simp only [ahP,ahU] at H
      obtain ⟨rfl,rfl⟩:=H
      go_enter Try.func101,Try.ntmps101
      go_wp2_with (first | ((with_reducible refine eG (f:=70) rfl ?_);refine jP (some 5) rfl rfl Try.func70 (by kernel_rfl) rfl #[.string a0] rfl (by (try simp only [aix,ahO,ahV]) <;> rfl) ?_;(with_reducible refine (fI.calls k a0 true _ A2.out).mono ?_);rintro e VR ⟨rfl,hb⟩;refine ⟨_,rfl,?_⟩;have iH:=ah.mk (dA (by repeat first | exact HB.out | apply ak | apply aj | apply av) hb);clear HB;have HB:=iH;clear iH;(try clear hb);(try clear hb2);(try clear hk);(try clear hi);have p7:0 ≤ (0:Int):=(by omega);have q7:0 < a0.size:=(by have:(0:Int) < (a0.size:Int):=ahY (by first | (with_reducible assumption) | assumption);omega);have hx7:∀ h:0 < a0.size,((a0[0]'h).toNat:Int) = bt a0 0:=oH a0 0;clear p7;have qi7:(0 < (a0.size:Int)) = True:=ahM (ahY (by first | (with_reducible assumption) | assumption));replace q7:=ahM q7))
      go_ret2
      exact ⟨by first | rfl | (simp [aY,aZ] <;> rfl) | (simp only [← Nh];first | rfl | (simp [aY,aZ] <;> rfl)) | (simp [*,aY,aZ] <;> rfl),by repeat (first | exact HB.out | apply ak | apply aj | apply av)⟩
     ·rw [ahD c10] at H
      exact absurd H (by simp)
    ·rw [ahD c9] at H
     exact absurd H (by simp)
   ·rw [ahD c6] at H
    exact absurd H (by simp)
 ·replace c3:=aiB.mpr c3
  subst c3
  have H1:(some ((⟨#[]⟩:ByteArray),false)) = some (r1,r2):=by rw [ahD (show ¬ (false = true) by decide)] at H;exact H
  clear H
  have H:=H1
  clear H1
  simp only [ahP,ahU] at H
  obtain ⟨rfl,rfl⟩:=H
  go_enter Try.func101,Try.ntmps101
  go_wp2_with (first | ((with_reducible refine eG (f:=70) rfl ?_);refine jP (some 5) rfl rfl Try.func70 (by kernel_rfl) rfl #[.string a0] rfl (by (try simp only [aix,ahO,ahV]) <;> rfl) ?_;(with_reducible refine (fI.calls k a0 false _ A2.out).mono ?_);rintro e w12 ⟨rfl,hb⟩;refine ⟨_,rfl,?_⟩;have iH:=ah.mk (dA (by repeat first | exact HB.out | apply ak | apply aj | apply av) hb);clear HB;have HB:=iH;clear iH;(try clear hb);(try clear hb2);(try clear hk);(try clear hi)))
  go_ret2
  exact ⟨by first | rfl | (simp [aY,aZ] <;> rfl) | (simp [*,aY,aZ] <;> rfl),by repeat (first | exact HB.out | apply ak | apply aj | apply av)⟩
end
end Go.Proofs.Ytfokaoeinpnagaa.ZQ
